/- Qf, Qh, Qj, Qr, Qs. -/
import Derived.Test.YtekcpadlmfaihaaGreatYPEa
import Derived.Test.YtekcpadlmfaihaaGreatYPNha
import Derived.Test.YtekcpadlmfaihaaGreatYPNi
import Derived.Test.YtekcpadlmfaihaaGreatYPNs
import Derived.Test.YtekcpadlmfaihaaGreatYPNsu
import Derived.Test.YtekcpadlmfaihaaGreatYPNsp
import Derived.Test.YtekcpadlmfaihaaGreatYPDo
namespace Go.Proofs.YtekcpadlmfaihaaGreat
open Go.RowKit Proofs.Tryz
set_option maxHeartbeats 8000000
set_option maxRecDepth 100000
set_option linter.unusedSimpArgs false
set_option linter.unusedVariables false
variable {x:Hop} {h:Hp} {kd pt:Int} {R:List As} {X:List Nat} {n q:Nat} {fr nm s:Str} {v:Vec} {w w0:World}
def StI (h:Hp) (x:Hop) (R:Hp) (r:Str):Prop:=∀(cs cx:List Value) (w:World),rep w w.heap.size h.toD cs->rep w w.heap.size x.toD cx->Calls prog 10 #[av cs,av cx] w (eH R.toD 28 (sv r) w)
def StS (h:Hp) (x:Hop) (R:Hp) (r:Str):Prop:=∀(cs cx:List Value) (w:World),rep w w.heap.size h.toD cs->rep w w.heap.size x.toD cx->Calls prog 11 #[av cs,av cx] w (eH R.toD 28 (sv r) w)
def Gr (h:Hp) (v:Vec) (R:Hp):Prop:=szD R.toD<=szD h.toD+2*szD v.toD+30000/\(h.copies<=1000->fG R=true/\R.copies<=h.copies+1/\(GD h->GD R))
theorem Gr.same (hk:fG h=true):Gr h v h:=⟨by omega,λ_=>⟨hk,by omega,λG=>G⟩⟩
theorem La (h:je ⟨kd,nm,fr,pt,v⟩=true):isNm nm=true:=by simp only[je,ax]at h;exact h.1.1.1
theorem zS (hn:¬hasN h s=true):cellD h s= -1/\ix h.names s 0<0:=by refine⟨by unfold cellD;rw[aH hn],?_⟩;simp only[hasN,aL]at hn;omega
structure SF (h:Hp) (s:Str) (p i:Nat) (x:Cel):Prop where
 at_:ix h.names s 0=(p:Int)
 slot:h.slots[p]?=some (i:Int)
 sd:slotD h s=(i:Int)
 cd:cellD h s=(i:Int)
 cel:h.cells[i]?=some x
 dep:depD h 3 (i:Int)=true
 vec:isVec (asm h 3 (i:Int))=true
 fit:fitP h 3 (i:Int)
 val:x.value=noParts (asm h 3 (i:Int))
 par:(asm h 3 (i:Int)).parts.length=x.parts.length
 sz:szD x.value.toD<=10000
theorem wR (hk:fG h=true):∀x∈h.cells,x.value.parts=[]:=by obtain⟨h1,h2,h3⟩:=jc hk;intro x hx;obtain⟨i,hi⟩:=List.getElem?_of_mem hx;have h4:=iC.1 h2 i x hi;simp only[m9,ax,aL]at h4;exact aR.1 h4.1.2
theorem SF.of (hk:fG h=true) (hn:hasN h s=true):∃(p i:Nat) (x:Cel),SF h s p i x:=by
 obtain⟨p,hp,mD,hs,h0,hl,hd,hv⟩:=BA hk hn;obtain⟨i,hi⟩:=bQ h0;rw[hi]at hs hd hv hl;have hil:i<h.cells.length:=dP;have hx:h.cells[i]?=some h.cells[i]:=aw hil;have ld:=iI hx;have rk:=wR hk _ (dA hil);have e:asm h 3 (i:Int)={h.cells[i].value with parts:=h.cells[i].parts.map (asm h 2)}:=by rw[asm,ld]
 have ev:h.cells[i].value=noParts (asm h 3 (i:Int)):=by rw[e];exact(qE rk).symm
 refine⟨p,i,h.cells[i],hp,hs,hi,by unfold cellD;rw[aN hn,hi],hx,hd,hv,by rw[<-hi];exact tS hk hn,ev,by rw[e];simp,?_⟩;rw[ev];exact BD hv
theorem Vp (h:isNm s=true):1<=s.length/\s.length<=20:=by unfold isNm at h;simp only[ax,aL]at h;exact h.2
theorem sX (h:je ⟨kd,nm,fr,pt,v⟩=true):(1<=nm.length/\nm.length<=20)/\isVec v=true/\(kd=0\/kd=1\/kd=2\/kd=3)/\(kd=2->(1<=pt/\pt<=40)/\(1<=v.kind/\v.kind<=3)/\v.items.length=1)/\(kd=3->1<=fr.length/\fr.length<=20):=by
 simp only[je,ax,AV]at h;obtain⟨⟨⟨h1,h2⟩,h3⟩,h4⟩:=h;refine⟨Vp h1,h2,?_,λe=>?_,λe=>?_⟩
 ·by_cases e0:kd=0
  ·exact .inl e0
  ·rw[aH e0]at h4;by_cases e2:kd=2
   ·exact .inr (.inr (.inl e2))
   ·rw[aH e2]at h4;by_cases e3:kd=1\/kd=3
    ·omega
    ·rw[aH e3]at h4;cases h4
 ·rw[aH dP,aN e]at h4;simp only[ax,aL,atomK]at h4;exact⟨h4.1.1.2,h4.1.2,h4.2⟩
 ·rw[aH dP,aH dP,aN (.inr e)]at h4;simp only[ax]at h4;exact Vp h4.1
theorem UT {j:Nat} {y:Cel} (e:h.cells[j]?=some y):szD (eG h j (gE y)).toD<=szD h.toD:=by have g:=wT h j (gE y);rw[iI e,Bu,Bu]at g;have e1:(gE y).value=y.value:=rfl;have e2:(gE y).parts=y.parts:=rfl;rw[e1,e2]at g;omega
theorem RK (hk:fG h=true) (hz:szD h.toD<=4194304) (hx:je ⟨0,nm,fr,pt,v⟩=true):∃(R:Hp) (r:Str),StI h ⟨0,nm,fr,pt,v⟩ R r/\StS h ⟨0,nm,fr,pt,v⟩ R r/\Gr h v R:=by
 obtain⟨hnm,hv,-,-,-⟩:=sX hx;have ZJ:=(i6 hv).1;obtain⟨z1,z2⟩:=sV hz;have hl:=(jc hk).1;obtain⟨h1,k,e,p1,p2,p3,p4,p5⟩:=Xc hk hz nm v ZJ (by have:=vz hv;omega);exact⟨fd h1 nm k,[],λcs cx w a b=>Iy h nm fr pt v _ _ h1 k hz hk hl hx (eC hv) rfl rfl cs cx w a b e p1 p2 p3 p4 p5,
  λcs cx w a b=>I0 h nm fr pt v _ _ h1 k hz hk hl dP (wR hk) hx (eC hv) rfl rfl cs cx w a b e p1 ZJ p2 p3 p4 p5,by have g1:=UP 4 h v;have g2:=Ld h1 nm k;rw[e]at g1;refine⟨by simp only at g1;omega,λ_=>?_⟩;obtain⟨q1,q2,q3⟩:=TZ hk hz (La hx) hv e;exact⟨q1,by omega,q3⟩⟩
theorem P7 (hk:fG h=true) (hz:szD h.toD<=4194304) (hx:je ⟨1,nm,fr,pt,v⟩=true):∃(R:Hp) (r:Str),StI h ⟨1,nm,fr,pt,v⟩ R r/\StS h ⟨1,nm,fr,pt,v⟩ R r/\Gr h v R:=by
 obtain⟨hnm,hv,-,-,-⟩:=sX hx;obtain⟨z1,z2⟩:=sV hz;have hl:=(jc hk).1;by_cases hf:hasN h fr=true
 ·obtain⟨p,i,x,S⟩:=SF.of hk hf;obtain⟨j,y,e1,e2,e3,e4,e5,-,-,e8⟩:=NV hk hz nm fr hf;have ej:(i:Int)=(j:Int):=by rw[<-S.sd,e2]
  exact⟨fd (eG h j (gE y)) nm (j:Int),[],λcs cx w a b=>vu h nm fr pt v _ _ _ _ hz hk hl hx (eC hv) rfl rfl cs cx w a b dP (.inr ⟨j,y,e1,e3,e4,e5,e8,rfl,rfl⟩),
   λcs cx w a b=>vZ h nm fr pt v _ _ _ _ hz hk hl dP (wR hk) hx (eC hv) rfl rfl cs cx w a b dP (.inr ⟨p,j,y,S.at_,by rw[<-ej];exact S.slot,e3,e4,e5,e8,rfl,rfl⟩),by have g1:=UT e3;have g2:=Ld (eG h j (gE y)) nm (j:Int);refine⟨by omega,λ_=>?_⟩;obtain⟨q1,q2,q3⟩:=S7 hk (La hx) e3 (by rw[<-ej];exact aA S.slot);exact⟨q1,by omega,q3⟩⟩
 ·obtain⟨n1,n2⟩:=zS hf;exact⟨h,_,λcs cx w a b=>vu h nm fr pt v _ _ _ _ hz hk hl hx (eC hv) rfl rfl cs cx w a b dP (.inl ⟨by omega,rfl,rfl⟩),
   λcs cx w a b=>vZ h nm fr pt v _ _ _ _ hz hk hl dP (wR hk) hx (eC hv) rfl rfl cs cx w a b dP (.inl ⟨n2,rfl,rfl⟩),Gr.same hk⟩
theorem Oo (hk:fG h=true) (hz:szD h.toD<=4194304) (hx:je ⟨2,nm,fr,pt,v⟩=true):∃(R:Hp) (r:Str),StI h ⟨2,nm,fr,pt,v⟩ R r/\StS h ⟨2,nm,fr,pt,v⟩ R r/\Gr h v R:=by
 obtain⟨hnm,hv,-,h2,-⟩:=sX hx;obtain⟨hpt,hvk,tx⟩:=h2 rfl;obtain⟨z1,z2⟩:=sV hz;have hl:=(jc hk).1;have rk:=wR hk;by_cases hn:hasN h nm=true
 ·obtain⟨p,i,x,S⟩:=SF.of hk hn;have ld:=iI S.cel;obtain⟨rv,rs,⟨SI,SS⟩,mP⟩:∃(rv:Vec) (rs:Str),wH (asm h 3 (i:Int)) v pt rv rs/\(rs=[]->(rv.kind=4↔(asm h 3 (i:Int)).kind=4)/\isVec rv=true):=by
   by_cases h5:(asm h 3 (i:Int)).kind=5
   ·exact⟨_,_,Qb S.vec hv h5,λe=>by cases e⟩
   ·exact N8 S.vec hv hvk tx hpt h5
  obtain⟨OK,k,x2,o1,o2,o3,-,o5,-,-⟩:=VA (s:=nm) hl dP hn (by rw[S.sd];exact S.fit) (λk=>by have:=xP hk hz k;omega) (by rw[S.sd,ld];exact rk _ (aA S.cel)) (by rw[S.sd,ld];have:=S.sz;omega) z1;have iU:∀R r,((rs.isEmpty=false/\R=h/\r=rs)\/(rs=[]/\(asm h 3 (i:Int)).kind=4/\R=h/\r=[110,111,116,32,97,110,32,97,116,111,109,105,99,32,118,101,99,116,111,114])\/(rs=[]/\¬(asm h 3 (i:Int)).kind=4/\R=eG (iz h nm).1 k (⟨x2.count,rv,x2.parts⟩:Cel)/\r=[]))->StI h ⟨2,nm,fr,pt,v⟩ R r/\StS h ⟨2,nm,fr,pt,v⟩ R r:=by
   intro R r hc;refine⟨λcs cx w a b=>uH h nm fr pt v _ _ R r _ rv rs hz hk hl hx (eC hv) rfl rfl cs cx w a b hpt (.inr ⟨i,S.cd,S.dep,rfl,SI,?_⟩),
    λcs cx w a b=>uJ h nm fr pt v _ _ R r _ rv rs hz hk hl dP rk hx (eC hv) rfl rfl cs cx w a b hpt (.inr ⟨p,i,S.at_,S.slot,S.dep,rfl,SS,?_⟩)⟩
   ·rcases hc with hc|hc|⟨c1,c2,c3,c4⟩
    ·exact .inl hc
    ·exact .inr (.inl hc)
    ·exact .inr (.inr ⟨c1,c2,(iz h nm).1,k,x2,λg F W H=>by have:=Q9 h nm g F W H eb OK;rw[o1]at this;exact this,o2,c3,c4⟩)
   ·rcases hc with hc|⟨c1,c2,c3,c4⟩|⟨c1,c2,c3,c4⟩
    ·exact .inl hc
    ·exact .inr (.inl ⟨c1,(mP c1).1.2 c2,c3,c4⟩)
    ·exact .inr (.inr ⟨c1,λe=>c2 ((mP c1).1.1 e),(i6 (mP c1).2).1,by have:=vz (mP c1).2;omega,(iz h nm).1,k,x2,λg F W H=>by have:=Ed h nm g F W H eb OK;rw[o1]at this;exact this,o2,c3,c4⟩)
  by_cases e:rs=[]
  ·by_cases h4:(asm h 3 (i:Int)).kind=4
   ·obtain⟨k1,k2⟩:=iU _ _ (.inr (.inl ⟨e,h4,rfl,rfl⟩));exact⟨_,_,k1,k2,Gr.same hk⟩
   ·obtain⟨k1,k2⟩:=iU _ _ (.inr (.inr ⟨e,h4,rfl,rfl⟩));refine⟨_,_,k1,k2,?_⟩;obtain⟨q1,q2⟩:=mP e;have q3:¬rv.kind=4:=λz=>h4 (q1.1 z);have F:=jf q2;have q4:rv.parts=[]:=by
     rcases bz rv.parts.length with z|z
     ·exact aR.1 z
     ·exact absurd (F.np z) q3
    have q5:=BD q2;have q6:noParts rv=rv:=qE q4;rw[q6]at q5;have g1:=wT (iz h nm).1 k (⟨x2.count,rv,x2.parts⟩:Cel);have g2:=UO h nm;rw[S.sd,ld,Bu]at g2;rw[S.sd,ld]at o5;rw[Bu (⟨x2.count,rv,x2.parts⟩:Cel)]at g1;have g3:=S.sz;have g4:x.parts.length<=40:=by rw[<-S.par];have:=(jf S.vec).len;omega
    have g5:x2.parts.length<=40:=by rw[o5];exact g4
    simp only at g1;have TE:x.parts=[]:=by
     have h7:=S.fit;rcases bz x.parts.length with z|z
     ·exact aR.1 z
     ·have h8:=(jf S.vec).np (by rw[S.par];exact z);exact absurd h8 h4
    exact⟨by omega,λhc=>Y0 hk hn (La hx) o1 o2 o3 (by rw[o5];exact TE) q2 q4 hc⟩
  ·obtain⟨k1,k2⟩:=iU _ _ (.inl ⟨by cases rs;exact absurd rfl e;rfl,rfl,rfl⟩);exact⟨_,_,k1,k2,Gr.same hk⟩
 ·obtain⟨n1,n2⟩:=zS hn;exact⟨h,_,λcs cx w a b=>uH h nm fr pt v _ _ _ _ zeroV zeroV [] hz hk hl hx (eC hv) rfl rfl cs cx w a b hpt (.inl ⟨by omega,rfl,rfl⟩),
   λcs cx w a b=>uJ h nm fr pt v _ _ _ _ zeroV zeroV [] hz hk hl dP rk hx (eC hv) rfl rfl cs cx w a b hpt (.inl ⟨n2,rfl,rfl⟩),Gr.same hk⟩
theorem VD (hk:fG h=true) (hz:szD h.toD<=4194304) (hx:je ⟨3,nm,fr,pt,v⟩=true):∃(R:Hp) (r:Str),StI h ⟨3,nm,fr,pt,v⟩ R r/\StS h ⟨3,nm,fr,pt,v⟩ R r/\Gr h v R:=by
 obtain⟨hnm,hv,-,-,h3⟩:=sX hx;have Tw:=h3 rfl;obtain⟨z1,z2⟩:=sV hz;have hl:=(jc hk).1;have rk:=wR hk;have lJ:=eC hv;by_cases hn:hasN h nm=true
 ·obtain⟨p,i,xi,S⟩:=SF.of hk hn;by_cases hf:hasN h fr=true
  ·obtain⟨q,j,xj,T⟩:=SF.of hk hf;obtain⟨j',y',e1,e2,e3,e4,e5,K1,B1,-⟩:=NV hk hz nm fr hf;obtain rfl:j'=j:=by have:=e2.symm.trans T.sd;omega
   obtain rfl:y'=xj:=by have:=e3.symm.trans T.cel;injection this
   have ei:xi.value.kind=(asm h 3 (i:Int)).kind:=by rw[S.val]
   have ej:y'.value.kind=(asm h 3 (j':Int)).kind:=by rw[T.val]
   obtain⟨rI,rS,rs,FI,FS,mP⟩:=Pi (nm:=fr) S.vec T.vec ⟨Tw.1,by omega⟩;have hi:=S.cd;by_cases e:rs=[]
   ·subst e;by_cases h4:(asm h 3 (i:Int)).kind=4
    ·by_cases h0:(asm h 3 (j':Int)).kind=0
     ·exact⟨h,_,λcs cx w a b=>mE h nm fr pt v _ _ _ _ _ _ rI [] hz hk hl hx lJ rfl rfl cs cx w a b (.inr (.inr ⟨i,j',S.cd,T.cd,S.dep,rfl,T.dep,rfl,FI,.inr (.inr (.inl ⟨rfl,h4,h0,rfl,rfl⟩))⟩)),
       λcs cx w a b=>mN h nm fr pt v _ _ _ _ _ _ rS [] hz hk hl dP rk hx lJ rfl rfl cs cx w a b (.inr (.inr ⟨p,q,i,j',xi,y',S.at_,T.at_,S.slot,T.slot,S.cel,T.cel,S.dep,rfl,T.dep,rfl,FS,.inr (.inr (.inl ⟨rfl,by rw[ei];exact h4,by rw[ej];exact h0,rfl,rfl⟩))⟩)),Gr.same hk⟩
     ·obtain⟨m,hm40,hmp,hrS,gF⟩:=mP rfl h4 h0;have hjl:=(ay.1 T.cel).1;have AA:(celD (eG h j' (gE y')) (i:Int)).value=xi.value:=by
       rw[fQ hjl];split
       ·next hij=>
        obtain rfl:i=j':=dP;have:=S.cel.symm.trans T.cel;injection this with this;rw[this];rfl
       ·rw[iI S.cel]
      have aa_:0<(celD h (i:Int)).count:=(sR S.fit).1;have hcp:(celD (eG h j' (gE y')) (i:Int)).parts=xi.parts:=by rw[(K1 _ aa_).1,iI S.cel]
      have X4:slotD (eG h j' (gE y')) nm=(i:Int):=S.sd;obtain⟨OK,k,x2,o1,o2,o3,o4,o5,o6,o7⟩:=VA (h:=eG h j' (gE y')) (s:=nm) hl (by show (h.names.length:Int)<=_;omega) hn (by rw[X4];exact qK K1 S.fit) B1 (by rw[X4,AA];exact rk _ (aA S.cel)) (by rw[X4,AA];have:=S.sz;omega) (by show (h.cells.set _ _).length<=_;rw[da];exact z1);rw[X4]at o4 o5;rw[AA]at o4;rw[hcp]at o5;obtain⟨OC,-⟩:=rm S.vec h4;have L:LV (asm h 3 (i:Int)).parts (asm h 3 (i:Int)).names (asm h 3 (i:Int)).cls:=LV.of (by rw[<-OC];exact S.vec);have ZL:x2.value.names=(asm h 3 (i:Int)).names:=by rw[o4,S.val]
      have TE:x2.parts.length=(asm h 3 (i:Int)).parts.length:=by rw[o5,S.par]
      have hxk:x2.value.kind=4:=by rw[o4,ei,h4]
      have hnl:x2.value.names.length<=40:=by rw[ZL];exact L.n60.1
      have mD:x2.parts.length<=40:=by rw[TE];exact L.l
      obtain⟨pn1,pn2⟩:=J_ (cls:=(asm h 3 (i:Int)).cls) (x:=asm h 3 (j':Int)) L.n Tw.1 hmp;rw[<-hrS,<-ZL]at pn1 pn2;rw[<-TE]at pn1;obtain⟨m',hm',hmq,-,hmo⟩:=E7 (nm:=fr) L.l L.n;have Nj:rS.names.length<=40:=pB (jf gF);have hlt:∀u:Nat,ix x2.value.names fr 0=(u:Int)->u<x2.parts.length:=λu hu=>by rw[ZL]at hu;rw[TE];exact(hmo u hu).2.1
      have hx0:∀ps:List Int,(0:Int)<=(⟨x2.count,x2.value,ps⟩:Cel).count/\(⟨x2.count,x2.value,ps⟩:Cel).count<=1152921504606846976:=λps=>by show 0<=x2.count/\x2.count<=_;omega
      have XX:∀u:Nat,tb x2 u (j':Int)=(⟨x2.count,x2.value,x2.parts.set u (j':Int)⟩:Cel):=λu=>by unfold tb;rw[Z2 hxk]
      refine⟨if 0<=ix x2.value.names fr 0 then iD 5 (eG (iz (eG h j' (gE y')) nm).1 k (tb x2 (ix x2.value.names fr 0).toNat (j':Int))) ((x2.parts[(ix x2.value.names fr 0).toNat]?).getD 0) else eG (iz (eG h j' (gE y')) nm).1 k (qb x2 fr (j':Int)),[],λcs cx w a b=>?_,λcs cx w a b=>?_,?_⟩
      ·refine mE h nm fr pt v _ _ _ _ _ _ rI [] hz hk hl hx lJ rfl rfl cs cx w a b (.inr (.inr ⟨i,j',S.cd,T.cd,S.dep,rfl,T.dep,rfl,FI,.inr (.inr (.inr ⟨rfl,h4,h0,λg F W H=>?_,rfl⟩))⟩));refine Ly h _ nm fr j' k y' x2 _ g F W H hl T.cd T.cel e4 e5 (λF W H=>?_) o2 rfl hnl mD eb (λu hu=>?_)
       ·have:=Q9 _ nm g F W H eb OK;rw[o1]at this;exact this
       ·have hul:=hlt u hu;have hy:=aw hul;refine⟨_,hy,?_⟩;rw[XX];exact(NJ o6 o2 hy o7 (hx0 _)).1
      ·refine mN h nm fr pt v _ _ _ _ _ _ rS [] hz hk hl dP rk hx lJ rfl rfl cs cx w a b (.inr (.inr ⟨p,q,i,j',xi,y',S.at_,T.at_,S.slot,T.slot,S.cel,T.cel,S.dep,rfl,T.dep,rfl,FS,.inr (.inr (.inr ⟨rfl,by rw[ei];exact h4,by rw[ej];exact h0,e4,e5,by omega,⟨(iz (eG h j' (gE y')) nm).1,k,x2,_,λg F W H=>?_,o2,rfl,hnl,mD,?_⟩,rfl⟩))⟩))
       ·have:=Ed _ nm g F W H eb OK;rw[o1]at this;exact this
       ·by_cases ha:0<=ix x2.value.names fr 0
        ·obtain⟨u,hu⟩:=bQ ha;have hul:=hlt u hu;have hy:=aw hul;obtain⟨r1,r2⟩:=NJ o6 o2 hy o7 (hx0 (x2.parts.set u (j':Int)));refine .inr ⟨u,_,_,hu,hy,r1,r2,?_⟩;rw[aN ha,hu,aU,XX,hy,bV,pn2 ha];refine(S6 r2).symm.trans ?_;congr 1;generalize x2.value=V;cases V;rfl
        ·refine .inl ⟨by omega,?_⟩;rw[aH ha,pn1 dP];unfold qb;rw[<-hxk]
      ·have g0:=UT T.cel;have g1:=UO (eG h j' (gE y')) nm;rw[X4,Bu,AA,hcp]at g1;have g2:=S.sz;have g3:xi.parts.length<=40:=by rw[<-o5];exact mD
       have F:=jf S.vec;refine⟨?_,λhc=>YD hk hn (La hx) T.cel (aA T.slot) (by rw[S.sd]) h4 Tw.1 o1 o2 o3 hmp (by rw[<-hrS];exact gF) hc⟩;split
       ·have g4:=PA 5 (eG (iz (eG h j' (gE y')) nm).1 k (tb x2 (ix x2.value.names fr 0).toNat (j':Int))) ((x2.parts[(ix x2.value.names fr 0).toNat]?).getD 0);have g5:=wT (iz (eG h j' (gE y')) nm).1 k (tb x2 (ix x2.value.names fr 0).toNat (j':Int));rw[Bu (tb _ _ _),XX]at g5;rw[XX]at g4 ⊢;have g6:szD x2.value.toD<=10000:=by rw[o4];exact g2
        simp only[da]at g5;omega
       ·next ha=>
        have g5:=wT (iz (eG h j' (gE y')) nm).1 k (qb x2 fr (j':Int));rw[Bu (qb _ _ _)]at g5;have hB:VB (qb x2 fr (j':Int)).value 0:=by
         have B:=F.vb (B:=740880000) (λx hx=>(L.p x hx).2);have e1:(qb x2 fr (j':Int)).value.names=rS.names:=(pn1 dP).symm;refine⟨?_,?_,?_,?_,?_⟩
         ·show x2.value.items.length<=41/\∀x∈x2.value.items,_;rw[o4,S.val];exact B.i
         ·show x2.value.parts.length<=41/\∀x∈x2.value.parts,_;rw[o4,S.val];exact⟨by simp,by simp⟩
         ·rw[e1];exact⟨by omega,(jf gF).names⟩
         ·show x2.value.cls.length<=40/\∀x∈x2.value.cls,_;rw[o4,S.val];exact B.c
         ·show x2.value.levels.length<=40/\∀x∈x2.value.levels,_;rw[o4,S.val];exact B.l
        have g6:=hB.sz;have g7:(qb x2 fr (j':Int)).parts.length=x2.parts.length+1:=by show (x2.parts++[_]).length=_;simp
        omega
    ·exact⟨h,_,λcs cx w a b=>mE h nm fr pt v _ _ _ _ _ _ rI [] hz hk hl hx lJ rfl rfl cs cx w a b (.inr (.inr ⟨i,j',S.cd,T.cd,S.dep,rfl,T.dep,rfl,FI,.inr (.inl ⟨rfl,h4,rfl,rfl⟩)⟩)),
      λcs cx w a b=>mN h nm fr pt v _ _ _ _ _ _ rS [] hz hk hl dP rk hx lJ rfl rfl cs cx w a b (.inr (.inr ⟨p,q,i,j',xi,y',S.at_,T.at_,S.slot,T.slot,S.cel,T.cel,S.dep,rfl,T.dep,rfl,FS,.inr (.inl ⟨rfl,by rw[ei];exact h4,rfl,rfl⟩)⟩)),Gr.same hk⟩
   ·have e':rs.isEmpty=false:=by cases rs;exact absurd rfl e;rfl
    exact⟨h,rs,λcs cx w a b=>mE h nm fr pt v _ _ _ _ _ _ rI rs hz hk hl hx lJ rfl rfl cs cx w a b (.inr (.inr ⟨i,j',S.cd,T.cd,S.dep,rfl,T.dep,rfl,FI,.inl ⟨e',rfl,rfl⟩⟩)),
     λcs cx w a b=>mN h nm fr pt v _ _ _ _ _ _ rS rs hz hk hl dP rk hx lJ rfl rfl cs cx w a b (.inr (.inr ⟨p,q,i,j',xi,y',S.at_,T.at_,S.slot,T.slot,S.cel,T.cel,S.dep,rfl,T.dep,rfl,FS,.inl ⟨e',rfl,rfl⟩⟩)),Gr.same hk⟩
  ·obtain⟨n1,n2⟩:=zS hf;exact⟨h,_,λcs cx w a b=>mE h nm fr pt v _ _ _ _ zeroV zeroV zeroV [] hz hk hl hx lJ rfl rfl cs cx w a b (.inr (.inl ⟨i,S.cd,by omega,rfl,rfl⟩)),
    λcs cx w a b=>mN h nm fr pt v _ _ _ _ zeroV zeroV zeroV [] hz hk hl dP rk hx lJ rfl rfl cs cx w a b (.inr (.inl ⟨p,S.at_,n2,rfl,rfl⟩)),Gr.same hk⟩
 ·obtain⟨n1,n2⟩:=zS hn;exact⟨h,_,λcs cx w a b=>mE h nm fr pt v _ _ _ _ zeroV zeroV zeroV [] hz hk hl hx lJ rfl rfl cs cx w a b (.inl ⟨by omega,rfl,rfl⟩),
   λcs cx w a b=>mN h nm fr pt v _ _ _ _ zeroV zeroV zeroV [] hz hk hl dP rk hx lJ rfl rfl cs cx w a b (.inl ⟨n2,rfl,rfl⟩),Gr.same hk⟩
theorem Jr:szD (Hp.toD ⟨[],[],[],0⟩)=0:=by rw[kD];simp [gv]
theorem YR (hk:fG h=true) (hz:szD h.toD<=4194304) (hx:je x=true):∃(R:Hp) (r:Str),StI h x R r/\StS h x R r/\Gr h x.value R:=by
 obtain⟨kd,nm,fr,pt,v⟩:=x;obtain⟨-,-,h4,-,-⟩:=sX hx;rcases h4 with rfl|rfl|rfl|rfl
 ·exact RK hk hz hx
 ·exact P7 hk hz hx
 ·exact Oo hk hz hx
 ·exact VD hk hz hx
inductive RunR:Hp->Nat->List Hop->Hp->Nat->Prop
 |nil (h:Hp) (n:Nat):RunR h n [] h n
 |bad {h:Hp} {n:Nat} {x:Hop} {t:List Hop} {R G:Hp} {r:Str} {m:Nat}:StI h x R r->StS h x R r->r.isEmpty=false->RunR h (n+1) t G m->RunR h n (x::t) G m
 |ok {h:Hp} {n:Nat} {x:Hop} {t:List Hop} {R G:Hp} {m:Nat}:StI h x R []->StS h x R []->RunR R n t G m->RunR h n (x::t) G m
theorem aaO {G:Hp}{m:Nat} (H:RunR h n [] G m):h=G/\n=m:=by cases H;exact⟨rfl,rfl⟩
theorem aas {h G:Hp} {n m j:Nat} {l:List Hop} {x:Hop} (hx:l[j]?=some x) (H:RunR h n (l.drop j) G m):∃(R:Hp) (r:Str),StI h x R r/\StS h x R r/\((r.isEmpty=false/\RunR h (n+1) (l.drop (j+1)) G m)\/(r=[]/\RunR R n (l.drop (j+1)) G m)):=by
 obtain⟨hj,e⟩:=ay.1 hx;rw[cR hj,e]at H;cases H with
 |bad a b c d=>exact⟨_,_,a,b,.inl ⟨c,d⟩⟩
 |ok a b d=>exact⟨_,_,a,b,.inr ⟨rfl,d⟩⟩
theorem T2 {f:Nat} {args:Array Value} {Ψ:Ending->World->Prop} {y:Value} (hc:Calls prog f args w (eH h.toD 28 y w)) (M:Mem prog w0 X w R) (hK:∀(x:Gh) w',Mem prog w0 X w' (.ow h.toD 28 [.slice (x.A 1) h.cells.length (x.C 1),.slice (x.A 2) h.names.length (x.C 2),.slice (x.A 3) h.slots.length (x.C 3),h.copies]::R)->Ψ (.returned (.tuple #[.agg #[.slice (x.A 1) h.cells.length (x.C 1),.slice (x.A 2) h.names.length (x.C 2),.slice (x.A 3) h.slots.length (x.C 3),h.copies],y])) w'):Calls prog f args w Ψ:=
 hc.mono λe w' hn=>by obtain⟨cs,F,rfl,ho,hf,hb⟩:=hn;have M':=M.gain ho hf hb;obtain⟨Ah,ch,An,cn,Ak,ck,rfl,-⟩:=gV (M'.rp 0 rfl);exact hK (Ow [(none,0),(Ah,ch),(An,cn),(Ak,ck)]) w' M'
theorem aap {B:Nat} {l:List Hop} {A:Option Addr}{c k:Nat} (h:rep w B (.sl (l.map Hop.toD)) [.slice A n c]) (hk:k<n):
 ∃(b off:Nat) (x:Hop) (Ai:Option Addr) (ci:Nat) (Ap:Option Addr) (cp:Nat) (An:Option Addr) (cn:Nat) (Ac:Option Addr) (cc:Nat) (Al:Option Addr) (cl:Nat),A=some ⟨b,off,none⟩/\b<B/\l[k]?=some x/\
  rep w B x.toD [x.kind,sv x.name,sv x.frm,x.at_,x.value.kind,.slice Ai x.value.items.length ci,.slice Ap x.value.parts.length cp,.slice An x.value.names.length cn,.slice Ac x.value.cls.length cc,.slice Al x.value.levels.length cl,x.value.code,x.value.env]/\
  w.cell? ⟨b,off+k*12,none⟩=some (.int .i64 x.kind)/\w.cell? ⟨b,off+k*12+1,none⟩=some (sv x.name)/\w.cell? ⟨b,off+k*12+2,none⟩=some (sv x.frm)/\w.cell? ⟨b,off+k*12+3,none⟩=some (.int .i64 x.at_)/\w.cell? ⟨b,off+k*12+4,none⟩=some (.int .i64 x.value.kind)/\
  w.cell? ⟨b,off+k*12+5,none⟩=some (.slice Ai x.value.items.length ci)/\w.cell? ⟨b,off+k*12+6,none⟩=some (.slice Ap x.value.parts.length cp)/\w.cell? ⟨b,off+k*12+7,none⟩=some (.slice An x.value.names.length cn)/\w.cell? ⟨b,off+k*12+8,none⟩=some (.slice Ac x.value.cls.length cc)/\w.cell? ⟨b,off+k*12+9,none⟩=some (.slice Al x.value.levels.length cl)/\w.cell? ⟨b,off+k*12+10,none⟩=some (.int .i64 x.value.code)/\w.cell? ⟨b,off+k*12+11,none⟩=some (.int .i64 x.value.env):=by
 obtain⟨b,off,x,Ai,ni,ci,Ap,np,cp,An,nn,cn,Ac,nc,cc,Al,nl,cl,h1,h2,h3,hr,hc⟩:=P2 h hk;obtain⟨kd,nm,fr,pt,v⟩:=x;obtain⟨_,_,_,_,_,_,_,_,_,_,he,-⟩:=gQ hr;simp only[bF,bG,dy,cO]at he;obtain⟨⟨rfl,rfl,rfl⟩,⟨rfl,rfl,rfl⟩,⟨rfl,rfl,rfl⟩,⟨rfl,rfl,rfl⟩,⟨rfl,rfl,rfl⟩⟩:=he;exact⟨b,off,_,_,_,_,_,_,_,_,_,_,_,h1,h2,h3,hr,hc⟩
theorem aa8 (l:List Hop) (G:Hp) (m:Nat) (h30:l.length<=30) (aaS:RunR ⟨[],[],[],0⟩ 0 l G m) (Al:Option Addr) (cl:Nat) (w:World) (hl:rep w w.heap.size (.sl (l.map Hop.toD)) [.slice Al l.length cl]):Calls prog 20 #[.slice Al l.length cl] w (eH G.toD 28 (.int .i64 (m:Nat)) w):=by
 have gK:(l.length:Int)<=30:=dP;replace aaS:=aa aaS;have q30:decide ((30:Int)<(l.length:Int))=false:=dS;have q31:decide ((l.length:Int)<=30)=true:=dS;clear h30;have M:Mem prog w [] w []:=Mem.start;go_enter func20,ntmps20;refine Sq (Sa M (λJ1 wv M=>?_));refine Sb M [] 1 (Sz (Sq ?_));refine Sa M (λJ2 wv M=>Sz (ae ?_));refine Ra M [] ?_;refine gk ?_;refine Ra M [] (ae ?_);refine Ra M [] (aJ ?_);refine fy (ι:=Nat × Hp × Nat × Option Addr × Nat × Option Addr × Nat × Option Addr × Nat) [7,8,9,17,18,19,20,21,22,23,24,25,26,27,28,29,30,31] (λfu=>match fu with|(j,h,n,Ah,ch,An,cn,Ak,ck)=>[(5,.int .i64 (n:Nat)),(16,.int .i64 (j:Nat))]) (λfu=>match fu with|(j,h,n,Ah,ch,An,cn,Ak,ck)=>j<=l.length/\n<=j/\RunR h n (l.drop j) G m) (λfu=>match fu with|(j,h,n,Ah,ch,An,cn,Ak,ck)=>[.ow (Hp.toD h) 28 [.slice Ah h.cells.length ch,.slice An h.names.length cn,.slice Ak h.slots.length ck,h.copies],.bk (J2.b) 28 [.slice Ah h.cells.length ch,.slice An h.names.length cn,.slice Ak h.slots.length ck,h.copies],.bk (J1.b) 28 [(),(),(),.int .i64 0]]) (λfu=>match fu with|(j,h,n,Ah,ch,An,cn,Ak,ck)=>l.length - j) (0,⟨[],[],[],0⟩,0,none,0,none,0,none,0) (⟨by omega,by omega,by rw[Hc];exact aaS.out⟩) ((M.zeroHeap).sel [0,1,2] dQ) ?_;rintro⟨j,h,n,Ah,ch,An,cn,Ak,ck⟩ Mf W1 K1 h1 M rH;try dsimp only at h1 M ⊢
 refine uM ?_;obtain⟨hj,hnj,HRn⟩:=h1;replace HRn:=aa HRn;refine Ra M [] (ae ?_);refine lW (λhlt=>?_) (λhlt=>?_)
 ·rw[hlt];replace hlt:=aa hlt;have hlj:j<l.length:=eX;obtain⟨bc,off,x,Bi,di,Bp,dp,Bn,dn,Bc,dc,Bl,dl,hAl,gD,hx,rx,e0,e1,e2,e3,e4,e5,e6,e7,e8,e9,e10,e11⟩:=aap hl hlj;subst hAl;have j0:(0:Int)<=(j:Int):=dP;have j1:(j:Int)<(l.length:Int):=dP;obtain⟨R',r,HI',Zc,nD⟩:=aas hx HRn.out;have HI:=aa HI';have HS:=aa Zc;clear HI' Zc hx HRn;refine bd (dV (ae (aJ (Sq (Sb M [] 1 ?_)))));refine Sf (show W1.cell? ⟨bc,off+j*12,none⟩=some (.int .i64 x.kind)/\W1.cell? ⟨bc,off+j*12+1,none⟩=some (sv x.name)/\W1.cell? ⟨bc,off+j*12+2,none⟩=some (sv x.frm)/\W1.cell? ⟨bc,off+j*12+3,none⟩=some (.int .i64 x.at_)/\W1.cell? ⟨bc,off+j*12+4,none⟩=some (.int .i64 x.value.kind)/\W1.cell? ⟨bc,off+j*12+5,none⟩=some (.slice Bi x.value.items.length di)/\W1.cell? ⟨bc,off+j*12+6,none⟩=some (.slice Bp x.value.parts.length dp)/\W1.cell? ⟨bc,off+j*12+7,none⟩=some (.slice Bn x.value.names.length dn)/\W1.cell? ⟨bc,off+j*12+8,none⟩=some (.slice Bc x.value.cls.length dc)/\W1.cell? ⟨bc,off+j*12+9,none⟩=some (.slice Bl x.value.levels.length dl)/\W1.cell? ⟨bc,off+j*12+10,none⟩=some (.int .i64 x.value.code)/\W1.cell? ⟨bc,off+j*12+11,none⟩=some (.int .i64 x.value.env) from⟨(M.bel.cell gD).trans e0,(M.bel.cell gD).trans e1,(M.bel.cell gD).trans e2,(M.bel.cell gD).trans e3,(M.bel.cell gD).trans e4,(M.bel.cell gD).trans e5,(M.bel.cell gD).trans e6,(M.bel.cell gD).trans e7,(M.bel.cell gD).trans e8,(M.bel.cell gD).trans e9,(M.bel.cell gD).trans e10,(M.bel.cell gD).trans e11⟩) ?_;refine Sa M (λJ3 wv M=>?_);refine Ss M 0 (λwv M=>Sz (Sq ?_));refine Sb M [0,2] 2 ?_;replace M:=M.up [1];refine Sc (T2 (HI.out _ _ _ (M.rp 0 rfl) (M.arg rx)) M λJ4 wv M=>Sp ?_);refine Sb M [] 3 ?_;refine Sa M (λJ5 wv M=>?_);refine Ss M 0 (λwv M=>?_);refine Sb M [] 1 (Sz (ae ?_));rcases nD with ⟨hr,TP⟩|⟨rfl,TP⟩
  ·skip;refine Ra M [] ?_;refine ct ?_;refine Ra M [] (bo (es (fT (dV ?_))));refine Rb M [] (dV ?_);exact rH (j+1,h,n+1,Ah,ch,An,cn,Ak,ck) _ _ dU (⟨by omega,by omega,TP⟩) (by(try dsimp only);omega) (M.sel [2,4,5] dQ)
  ·skip;refine Ra M [] ?_;refine gk (Sg ?_);refine Sb M [0] 1 ?_;refine Ss M 4 (λwv M=>Sy (fA (dV ?_)));refine Rb M [] (dV ?_);exact rH (j+1,R',n,(((J4.A 1))),(((J4.C 1))),(((J4.A 2))),(((J4.C 2))),(((J4.A 3))),(((J4.C 3)))) _ _ dU (⟨by omega,by omega,TP⟩) (by(try dsimp only);omega) (M.sel [1,4,5] dQ)
 ·rw[hlt];replace hlt:=aa hlt;obtain rfl:j=l.length:=eX;obtain⟨eG,em⟩:=aaO (by have z:=HRn.out;rw[List.drop_length]at z;exact z);replace eG:=aa eG;replace em:=aa em;clear HRn;refine bo (es (es (fT (dV (Sq (Sb M [1] 2 ?_))))));refine Ss M 2 (λwv M=>?_);refine Sb M [] 1 (Sz (aO ?_));refine kN results20 M 2 ?_;rw[<-eG.out,<-em.out];exact(M.sel [0] dQ).retTwo
theorem aa1 (l:List Hop) (h30:30<l.length) (Al:Option Addr) (cl:Nat) (w:World) (hl:rep w w.heap.size (.sl (l.map Hop.toD)) [.slice Al l.length cl]):Calls prog 20 #[.slice Al l.length cl] w (eH (Hp.toD ⟨[],[],[],0⟩) 28 (.int .i64 (0)) w):=by have q29:decide ((0:Int)<(l.length:Int))=true:=dS;have q28:decide (0<l.length)=true:=dS;have q30:decide ((30:Int)<(l.length:Int))=true:=dS;have q31:decide ((l.length:Int)<=30)=false:=dS;have M:Mem prog w [] w []:=Mem.start;go_enter func20,ntmps20;refine Sq (Sa M (λJ1 wv M=>?_));refine Sb M [] 1 (Sz (Sq ?_));refine Sa M (λJ2 wv M=>Sz (ae ?_));refine Ra M [] ?_;refine ct (Sq ?_);refine Sb M [0] 1 ?_;refine Ss M 1 (λwv M=>?_);refine Sb M [] 1 (Sz (aO (fI ?_)));refine kN results20 M 1 ?_;exact(M.zeroHeap).retTwo
theorem aa9 (l:List Hop) (G:Hp) (m:Nat) (h30:l.length<=30) (aaS:RunR ⟨[],[],[],0⟩ 0 l G m) (Al:Option Addr) (cl:Nat) (w:World) (hl:rep w w.heap.size (.sl (l.map Hop.toD)) [.slice Al l.length cl]):Calls prog 8 #[.slice Al l.length cl] w (eH G.toD 28 (.int .i64 (m:Nat)) w):=by
 have gK:(l.length:Int)<=30:=dP;replace aaS:=aa aaS;have q30:decide ((30:Int)<(l.length:Int))=false:=dS;have q31:decide ((l.length:Int)<=30)=true:=dS;clear h30;have M:Mem prog w [] w []:=Mem.start;go_enter func8,ntmps8;refine Sq (Sa M (λJ1 wv M=>?_));refine Sb M [] 1 (Sz (Sq ?_));refine Sb M [] 1 ?_;refine Sa M (λJ2 wv M=>?_);refine Ss M 0 (λwv M=>Sz ?_);refine Ra M [] (ae ?_);refine Ra M [] (aJ ?_);refine fy (ι:=Nat × Hp × Nat × Option Addr × Nat × Option Addr × Nat × Option Addr × Nat) [7,8,10,11,12,13,14,15,16,17,18,19,20,21,22,23,24,25,26,27,28,29,30,31,32,33,34] (λfu=>match fu with|(j,h,n,Ah,ch,An,cn,Ak,ck)=>[(5,.int .i64 (n:Nat)),(6,.int .i64 (j:Nat))]) (λfu=>match fu with|(j,h,n,Ah,ch,An,cn,Ak,ck)=>j<=l.length/\n<=j/\RunR h n (l.drop j) G m) (λfu=>match fu with|(j,h,n,Ah,ch,An,cn,Ak,ck)=>[.ow (Hp.toD h) 28 [.slice Ah h.cells.length ch,.slice An h.names.length cn,.slice Ak h.slots.length ck,h.copies],.bk (J2.b) 28 [.slice Ah h.cells.length ch,.slice An h.names.length cn,.slice Ak h.slots.length ck,h.copies],.bk (J1.b) 28 [(),(),(),.int .i64 0]]) (λfu=>match fu with|(j,h,n,Ah,ch,An,cn,Ak,ck)=>l.length - j) (0,⟨[],[],[],0⟩,0,none,0,none,0,none,0) (⟨by omega,by omega,by rw[Hc];exact aaS.out⟩) ((M.zeroHeap).sel [0,1,2] dQ) ?_;rintro⟨j,h,n,Ah,ch,An,cn,Ak,ck⟩ Mf W1 K1 h1 M rH;try dsimp only at h1 M ⊢
 refine uM ?_;obtain⟨hj,hnj,HRn⟩:=h1;replace HRn:=aa HRn;refine ae (Sq (Sb M [] 5 ?_));refine So ((bif (decide (j<l.length)) then .slice Al l.length cl else undef)) (λK Z hK=>by rcases ac ((decide (j<l.length))) with hg|hg<;>simp only[hg,ar,ak,aD,aB,az,aq,aj,am]at hK<;>go_simp<;>exact hK) ?_;refine So ((bif (decide (j<l.length)) then .int .i64 (l.length:Nat) else undef)) (λK Z hK=>by rcases ac ((decide (j<l.length))) with hg|hg<;>simp only[hg,ar,ak,aD,aB,az,aq,aj,am]at hK<;>go_simp<;>exact hK) ?_;refine So ((bif (decide (j<l.length)) then .bool true else undef)) (λK Z hK=>by rcases ac ((decide (j<l.length))) with hg|hg<;>simp only[hg,ar,ak,aD,aB,az,aq,aj,am]at hK<;>go_simp<;>exact hK) ?_;refine So (.bool (decide (j<l.length))) (λK Z hK=>by rcases ac ((decide (j<l.length))) with hg|hg<;>simp only[hg,ar,ak,aD,aB,az,aq,aj,am]at hK<;>go_simp<;>exact hK) (Sz ?_);refine lW (λhlt=>?_) (λhlt=>?_)
 ·rw[hlt];replace hlt:=aa hlt;have hlj:j<l.length:=eX;obtain⟨bc,off,x,Bi,di,Bp,dp,Bn,dn,Bc,dc,Bl,dl,hAl,gD,hx,rx,e0,e1,e2,e3,e4,e5,e6,e7,e8,e9,e10,e11⟩:=aap hl hlj;subst hAl;have j0:(0:Int)<=(j:Int):=dP;have j1:(j:Int)<(l.length:Int):=dP;obtain⟨R',r,HI',Zc,nD⟩:=aas hx HRn.out;have HI:=aa HI';have HS:=aa Zc;clear HI' Zc hx HRn;refine bd (dV (ae (aJ ?_)));refine mL M [none,none] [.la 1,.v (.c (.slice (some ⟨bc,off,none⟩) l.length cl)),.i (j:Nat),.o bc (off+j*12),.v (.c (.agg #[x.kind,sv x.name,sv x.frm,x.at_,x.value.kind,.slice Bi x.value.items.length di,.slice Bp x.value.parts.length dp,.slice Bn x.value.names.length dn,.slice Bc x.value.cls.length dc,.slice Bl x.value.levels.length dl,x.value.code,x.value.env])),.v (.e 5 (λxh=> .tuple #[.agg #[.slice ((xh.A 1)) R'.cells.length ((xh.C 1)),.slice ((xh.A 2)) R'.names.length ((xh.C 2)),.slice ((xh.A 3)) R'.slots.length ((xh.C 3)),R'.copies],sv r])),.p 0,.x 0 0,.x 1 1,.q 9 0,.u,.p 2] [.e 5 none (.e 5 (λxh=> .ow (Hp.toD R') 28 [.slice ((xh.A 1)) R'.cells.length ((xh.C 1)),.slice ((xh.A 2)) R'.names.length ((xh.C 2)),.slice ((xh.A 3)) R'.slots.length ((xh.C 3)),R'.copies])),.e 9 (some 10) (oB 9 28 [(),(),(),.int .i64 0]),.x 10 none 3 5 0] [[1],[],[],[],[],[0],[],[],[],[],[],[]] [] ?_ ?_
  ·show ∀i,i<12->_;refine On ?_ eB;refine On ?_ (tn [3] [4] [] (h:=λγ wv R K M hK=>uC));refine On (On (On (On ?_ eB) eB) eB) (kX [3]);refine On ?_ (tn [] [2] [0] (h:=λγ wv R K M hK=>by go_simp;go_at_call 11;exact T2 (HS.out _ _ _ (M.rp 0 rfl) (M.arg rx)) M hK))
   refine On ?_ (mW [] (h:=λγ wv K M hK=>by have c0:wv.cell? ⟨bc,off+j*12,none⟩=some (.int .i64 x.kind):=(M.bel.cell gD).trans e0;have c1:wv.cell? ⟨bc,off+j*12+1,none⟩=some (sv x.name):=(M.bel.cell gD).trans e1;have c2:wv.cell? ⟨bc,off+j*12+2,none⟩=some (sv x.frm):=(M.bel.cell gD).trans e2;have c3:wv.cell? ⟨bc,off+j*12+3,none⟩=some (.int .i64 x.at_):=(M.bel.cell gD).trans e3;have c4:wv.cell? ⟨bc,off+j*12+4,none⟩=some (.int .i64 x.value.kind):=(M.bel.cell gD).trans e4;have c5:wv.cell? ⟨bc,off+j*12+5,none⟩=some (.slice Bi x.value.items.length di):=(M.bel.cell gD).trans e5;have c6:wv.cell? ⟨bc,off+j*12+6,none⟩=some (.slice Bp x.value.parts.length dp):=(M.bel.cell gD).trans e6;have c7:wv.cell? ⟨bc,off+j*12+7,none⟩=some (.slice Bn x.value.names.length dn):=(M.bel.cell gD).trans e7;have c8:wv.cell? ⟨bc,off+j*12+8,none⟩=some (.slice Bc x.value.cls.length dc):=(M.bel.cell gD).trans e8;have c9:wv.cell? ⟨bc,off+j*12+9,none⟩=some (.slice Bl x.value.levels.length dl):=(M.bel.cell gD).trans e9;have c10:wv.cell? ⟨bc,off+j*12+10,none⟩=some (.int .i64 x.value.code):=(M.bel.cell gD).trans e10;have c11:wv.cell? ⟨bc,off+j*12+11,none⟩=some (.int .i64 x.value.env):=(M.bel.cell gD).trans e11;go_simp;exact hK))
   refine On (On (On ?_ eB) eB) eh;refine On ?_ (mW [1] (h:=λγ wv K M hK=>lC));exact Oz
  intro Ho wv M;replace M:Mem _ _ _ _ [_,_,.ow _ _ _,.bk _ _ [_,_,_,_],_]:=M;rcases nD with ⟨hr,TP⟩|⟨rfl,TP⟩
  ·skip;refine Ra M [] ?_;refine ct ?_;refine Rb M [] (fA (dV ?_));refine Rb M [] (dV ?_);exact rH (j+1,h,n+1,Ah,ch,An,cn,Ak,ck) _ _ dU (⟨by omega,by omega,TP⟩) (by(try dsimp only);omega) (M.sel [0,1,4] dQ)
  ·skip;refine Ra M [] ?_;refine cf (Sg ?_);refine Sb M [3] 1 ?_;refine Ss M 1 (λwv M=>Sy (fA (dV ?_)));refine Rb M [] (dV ?_);exact rH (j+1,R',n,((((Ho 5).A 1))),((((Ho 5).C 1))),((((Ho 5).A 2))),((((Ho 5).C 2))),((((Ho 5).A 3))),((((Ho 5).C 3)))) _ _ dU (⟨by omega,by omega,TP⟩) (by(try dsimp only);omega) (M.sel [2,1,4] dQ)
 ·rw[hlt];replace hlt:=aa hlt;obtain rfl:j=l.length:=eX;obtain⟨eG,em⟩:=aaO (by have z:=HRn.out;rw[List.drop_length]at z;exact z);replace eG:=aa eG;replace em:=aa em;clear HRn;refine bo (es (es (fT (dV (Sq (Sb M [1] 2 ?_))))));refine Ss M 2 (λwv M=>?_);refine Sb M [] 1 (Sz (aO ?_));refine kN results8 M 2 ?_;rw[<-eG.out,<-em.out];exact(M.sel [0] dQ).retTwo
theorem aa2 (l:List Hop) (h30:30<l.length) (Al:Option Addr) (cl:Nat) (w:World) (hl:rep w w.heap.size (.sl (l.map Hop.toD)) [.slice Al l.length cl]):Calls prog 8 #[.slice Al l.length cl] w (eH (Hp.toD ⟨[],[],[],0⟩) 28 (.int .i64 (0)) w):=by have q29:decide ((0:Int)<(l.length:Int))=true:=dS;have q28:decide (0<l.length)=true:=dS;have q30:decide ((30:Int)<(l.length:Int))=true:=dS;have q31:decide ((l.length:Int)<=30)=false:=dS;have M:Mem prog w [] w []:=Mem.start;go_enter func8,ntmps8;refine Sq (Sa M (λJ1 wv M=>?_));refine Sb M [] 1 (Sz (Sq ?_));refine Sb M [] 1 ?_;refine Sa M (λJ2 wv M=>?_);refine Ss M 0 (λwv M=>Sz ?_);refine Ra M [] (ae ?_);refine Ra M [] (aJ ?_);refine aZ 1 ?_;refine ez (ae (Ra M [] ?_));refine cf (bo (es (es (fT (dV (Sq ?_))))));refine Sb M [0] 2 ?_;refine Ss M 1 (λwv M=>?_);refine Sb M [] 1 (Sz (aO ?_));refine kN results8 M 1 ?_;exact(M.zeroHeap).retTwo
theorem Mem.openHeap4 {A1 A2 A3:Option Addr} {n1 c1 n2 c2 n3 c3:Nat} {z:Value} (M:Mem prog w0 X w (.ow h.toD 28 [.slice A1 n1 c1,.slice A2 n2 c2,.slice A3 n3 c3,z]::R)):
 Mem prog w0 X w (.ow (.sl (h.cells.map Cel.toD)) 24 [.slice A1 n1 c1]:: .ow (.sl (h.names.map .s)) 25 [.slice A2 n2 c2]:: .ow (.sl (h.slots.map (.i .i64))) 26 [.slice A3 n3 c3]::R):=by
 obtain⟨_,_,_,_,_,_,_,_,_,he,M2⟩:=OU M;simp only[bF,bG,cO]at he;obtain⟨⟨rfl,rfl,rfl⟩,⟨rfl,rfl,rfl⟩,⟨rfl,rfl,rfl⟩,rfl⟩:=he;exact M2
theorem ag1 (x:Hop):lU x.toD<=4+4+4*szD x.toD:=by have h1:=adh x.value;rw[P3,wG];omega
theorem abb:∀(l:List Hop),eq (l.map Hop.toD)<=8*szD (.sl (l.map Hop.toD))
 |[]=>by simp [eq]
 |x::t=>by have h1:=ag1 x;have h2:=abb t;simp only[szD,au,br,eq,gv,bU]at h2 ⊢;omega
def RnI (l:List Hop) (R:Hp) (m:Nat):Prop:=∀(A:Option Addr) (c:Nat) (w:World),rep w w.heap.size (.sl (l.map Hop.toD)) [.slice A l.length c]->Calls prog 20 #[.slice A l.length c] w (eH R.toD 28 (.int .i64 (m:Nat)) w)
def RnS (l:List Hop) (R:Hp) (m:Nat):Prop:=∀(A:Option Addr) (c:Nat) (w:World),rep w w.heap.size (.sl (l.map Hop.toD)) [.slice A l.length c]->Calls prog 8 #[.slice A l.length c] w (eH R.toD 28 (.int .i64 (m:Nat)) w)
theorem aaB:∀(t:List Hop) (h:Hp) (n:Nat),fG h=true->h.copies+(t.length:Int)<=1000->szD h.toD+(2*gv (t.map Hop.toD)+30000*t.length)<=4194304->gv (t.map Hop.toD)<=1048576->∃(G:Hp) (m:Nat),RunR h n t G m/\szD G.toD<=4194304
 |[],h,n,_,_,hz,_=>⟨h,n,.nil h n,by omega⟩
 |x::t,h,n,hk,hc,hz,hb=>by
  simp only[br,gv,bU]at hc hz hb;have hzx:=wG x;cases hx:je x with
  |false=>
   obtain⟨G,m,H,z⟩:=aaB t h (n+1) hk dP dP dP;obtain⟨kd,nm,fr,pt,v⟩:=x;exact⟨G,m,.bad (λcs cx w a b=>PC h kd pt nm fr v dP hk hx (by unfold bigV;simp only at hzx;omega) cs cx w a b) (λcs cx w a b=>Qa h kd pt nm fr v dP hk hx (by unfold bigV;simp only at hzx;omega) cs cx w a b) rfl H,z⟩
  |true=>
   obtain⟨R,r,a,b,c1,c2⟩:=YR hk dP hx;cases hr:r.isEmpty with
   |false=>
    obtain⟨G,m,H,z⟩:=aaB t h (n+1) hk dP dP dP;exact⟨G,m,.bad a b hr H,z⟩
   |true=>
    obtain rfl:r=[]:=dh.1 hr;obtain⟨d1,d2,-⟩:=c2 dP;obtain⟨G,m,H,z⟩:=aaB t R n d1 dP dP dP;exact⟨G,m,.ok a b H,z⟩
theorem ac1 (l:List Hop) (hz:szD (.sl (l.map Hop.toD))<=1048576):∃(R:Hp) (m:Nat),RnI l R m/\RnS l R m/\szD R.toD<=4194304:=by
 by_cases h30:l.length<=30
 ·simp only[szD,au]at hz;obtain⟨G,m,H,z⟩:=aaB l ⟨[],[],[],0⟩ 0 dQ ig (by rw[Jr];omega) dP;exact⟨G,m,λA c w hl=>aa8 l G m h30 H A c w hl,λA c w hl=>aa9 l G m h30 H A c w hl,z⟩
 ·exact⟨⟨[],[],[],0⟩,0,λA c w hl=>aa1 l dP A c w hl,λA c w hl=>aa2 l dP A c w hl,by rw[Jr];omega⟩
theorem P5 (l:List Hop) (Al:Option Addr) (nl cl:Nat) (w:World) (afg:rep w w.heap.size (.sl (l.map Hop.toD)) [.slice Al nl cl]):
 Calls prog 5 #[.slice Al nl cl] w λe w'=>e= .returned (.bool true)/\Below w.heap.size w w':=by
 have hnl:=(ef afg).1;rw[au]at hnl;subst hnl;have DP:=afg;obtain⟨L1,Pn⟩:∃z,jQ (szD (.sl (l.map Hop.toD))) 1048576=z:=⟨_,rfl⟩;have hL1:=aa Pn;have AR:L1<=1048576:=by rw[<-Pn];unfold jQ;split<;>omega
 by_cases c1:L1<0
 ·have q1:decide (L1<0)=true:=by simpa using c1
  clear Pn;have M:Mem prog w [] w []:=Mem.start;go_enter func5,ntmps5;refine Ra M [] ?_;refine Ra M [] (Sq ?_);refine Sb M [] 2 ?_;refine Sc (f_ (v:= .int .i64 L1) aan M λJ1 wv M=>Sp ?_);refine Sb M [] 1 (Sz (ae ?_));refine Ra M [] ?_;refine ct ?_;refine Ra M [] (aO (fI ?_));refine vQ results5 ?_;exact⟨rfl,M.bel⟩
 have hz':szD (.sl (l.map Hop.toD))<=1048576:=by unfold jQ at Pn;split at Pn<;>omega
 have q1:decide (L1<0)=false:=by simpa using c1
 clear Pn;obtain⟨Rh,m,HI',Zc,hRz⟩:=ac1 l hz';have HI:=aa HI';have HS:=aa Zc;have hz:=aa hz';have hsr:=nM Rh;have uN1:=abb l;obtain⟨N1,eN1⟩:∃N:Nat,eq (l.map Hop.toD)=N:=⟨_,rfl⟩;rw[eN1]at uN1;have hN1:=aa eN1;clear eN1;have uK1:=Zi Rh.cells;obtain⟨K1,eK1⟩:∃N:Nat,eq (Rh.cells.map Cel.toD)=N:=⟨_,rfl⟩;rw[eK1]at uK1;have rH:=aa eK1;clear eK1;have uK2:=MA Rh.names;obtain⟨K2,eK2⟩:∃N:Nat,eq (Rh.names.map D.s)=N:=⟨_,rfl⟩;rw[eK2]at uK2;have vk:=aa eK2;clear eK2;have uK3:=aaN Rh.slots;obtain⟨K3,eK3⟩:∃N:Nat,eq (Rh.slots.map (D.i .i64))=N:=⟨_,rfl⟩;rw[eK3]at uK3;have hK3:=aa eK3;clear eK3;have bN:(1:Int)+(N1:Int)<=1000000000:=dP;have bK:(1:Int)+(K1:Int)+(K2:Int)+(K3:Int)<=1000000000:=dP;have d1:decide ((1:Int)+(N1:Int)<0)=false:=dS;have d2:decide (((1:Int)+(K1:Int)+(K2:Int)+(K3:Int))<0)=false:=dS;have d3:(((1:Int)+(K1:Int)+(K2:Int)+(K3:Int)) != ((1:Int)+(K1:Int)+(K2:Int)+(K3:Int)))=false:=dR;have d4:((m:Int) != (m:Int))=false:=dR;clear HI' Zc hz' hRz hsr uN1 uK1 uK2 uK3;have M:Mem prog w [] w []:=Mem.start;go_enter func5,ntmps5;refine Ra M [] ?_;refine Ra M [] (Sq ?_);refine Sb M [] 2 ?_;refine Sc (f_ (v:= .int .i64 L1) aan M λJ1 wv M=>Sp ?_);refine Sb M [] 1 (Sz (ae ?_));refine Ra M [] ?_;refine gk (Sq ?_);refine Sb M [] 1 ?_;refine Sc (Ik (Hl l _ _ _ _ (M.arg DP) hz.out) M λJ2 wv M=>Sp ?_);refine Sc (T2 (HS.out _ _ _ (M.rp 0 rfl)) M λJ3 wv M=>Sp ?_);refine Sb M [] 3 ?_;refine Sa M (λJ4 wv M=>?_);refine Ss M 0 (λwv M=>?_);refine Sb M [] 1 (Sz (Sq ?_));refine Sb M [] 1 ?_;refine Sc (Ik (Hl l _ _ _ _ (M.arg DP) hz.out) M λJ5 wv M=>Sp ?_);refine Sb M [] 1 (Sz (Sq ?_));refine Sb M [] 1 ?_;refine Sc (T2 (HI.out _ _ _ (M.rp 0 rfl)) M λJ6 wv M=>Sp ?_);refine Sb M [] 3 ?_;refine Sa M (λJ7 wv M=>?_);refine Ss M 0 (λwv M=>?_);refine Sb M [] 1 (Sz (ae (Sq ?_)));refine Sb M [0,3] 2 ?_;replace M:=M.up [4,2];refine Sc (f_ (v:= .bool true) (tL Rh _ _ _ (M.rp 0 rfl) (M.rp 1 rfl)) M λJ8 wv M=>Sp ?_);refine Sb M [] 6 (Sz ?_);refine gk (ae (Sq ?_));refine Sb M [] 2 ?_;refine Sc (Ik (Hl l _ _ _ _ (M.arg DP) hz.out) M λJ9 wv M=>Sp ?_);replace M:=M.up [4];refine Sc (f_ (v:= .bool true) (aaq l _ _ _ _ _ _ _ (M.rp 0 rfl) (M.rp 1 rfl)) M λmO wv M=>Sp ?_);refine Sb M [] 1 (Sz ?_);refine gk ?_;refine Ra M [] (Sq ?_);refine Sb M [] 2 ?_;refine Sc (lS (aar l _ _ _ (1:Int) 1 N1 _ M rfl hN1.out dP) λL5 wv M=>Sp ?_);refine Sb M [] 1 (Sz (ae (Sq ?_)));refine Sb M [4,5] 5 ?_;replace M:=M.up [3,3];refine Sc (f_ (v:= .bool true) (tL Rh _ _ _ (M.rp 0 rfl) (M.rp 1 rfl)) M λZd wv M=>Sp ?_);refine Sb M [] 7 (Sz ?_);refine gk ?_;refine Ra M [] ?_;replace M:=M.openHeap4;refine Sq (Sb M [6] 2 ?_);refine Sc (lS (Ek Rh _ _ _ _ _ _ _ _ _ (1:Int) 1 _ M rH.out vk.out hK3.out rfl dP) λTS wv M=>Sp ?_);refine Sb M [] 1 (Sz ?_);refine Ra M [] (Sq ?_);refine Sb M [6] 2 ?_;refine Sc (f_ (v:= .int .i64 ((1:Int)+(K1:Int)+(K2:Int)+(K3:Int))) (DG Rh _ _ _ _ _ _ _ _ _ (1:Int) 1 _ rH.out vk.out hK3.out (M.rp 0 rfl) (M.rp 1 rfl) (M.rp 2 rfl) rfl dP) M λI_ wv M=>Sp ?_);refine Sb M [] 1 (Sz (ae ?_));refine Ra M [] ?_;refine gk (ae ?_);refine Ra M [] ?_;refine gk (Sq ?_);refine Sb M [] 1 ?_;refine Sc (Ik (Hl l _ _ _ _ (M.arg DP) hz.out) M λOY wv M=>Sp ?_);refine Sc (T2 (HI.out _ _ _ (M.rp 0 rfl)) M λQx wv M=>Sp ?_);refine Sb M [] 3 ?_;refine Sa M (λW7 wv M=>?_);refine Ss M 0 (λwv M=>?_);refine Sb M [] 1 (Sz (ae (Sq ?_)));refine Sb M [0,10] 2 ?_;replace M:=M.up [6,2];refine Sc (f_ (v:= .bool true) (tL Rh _ _ _ (M.rp 0 rfl) (M.rp 1 rfl)) M λJ18 wv M=>Sp ?_);refine Sb M [] 6 (Sz ?_);refine gk ?_;refine Ra M [] (Sq ?_);refine Sb M [9] 2 ?_;replace M:=M.up [6,6,6];refine Sc (f_ (v:= .int .i64 ((1:Int)+(K1:Int)+(K2:Int)+(K3:Int))) (DG Rh _ _ _ _ _ _ _ _ _ (1:Int) 1 _ rH.out vk.out hK3.out (M.rp 0 rfl) (M.rp 1 rfl) (M.rp 2 rfl) rfl dP) M λJ19 wv M=>Sp ?_);refine Sb M [] 1 (Sz (ae ?_));refine Ra M [] ?_;refine gk (ae ?_);refine Ra M [] ?_;refine gk ?_;refine Ra M [] (aO ?_);refine vQ results5 ?_;exact⟨rfl,M.bel⟩
end Go.Proofs.YtekcpadlmfaihaaGreat
