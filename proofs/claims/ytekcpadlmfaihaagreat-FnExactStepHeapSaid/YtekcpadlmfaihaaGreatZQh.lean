/- Qf, Qh, Qj. -/
import Derived.Test.YtekcpadlmfaihaaGreatZQg
import Derived.Test.YtekcpadlmfaihaaGreatZHyf
import Derived.Test.YtekcpadlmfaihaaGreatZNhu
import Derived.Test.YtekcpadlmfaihaaGreatZNsp
import Derived.Test.YtekcpadlmfaihaaGreatZDnC
namespace Go.Proofs.YtekcpadlmfaihaaGreat
open Go.RowKit Proofs.Tryz
set_option maxHeartbeats 8000000
set_option maxRecDepth 100000
set_option linter.unusedSimpArgs false
set_option linter.unusedVariables false
section
variable {h:Hp} {kd pt:Int} {fr nm s:Str} {v:Vec}
def StI (h:Hp) (x:Hop) (R:Hp) (r:Str):Prop:=∀(cs cx:List Value) (w:World),rep w w.heap.size h.toD cs->rep w w.heap.size x.toD cx->Calls prog 10 #[av cs,av cx] w (eH R.toD 28 (sv r) w)
def StS (h:Hp) (x:Hop) (R:Hp) (r:Str):Prop:=∀(cs cx:List Value) (w:World),rep w w.heap.size h.toD cs->rep w w.heap.size x.toD cx->Calls prog 11 #[av cs,av cx] w (eH R.toD 28 (sv r) w)
def Gr (h:Hp) (v:Vec) (R:Hp):Prop:=szD R.toD<=szD h.toD+2*szD v.toD+30000/\(h.copies<=1000->fG R=true/\R.copies<=h.copies+1/\(GD h->GD R))
theorem Gr.same (hk:fG h=true):Gr h v h:=⟨by omega,λ_=>⟨hk,by omega,λG=>G⟩⟩
theorem La (h:je ⟨kd,nm,fr,pt,v⟩=true):isNm nm=true:=by simp only[je,ax]at h;exact h.1.1.1
theorem zS (hn:¬hasN h s=true):cellD h s= -1/\ix h.names s 0<0:=by refine⟨by unfold cellD;rw[aH hn],?_⟩;simp only[hasN,aL]at hn;omega
structure SF (h:Hp) (s:Str) (p i:Nat) (x:Cel):Prop where
 at_:ix h.names s 0=(p:Int)
 slot:h.slots[p]?=some (i:Int)
 sd:slotD h s=(i:Int)
 cd:cellD h s=(i:Int)
 cel:h.cells[i]?=some x
 dep:depD h 3 (i:Int)=true
 vec:isVec (asm h 3 (i:Int))=true
 fit:fitP h 3 (i:Int)
 val:x.value=noParts (asm h 3 (i:Int))
 par:(asm h 3 (i:Int)).parts.length=x.parts.length
 sz:szD x.value.toD<=10000
theorem wR (hk:fG h=true):∀x∈h.cells,x.value.parts=[]:=by obtain⟨h1,h2,h3⟩:=jc hk;intro x hx;obtain⟨i,hi⟩:=List.getElem?_of_mem hx;have h4:=iC.1 h2 i x hi;simp only[m9,ax,aL]at h4;exact aR.1 h4.1.2
theorem SF.of (hk:fG h=true) (hn:hasN h s=true):∃(p i:Nat) (x:Cel),SF h s p i x:=by
 obtain⟨p,hp,mD,hs,h0,hl,hd,hv⟩:=BA hk hn;obtain⟨i,hi⟩:=bQ h0;rw[hi]at hs hd hv hl;have hil:i<h.cells.length:=dP;have hx:h.cells[i]?=some h.cells[i]:=aw hil;have ld:=iI hx;have rk:=wR hk _ (dA hil);have e:asm h 3 (i:Int)={h.cells[i].value with parts:=h.cells[i].parts.map (asm h 2)}:=by rw[asm,ld]
 have ev:h.cells[i].value=noParts (asm h 3 (i:Int)):=by rw[e];exact(qE rk).symm
 refine⟨p,i,h.cells[i],hp,hs,hi,by unfold cellD;rw[aN hn,hi],hx,hd,hv,by rw[<-hi];exact tS hk hn,ev,by rw[e];simp,?_⟩;rw[ev];exact BD hv
theorem Vp (h:isNm s=true):1<=s.length/\s.length<=20:=by unfold isNm at h;simp only[ax,aL]at h;exact h.2
theorem sX (h:je ⟨kd,nm,fr,pt,v⟩=true):(1<=nm.length/\nm.length<=20)/\isVec v=true/\(kd=0\/kd=1\/kd=2\/kd=3)/\(kd=2->(1<=pt/\pt<=40)/\(1<=v.kind/\v.kind<=3)/\v.items.length=1)/\(kd=3->1<=fr.length/\fr.length<=20):=by
 simp only[je,ax,AV]at h;obtain⟨⟨⟨h1,h2⟩,h3⟩,h4⟩:=h;refine⟨Vp h1,h2,?_,λe=>?_,λe=>?_⟩
 ·by_cases e0:kd=0
  ·exact .inl e0
  ·rw[aH e0]at h4;by_cases e2:kd=2
   ·exact .inr (.inr (.inl e2))
   ·rw[aH e2]at h4;by_cases e3:kd=1\/kd=3
    ·omega
    ·rw[aH e3]at h4;cases h4
 ·rw[aH dP,aN e]at h4;simp only[ax,aL,atomK]at h4;exact⟨h4.1.1.2,h4.1.2,h4.2⟩
 ·rw[aH dP,aH dP,aN (.inr e)]at h4;simp only[ax]at h4;exact Vp h4.1
theorem UT {j:Nat} {y:Cel} (e:h.cells[j]?=some y):szD (eG h j (gE y)).toD<=szD h.toD:=by have g:=wT h j (gE y);rw[iI e,Bu,Bu]at g;have e1:(gE y).value=y.value:=rfl;have e2:(gE y).parts=y.parts:=rfl;rw[e1,e2]at g;omega
theorem RK (hk:fG h=true) (hz:szD h.toD<=4194304) (hx:je ⟨0,nm,fr,pt,v⟩=true):∃(R:Hp) (r:Str),StI h ⟨0,nm,fr,pt,v⟩ R r/\StS h ⟨0,nm,fr,pt,v⟩ R r/\Gr h v R:=by
 obtain⟨hnm,hv,-,-,-⟩:=sX hx;have ZJ:=(i6 hv).1;obtain⟨z1,z2⟩:=sV hz;have hl:=(jc hk).1;obtain⟨h1,k,e,p1,p2,p3,p4,p5⟩:=Xc hk hz nm v ZJ (by have:=vz hv;omega);exact⟨fd h1 nm k,[],λcs cx w a b=>Iy h nm fr pt v _ _ h1 k hz hk hl hx (eC hv) rfl rfl cs cx w a b e p1 p2 p3 p4 p5,
  λcs cx w a b=>I0 h nm fr pt v _ _ h1 k hz hk hl dP (wR hk) hx (eC hv) rfl rfl cs cx w a b e p1 ZJ p2 p3 p4 p5,by have g1:=UP 4 h v;have g2:=Ld h1 nm k;rw[e]at g1;refine⟨by simp only at g1;omega,λ_=>?_⟩;obtain⟨q1,q2,q3⟩:=TZ hk hz (La hx) hv e;exact⟨q1,by omega,q3⟩⟩
theorem P7 (hk:fG h=true) (hz:szD h.toD<=4194304) (hx:je ⟨1,nm,fr,pt,v⟩=true):∃(R:Hp) (r:Str),StI h ⟨1,nm,fr,pt,v⟩ R r/\StS h ⟨1,nm,fr,pt,v⟩ R r/\Gr h v R:=by
 obtain⟨hnm,hv,-,-,-⟩:=sX hx;obtain⟨z1,z2⟩:=sV hz;have hl:=(jc hk).1;by_cases hf:hasN h fr=true
 ·obtain⟨p,i,x,S⟩:=SF.of hk hf;obtain⟨j,y,e1,e2,e3,e4,e5,-,-,e8⟩:=NV hk hz nm fr hf;have ej:(i:Int)=(j:Int):=by rw[<-S.sd,e2]
  exact⟨fd (eG h j (gE y)) nm (j:Int),[],λcs cx w a b=>vu h nm fr pt v _ _ _ _ hz hk hl hx (eC hv) rfl rfl cs cx w a b dP (.inr ⟨j,y,e1,e3,e4,e5,e8,rfl,rfl⟩),
   λcs cx w a b=>vZ h nm fr pt v _ _ _ _ hz hk hl dP (wR hk) hx (eC hv) rfl rfl cs cx w a b dP (.inr ⟨p,j,y,S.at_,by rw[<-ej];exact S.slot,e3,e4,e5,e8,rfl,rfl⟩),by have g1:=UT e3;have g2:=Ld (eG h j (gE y)) nm (j:Int);refine⟨by omega,λ_=>?_⟩;obtain⟨q1,q2,q3⟩:=S7 hk (La hx) e3 (by rw[<-ej];exact aA S.slot);exact⟨q1,by omega,q3⟩⟩
 ·obtain⟨n1,n2⟩:=zS hf;exact⟨h,_,λcs cx w a b=>vu h nm fr pt v _ _ _ _ hz hk hl hx (eC hv) rfl rfl cs cx w a b dP (.inl ⟨by omega,rfl,rfl⟩),
   λcs cx w a b=>vZ h nm fr pt v _ _ _ _ hz hk hl dP (wR hk) hx (eC hv) rfl rfl cs cx w a b dP (.inl ⟨n2,rfl,rfl⟩),Gr.same hk⟩
theorem Oo (hk:fG h=true) (hz:szD h.toD<=4194304) (hx:je ⟨2,nm,fr,pt,v⟩=true):∃(R:Hp) (r:Str),StI h ⟨2,nm,fr,pt,v⟩ R r/\StS h ⟨2,nm,fr,pt,v⟩ R r/\Gr h v R:=by
 obtain⟨hnm,hv,-,h2,-⟩:=sX hx;obtain⟨hpt,hvk,tx⟩:=h2 rfl;obtain⟨z1,z2⟩:=sV hz;have hl:=(jc hk).1;have rk:=wR hk;by_cases hn:hasN h nm=true
 ·obtain⟨p,i,x,S⟩:=SF.of hk hn;have ld:=iI S.cel;obtain⟨rv,rs,⟨SI,SS⟩,mP⟩:∃(rv:Vec) (rs:Str),wH (asm h 3 (i:Int)) v pt rv rs/\(rs=[]->(rv.kind=4↔(asm h 3 (i:Int)).kind=4)/\isVec rv=true):=by
   by_cases h5:(asm h 3 (i:Int)).kind=5
   ·exact⟨_,_,Qb S.vec hv h5,λe=>by cases e⟩
   ·exact N8 S.vec hv hvk tx hpt h5
  obtain⟨OK,k,x2,o1,o2,o3,-,o5,-,-⟩:=VA (s:=nm) hl dP hn (by rw[S.sd];exact S.fit) (λk=>by have:=xP hk hz k;omega) (by rw[S.sd,ld];exact rk _ (aA S.cel)) (by rw[S.sd,ld];have:=S.sz;omega) z1;have iU:∀R r,((rs.isEmpty=false/\R=h/\r=rs)\/(rs=[]/\(asm h 3 (i:Int)).kind=4/\R=h/\r=[110,111,116,32,97,110,32,97,116,111,109,105,99,32,118,101,99,116,111,114])\/(rs=[]/\¬(asm h 3 (i:Int)).kind=4/\R=eG (iz h nm).1 k (⟨x2.count,rv,x2.parts⟩:Cel)/\r=[]))->StI h ⟨2,nm,fr,pt,v⟩ R r/\StS h ⟨2,nm,fr,pt,v⟩ R r:=by
   intro R r hc;refine⟨λcs cx w a b=>uH h nm fr pt v _ _ R r _ rv rs hz hk hl hx (eC hv) rfl rfl cs cx w a b hpt (.inr ⟨i,S.cd,S.dep,rfl,SI,?_⟩),
    λcs cx w a b=>uJ h nm fr pt v _ _ R r _ rv rs hz hk hl dP rk hx (eC hv) rfl rfl cs cx w a b hpt (.inr ⟨p,i,S.at_,S.slot,S.dep,rfl,SS,?_⟩)⟩
   ·rcases hc with hc|hc|⟨c1,c2,c3,c4⟩
    ·exact .inl hc
    ·exact .inr (.inl hc)
    ·exact .inr (.inr ⟨c1,c2,(iz h nm).1,k,x2,λg F W H=>by have:=Q9 h nm g F W H eb OK;rw[o1]at this;exact this,o2,c3,c4⟩)
   ·rcases hc with hc|⟨c1,c2,c3,c4⟩|⟨c1,c2,c3,c4⟩
    ·exact .inl hc
    ·exact .inr (.inl ⟨c1,(mP c1).1.2 c2,c3,c4⟩)
    ·exact .inr (.inr ⟨c1,λe=>c2 ((mP c1).1.1 e),(i6 (mP c1).2).1,by have:=vz (mP c1).2;omega,(iz h nm).1,k,x2,λg F W H=>by have:=Ed h nm g F W H eb OK;rw[o1]at this;exact this,o2,c3,c4⟩)
  by_cases e:rs=[]
  ·by_cases h4:(asm h 3 (i:Int)).kind=4
   ·obtain⟨k1,k2⟩:=iU _ _ (.inr (.inl ⟨e,h4,rfl,rfl⟩));exact⟨_,_,k1,k2,Gr.same hk⟩
   ·obtain⟨k1,k2⟩:=iU _ _ (.inr (.inr ⟨e,h4,rfl,rfl⟩));refine⟨_,_,k1,k2,?_⟩;obtain⟨q1,q2⟩:=mP e;have q3:¬rv.kind=4:=λz=>h4 (q1.1 z)
    have F:=jf q2;have q4:rv.parts=[]:=by
     rcases bz rv.parts.length with z|z
     ·exact aR.1 z
     ·exact absurd (F.np z) q3
    have q5:=BD q2;have q6:noParts rv=rv:=qE q4;rw[q6]at q5;have g1:=wT (iz h nm).1 k (⟨x2.count,rv,x2.parts⟩:Cel);have g2:=UO h nm;rw[S.sd,ld,Bu]at g2;rw[S.sd,ld]at o5;rw[Bu (⟨x2.count,rv,x2.parts⟩:Cel)]at g1;have g3:=S.sz;have g4:x.parts.length<=40:=by rw[<-S.par];have:=(jf S.vec).len;omega
    have g5:x2.parts.length<=40:=by rw[o5];exact g4
    simp only at g1;have TE:x.parts=[]:=by
     have h7:=S.fit;rcases bz x.parts.length with z|z
     ·exact aR.1 z
     ·have h8:=(jf S.vec).np (by rw[S.par];exact z);exact absurd h8 h4
    exact⟨by omega,λhc=>Y0 hk hn (La hx) o1 o2 o3 (by rw[o5];exact TE) q2 q4 hc⟩
  ·obtain⟨k1,k2⟩:=iU _ _ (.inl ⟨by cases rs;exact absurd rfl e;rfl,rfl,rfl⟩);exact⟨_,_,k1,k2,Gr.same hk⟩
 ·obtain⟨n1,n2⟩:=zS hn;exact⟨h,_,λcs cx w a b=>uH h nm fr pt v _ _ _ _ zeroV zeroV [] hz hk hl hx (eC hv) rfl rfl cs cx w a b hpt (.inl ⟨by omega,rfl,rfl⟩),
   λcs cx w a b=>uJ h nm fr pt v _ _ _ _ zeroV zeroV [] hz hk hl dP rk hx (eC hv) rfl rfl cs cx w a b hpt (.inl ⟨n2,rfl,rfl⟩),Gr.same hk⟩
theorem VD (hk:fG h=true) (hz:szD h.toD<=4194304) (hx:je ⟨3,nm,fr,pt,v⟩=true):∃(R:Hp) (r:Str),StI h ⟨3,nm,fr,pt,v⟩ R r/\StS h ⟨3,nm,fr,pt,v⟩ R r/\Gr h v R:=by
 obtain⟨hnm,hv,-,-,h3⟩:=sX hx;have Tw:=h3 rfl;obtain⟨z1,z2⟩:=sV hz;have hl:=(jc hk).1;have rk:=wR hk;have lJ:=eC hv;by_cases hn:hasN h nm=true
 ·obtain⟨p,i,xi,S⟩:=SF.of hk hn;by_cases hf:hasN h fr=true
  ·obtain⟨q,j,xj,T⟩:=SF.of hk hf;obtain⟨j',y',e1,e2,e3,e4,e5,K1,B1,-⟩:=NV hk hz nm fr hf;obtain rfl:j'=j:=by have:=e2.symm.trans T.sd;omega
   obtain rfl:y'=xj:=by have:=e3.symm.trans T.cel;injection this
   have ei:xi.value.kind=(asm h 3 (i:Int)).kind:=by rw[S.val]
   have ej:y'.value.kind=(asm h 3 (j':Int)).kind:=by rw[T.val]
   obtain⟨rI,rS,rs,FI,FS,mP⟩:=Pi (nm:=fr) S.vec T.vec ⟨Tw.1,by omega⟩;have hi:=S.cd;by_cases e:rs=[]
   ·subst e;by_cases h4:(asm h 3 (i:Int)).kind=4
    ·by_cases h0:(asm h 3 (j':Int)).kind=0
     ·exact⟨h,_,λcs cx w a b=>mE h nm fr pt v _ _ _ _ _ _ rI [] hz hk hl hx lJ rfl rfl cs cx w a b (.inr (.inr ⟨i,j',S.cd,T.cd,S.dep,rfl,T.dep,rfl,FI,.inr (.inr (.inl ⟨rfl,h4,h0,rfl,rfl⟩))⟩)),
       λcs cx w a b=>mN h nm fr pt v _ _ _ _ _ _ rS [] hz hk hl dP rk hx lJ rfl rfl cs cx w a b (.inr (.inr ⟨p,q,i,j',xi,y',S.at_,T.at_,S.slot,T.slot,S.cel,T.cel,S.dep,rfl,T.dep,rfl,FS,.inr (.inr (.inl ⟨rfl,by rw[ei];exact h4,by rw[ej];exact h0,rfl,rfl⟩))⟩)),Gr.same hk⟩
     ·obtain⟨m,hm40,hmp,hrS,gF⟩:=mP rfl h4 h0;have hjl:=(ay.1 T.cel).1;have AA:(celD (eG h j' (gE y')) (i:Int)).value=xi.value:=by
       rw[fQ hjl];split
       ·next hij=>
        obtain rfl:i=j':=dP;have:=S.cel.symm.trans T.cel;injection this with this
        rw[this];rfl
       ·rw[iI S.cel]
      have aa_:0<(celD h (i:Int)).count:=(sR S.fit).1;have hcp:(celD (eG h j' (gE y')) (i:Int)).parts=xi.parts:=by rw[(K1 _ aa_).1,iI S.cel]
      have X4:slotD (eG h j' (gE y')) nm=(i:Int):=S.sd;obtain⟨OK,k,x2,o1,o2,o3,o4,o5,o6,o7⟩:=VA (h:=eG h j' (gE y')) (s:=nm) hl (by show (h.names.length:Int)<=_;omega) hn (by rw[X4];exact qK K1 S.fit) B1 (by rw[X4,AA];exact rk _ (aA S.cel)) (by rw[X4,AA];have:=S.sz;omega) (by show (h.cells.set _ _).length<=_;rw[da];exact z1);rw[X4]at o4 o5;rw[AA]at o4;rw[hcp]at o5;obtain⟨OC,-⟩:=rm S.vec h4;have L:LV (asm h 3 (i:Int)).parts (asm h 3 (i:Int)).names (asm h 3 (i:Int)).cls:=LV.of (by rw[<-OC];exact S.vec);have ZL:x2.value.names=(asm h 3 (i:Int)).names:=by rw[o4,S.val]
      have TE:x2.parts.length=(asm h 3 (i:Int)).parts.length:=by rw[o5,S.par]
      have hxk:x2.value.kind=4:=by rw[o4,ei,h4]
      have hnl:x2.value.names.length<=40:=by rw[ZL];exact L.n60.1
      have mD:x2.parts.length<=40:=by rw[TE];exact L.l
      obtain⟨pn1,pn2⟩:=J_ (cls:=(asm h 3 (i:Int)).cls) (x:=asm h 3 (j':Int)) L.n Tw.1 hmp;rw[<-hrS,<-ZL]at pn1 pn2;rw[<-TE]at pn1;obtain⟨m',hm',hmq,-,hmo⟩:=E7 (nm:=fr) L.l L.n;have Nj:rS.names.length<=40:=pB (jf gF);have hlt:∀u:Nat,ix x2.value.names fr 0=(u:Int)->u<x2.parts.length:=λu hu=>by rw[ZL]at hu;rw[TE];exact(hmo u hu).2.1
      have hx0:∀ps:List Int,(0:Int)<=(⟨x2.count,x2.value,ps⟩:Cel).count/\(⟨x2.count,x2.value,ps⟩:Cel).count<=1152921504606846976:=λps=>by show 0<=x2.count/\x2.count<=_;omega
      have XX:∀u:Nat,tb x2 u (j':Int)=(⟨x2.count,x2.value,x2.parts.set u (j':Int)⟩:Cel):=λu=>by unfold tb;rw[Z2 hxk]
      refine⟨if 0<=ix x2.value.names fr 0 then iD 5 (eG (iz (eG h j' (gE y')) nm).1 k (tb x2 (ix x2.value.names fr 0).toNat (j':Int))) ((x2.parts[(ix x2.value.names fr 0).toNat]?).getD 0) else eG (iz (eG h j' (gE y')) nm).1 k (qb x2 fr (j':Int)),[],λcs cx w a b=>?_,λcs cx w a b=>?_,?_⟩
      ·refine mE h nm fr pt v _ _ _ _ _ _ rI [] hz hk hl hx lJ rfl rfl cs cx w a b (.inr (.inr ⟨i,j',S.cd,T.cd,S.dep,rfl,T.dep,rfl,FI,.inr (.inr (.inr ⟨rfl,h4,h0,λg F W H=>?_,rfl⟩))⟩));refine Ly h _ nm fr j' k y' x2 _ g F W H hl T.cd T.cel e4 e5 (λF W H=>?_) o2 rfl hnl mD eb (λu hu=>?_)
       ·have:=Q9 _ nm g F W H eb OK;rw[o1]at this;exact this
       ·have hul:=hlt u hu;have hy:=aw hul;refine⟨_,hy,?_⟩;rw[XX];exact(NJ o6 o2 hy o7 (hx0 _)).1
      ·refine mN h nm fr pt v _ _ _ _ _ _ rS [] hz hk hl dP rk hx lJ rfl rfl cs cx w a b (.inr (.inr ⟨p,q,i,j',xi,y',S.at_,T.at_,S.slot,T.slot,S.cel,T.cel,S.dep,rfl,T.dep,rfl,FS,.inr (.inr (.inr ⟨rfl,by rw[ei];exact h4,by rw[ej];exact h0,e4,e5,by omega,⟨(iz (eG h j' (gE y')) nm).1,k,x2,_,λg F W H=>?_,o2,rfl,hnl,mD,?_⟩,rfl⟩))⟩))
       ·have:=Ed _ nm g F W H eb OK;rw[o1]at this;exact this
       ·by_cases ha:0<=ix x2.value.names fr 0
        ·obtain⟨u,hu⟩:=bQ ha;have hul:=hlt u hu;have hy:=aw hul;obtain⟨r1,r2⟩:=NJ o6 o2 hy o7 (hx0 (x2.parts.set u (j':Int)));refine .inr ⟨u,_,_,hu,hy,r1,r2,?_⟩;rw[aN ha,hu,aU,XX,hy,bV,pn2 ha];refine(S6 r2).symm.trans ?_;congr 1;generalize x2.value=V;cases V;rfl
        ·refine .inl ⟨by omega,?_⟩;rw[aH ha,pn1 dP];unfold qb;rw[<-hxk]
      ·have g0:=UT T.cel;have g1:=UO (eG h j' (gE y')) nm;rw[X4,Bu,AA,hcp]at g1;have g2:=S.sz;have g3:xi.parts.length<=40:=by rw[<-o5];exact mD
       have F:=jf S.vec;refine⟨?_,λhc=>YD hk hn (La hx) T.cel (aA T.slot) (by rw[S.sd]) h4 Tw.1 o1 o2 o3 hmp (by rw[<-hrS];exact gF) hc⟩;split
       ·have g4:=PA 5 (eG (iz (eG h j' (gE y')) nm).1 k (tb x2 (ix x2.value.names fr 0).toNat (j':Int))) ((x2.parts[(ix x2.value.names fr 0).toNat]?).getD 0);have g5:=wT (iz (eG h j' (gE y')) nm).1 k (tb x2 (ix x2.value.names fr 0).toNat (j':Int));rw[Bu (tb _ _ _),XX]at g5;rw[XX]at g4 ⊢;have g6:szD x2.value.toD<=10000:=by rw[o4];exact g2
        simp only[da]at g5;omega
       ·next ha=>
        have g5:=wT (iz (eG h j' (gE y')) nm).1 k (qb x2 fr (j':Int));rw[Bu (qb _ _ _)]at g5;have hB:VB (qb x2 fr (j':Int)).value 0:=by
         have B:=F.vb (B:=740880000) (λx hx=>(L.p x hx).2);have e1:(qb x2 fr (j':Int)).value.names=rS.names:=(pn1 dP).symm;refine⟨?_,?_,?_,?_,?_⟩
         ·show x2.value.items.length<=41/\∀x∈x2.value.items,_
          rw[o4,S.val];exact B.i
         ·show x2.value.parts.length<=41/\∀x∈x2.value.parts,_
          rw[o4,S.val];exact⟨by simp,by simp⟩
         ·rw[e1];exact⟨by omega,(jf gF).names⟩
         ·show x2.value.cls.length<=40/\∀x∈x2.value.cls,_
          rw[o4,S.val];exact B.c
         ·show x2.value.levels.length<=40/\∀x∈x2.value.levels,_
          rw[o4,S.val];exact B.l
        have g6:=hB.sz;have g7:(qb x2 fr (j':Int)).parts.length=x2.parts.length+1:=by show (x2.parts++[_]).length=_;simp
        omega
    ·exact⟨h,_,λcs cx w a b=>mE h nm fr pt v _ _ _ _ _ _ rI [] hz hk hl hx lJ rfl rfl cs cx w a b (.inr (.inr ⟨i,j',S.cd,T.cd,S.dep,rfl,T.dep,rfl,FI,.inr (.inl ⟨rfl,h4,rfl,rfl⟩)⟩)),
      λcs cx w a b=>mN h nm fr pt v _ _ _ _ _ _ rS [] hz hk hl dP rk hx lJ rfl rfl cs cx w a b (.inr (.inr ⟨p,q,i,j',xi,y',S.at_,T.at_,S.slot,T.slot,S.cel,T.cel,S.dep,rfl,T.dep,rfl,FS,.inr (.inl ⟨rfl,by rw[ei];exact h4,rfl,rfl⟩)⟩)),Gr.same hk⟩
   ·have e':rs.isEmpty=false:=by cases rs;exact absurd rfl e;rfl
    exact⟨h,rs,λcs cx w a b=>mE h nm fr pt v _ _ _ _ _ _ rI rs hz hk hl hx lJ rfl rfl cs cx w a b (.inr (.inr ⟨i,j',S.cd,T.cd,S.dep,rfl,T.dep,rfl,FI,.inl ⟨e',rfl,rfl⟩⟩)),
     λcs cx w a b=>mN h nm fr pt v _ _ _ _ _ _ rS rs hz hk hl dP rk hx lJ rfl rfl cs cx w a b (.inr (.inr ⟨p,q,i,j',xi,y',S.at_,T.at_,S.slot,T.slot,S.cel,T.cel,S.dep,rfl,T.dep,rfl,FS,.inl ⟨e',rfl,rfl⟩⟩)),Gr.same hk⟩
  ·obtain⟨n1,n2⟩:=zS hf;exact⟨h,_,λcs cx w a b=>mE h nm fr pt v _ _ _ _ zeroV zeroV zeroV [] hz hk hl hx lJ rfl rfl cs cx w a b (.inr (.inl ⟨i,S.cd,by omega,rfl,rfl⟩)),
    λcs cx w a b=>mN h nm fr pt v _ _ _ _ zeroV zeroV zeroV [] hz hk hl dP rk hx lJ rfl rfl cs cx w a b (.inr (.inl ⟨p,S.at_,n2,rfl,rfl⟩)),Gr.same hk⟩
 ·obtain⟨n1,n2⟩:=zS hn;exact⟨h,_,λcs cx w a b=>mE h nm fr pt v _ _ _ _ zeroV zeroV zeroV [] hz hk hl hx lJ rfl rfl cs cx w a b (.inl ⟨by omega,rfl,rfl⟩),
   λcs cx w a b=>mN h nm fr pt v _ _ _ _ zeroV zeroV zeroV [] hz hk hl dP rk hx lJ rfl rfl cs cx w a b (.inl ⟨n2,rfl,rfl⟩),Gr.same hk⟩
theorem Jr:szD (Hp.toD ⟨[],[],[],0⟩)=0:=by rw[kD];simp [gv]
theorem YR {x:Hop} (hk:fG h=true) (hz:szD h.toD<=4194304) (hx:je x=true):∃(R:Hp) (r:Str),StI h x R r/\StS h x R r/\Gr h x.value R:=by
 obtain⟨kd,nm,fr,pt,v⟩:=x;obtain⟨-,-,h4,-,-⟩:=sX hx;rcases h4 with rfl|rfl|rfl|rfl
 ·exact RK hk hz hx
 ·exact P7 hk hz hx
 ·exact Oo hk hz hx
 ·exact VD hk hz hx
theorem S9 (h:Hp) (x:Hop) (hz:szD h.toD<=4194304) (hb:bigV x.value):∃(R:Hp) (r:Str),StI h x R r/\StS h x R r/\szD R.toD<=szD h.toD+2*szD x.value.toD+30000:=by
 cases hk:fG h with
 |false=>
  obtain⟨kd,nm,fr,pt,v⟩:=x;exact⟨_,_,λcs cx w a b=>PB h kd pt nm fr v hz hk hb cs cx w a b,λcs cx w a b=>P_ h kd pt nm fr v hz hk hb cs cx w a b,by rw[Jr];omega⟩
 |true=>
  cases hx:je x with
  |false=>
   obtain⟨kd,nm,fr,pt,v⟩:=x;exact⟨_,_,λcs cx w a b=>PC h kd pt nm fr v hz hk hx hb cs cx w a b,λcs cx w a b=>Qa h kd pt nm fr v hz hk hx hb cs cx w a b,by rw[Jr];omega⟩
  |true=>
   obtain⟨R,r,a,b,c⟩:=YR hk hz hx;exact⟨R,r,a,b,c.1⟩
end
section
variable {args:Array Value} {d:D} {Ψ:Ending->World->Prop} {h:Hp} {kd pt:Int} {x:Item} {R:List As} {X:List Nat} {cs cz:List Value} {B Nc Ne Ni Nl Nn Np Ns c1 c2 c3 cp f n1 n2 n3 np oE pR q rG tD xq:Nat} {A1 A2 A3 Ap:Option Addr} {fr nm:Str} {t:TypeId} {v:Vec} {w w0:World}
theorem Mem.openHeap4 {z:Value} (M:Mem prog w0 X w (.ow h.toD 28 [.slice A1 n1 c1,.slice A2 n2 c2,.slice A3 n3 c3,z]::R)):
 Mem prog w0 X w (.ow (.sl (h.cells.map Cel.toD)) 24 [.slice A1 n1 c1]:: .ow (.sl (h.names.map .s)) 25 [.slice A2 n2 c2]:: .ow (.sl (h.slots.map (.i .i64))) 26 [.slice A3 n3 c3]::R):=by
 obtain⟨_,_,_,_,_,_,_,_,_,he,M2⟩:=OU M;simp only[bF,bG,cO]at he;obtain⟨⟨rfl,rfl,rfl⟩,⟨rfl,rfl,rfl⟩,⟨rfl,rfl,rfl⟩,rfl⟩:=he;exact M2
theorem Mem.openOp12 {A4 A5:Option Addr}{n4 c4 n5 c5:Nat} {y0 y1 y2 y3 y4 y5 y6:Value} (M:Mem prog w0 X w (.ow (Hop.toD ⟨kd,nm,fr,pt,v⟩) 40 [y0,y1,y2,y3,y4,.slice A1 n1 c1,.slice A2 n2 c2,.slice A3 n3 c3,.slice A4 n4 c4,.slice A5 n5 c5,y5,y6]::R)):
 Mem prog w0 X w (.ow (.sl (v.items.map Item.toD)) 35 [.slice A1 n1 c1]:: .ow (.sl (v.parts.map Vec.toD)) 36 [.slice A2 n2 c2]:: .ow (.sl (v.names.map .s)) 25 [.slice A3 n3 c3]:: .ow (.sl (v.cls.map .s)) 25 [.slice A4 n4 c4]:: .ow (.sl (v.levels.map .s)) 25 [.slice A5 n5 c5]::R):=by
 obtain⟨_,_,_,_,_,_,_,_,_,_,_,_,_,_,_,he,M2⟩:=Kx M;simp only[bF,bG,cO]at he;obtain⟨rfl,rfl,rfl,rfl,rfl,⟨rfl,rfl,rfl⟩,⟨rfl,rfl,rfl⟩,⟨rfl,rfl,rfl⟩,⟨rfl,rfl,rfl⟩,⟨rfl,rfl,rfl⟩,rfl,rfl⟩:=he;exact M2
theorem T2 {y:Value} (hc:Calls prog f args w (eH h.toD 28 y w)) (M:Mem prog w0 X w R) (hK:∀(x:Gh) w',Mem prog w0 X w' (.ow h.toD 28 [.slice (x.A 1) h.cells.length (x.C 1),.slice (x.A 2) h.names.length (x.C 2),.slice (x.A 3) h.slots.length (x.C 3),h.copies]::R)->Ψ (.returned (.tuple #[.agg #[.slice (x.A 1) h.cells.length (x.C 1),.slice (x.A 2) h.names.length (x.C 2),.slice (x.A 3) h.slots.length (x.C 3),h.copies],y])) w'):Calls prog f args w Ψ:=
 hc.mono λe w' hn=>by obtain⟨cs,F,rfl,ho,hf,hb⟩:=hn;have M':=M.gain ho hf hb;obtain⟨Ah,ch,An,cn,Ak,ck,rfl,-⟩:=gV (M'.rp 0 rfl);exact hK (Ow [(none,0),(Ah,ch),(An,cn),(Ak,ck)]) w' M'
theorem adg (hc:Calls prog f args w (gM (Hop.toD ⟨kd,nm,fr,pt,v⟩) 40 w)) (M:Mem prog w0 X w R)
 (hK:∀(x:Gh) w',Mem prog w0 X w' (.ow (Hop.toD ⟨kd,nm,fr,pt,v⟩) 40 [kd,sv nm,sv fr,pt,v.kind,.slice (x.A 1) v.items.length (x.C 1),.slice (x.A 2) v.parts.length (x.C 2),.slice (x.A 3) v.names.length (x.C 3),.slice (x.A 4) v.cls.length (x.C 4),.slice (x.A 5) v.levels.length (x.C 5),v.code,v.env]::R)->
  Ψ (.returned (.agg #[kd,sv nm,sv fr,pt,v.kind,.slice (x.A 1) v.items.length (x.C 1),.slice (x.A 2) v.parts.length (x.C 2),.slice (x.A 3) v.names.length (x.C 3),.slice (x.A 4) v.cls.length (x.C 4),.slice (x.A 5) v.levels.length (x.C 5),v.code,v.env])) w'):Calls prog f args w Ψ:=
 hc.mono λe w' hn=>by obtain⟨cs,F,rfl,ho,hf,hb⟩:=hn;have M':=M.gain ho hf hb;obtain⟨Ai,ci,Ap,cp,An,cn,Ac,cc,Al,cl,rfl,-⟩:=gQ (M'.rp 0 rfl);exact hK (Ow [(none,0),(Ai,ci),(Ap,cp),(An,cn),(Ac,cc),(Al,cl)]) w' M'
theorem vd (h:Hp) (cs:List Value) (x:Hop) (cx:List Value) (w:World) (oD:rep w w.heap.size h.toD cs) (fE:rep w w.heap.size x.toD cx):
 Calls prog 6 #[av cs,av cx] w λe w'=>e= .returned (.bool true)/\Below w.heap.size w w':=by
 obtain⟨kd,nm,fr,pt,v⟩:=x;obtain⟨Ah,ch,An,cn,Ak,ck,rfl,-⟩:=gV oD;obtain⟨Ai,ci,Ap,cp,Av,cv,Ac,cc,Al,cl,rfl,-⟩:=gQ fE;obtain⟨L1,Pn⟩:∃z,jQ (szD h.toD) 1048576=z:=⟨_,rfl⟩;obtain⟨L2,R4⟩:∃z,jQ (szD (Hop.toD ⟨kd,nm,fr,pt,v⟩)) L1=z:=⟨_,rfl⟩;have hL1:=aa Pn;have hL2:=aa R4;have AR:L1<=1048576:=by rw[<-Pn];unfold jQ;split<;>omega
 by_cases c1:L1<0
 ·have q1:decide (L1<0)=true:=by simpa using c1
  clear Pn R4;have M:Mem prog w [] w []:=Mem.start;go_enter func6,ntmps6;refine Sq (Sa M (λJ1 wv M=>?_));refine Sa M (λJ2 wv M=>?_);refine Sb M [] 1 (Sz ?_);refine Ra M [] (Sq ?_);refine Sb M [1] 2 ?_;refine Sc (f_ (v:= .int .i64 L1) wl M λJ3 wv M=>Sp ?_);refine Sb M [] 1 (Sz (ae ?_));refine Ra M [] ?_;refine ct ?_;refine Ra M [] (aO (fI ?_));refine vQ results6 ?_;exact⟨rfl,M.bel⟩
 have hz':szD h.toD<=1048576:=by unfold jQ at Pn;split at Pn<;>omega
 have q1:decide (L1<0)=false:=by simpa using c1
 by_cases c2:L2<0
 ·have q2:decide (L2<0)=true:=by simpa using c2
  clear Pn R4;have M:Mem prog w [] w []:=Mem.start;go_enter func6,ntmps6;refine Sq (Sa M (λJ1 wv M=>?_));refine Sa M (λJ2 wv M=>?_);refine Sb M [] 1 (Sz ?_);refine Ra M [] (Sq ?_);refine Sb M [1] 2 ?_;refine Sc (f_ (v:= .int .i64 L1) wl M λJ3 wv M=>Sp ?_);refine Sb M [] 1 (Sz (ae ?_));refine Ra M [] ?_;refine gk (Sq ?_);refine Sb M [0] 2 ?_;refine Sc (f_ (v:= .int .i64 L2) BL M λJ4 wv M=>Sp ?_);refine Sb M [] 1 (Sz (ae ?_));refine Ra M [] ?_;refine ct ?_;refine Ra M [] (aO (fI ?_));refine vQ results6 ?_;exact⟨rfl,M.bel⟩
 have aeu:szD (Hop.toD ⟨kd,nm,fr,pt,v⟩)<=1048576:=by unfold jQ at R4;split at R4<;>omega
 have q2:decide (L2<0)=false:=by simpa using c2
 clear Pn R4;obtain⟨Rh,r,HI',Zc,hRz⟩:=S9 h ⟨kd,nm,fr,pt,v⟩ dP (by have z:=wG ⟨kd,nm,fr,pt,v⟩;unfold bigV;simp only at z ⊢;omega);have HI:=aa HI';have HS:=aa Zc;have hz:=aa hz';have hzx:=aa aeu;have hzv:=wG ⟨kd,nm,fr,pt,v⟩;simp only at hzv hRz;have hsh:=nM h;have hsr:=nM Rh;have hsv:=go v;have uN1:=Zi h.cells;obtain⟨N1,eN1⟩:∃N:Nat,eq (h.cells.map Cel.toD)=N:=⟨_,rfl⟩;rw[eN1]at uN1;have hN1:=aa eN1;clear eN1;have uN2:=MA h.names;obtain⟨N2,eN2⟩:∃N:Nat,eq (h.names.map D.s)=N:=⟨_,rfl⟩;rw[eN2]at uN2;have hN2:=aa eN2;clear eN2;have uN3:=aaN h.slots;obtain⟨N3,eN3⟩:∃N:Nat,eq (h.slots.map (D.i .i64))=N:=⟨_,rfl⟩;rw[eN3]at uN3;have hN3:=aa eN3;clear eN3;have uK1:=Zi Rh.cells;obtain⟨K1,eK1⟩:∃N:Nat,eq (Rh.cells.map Cel.toD)=N:=⟨_,rfl⟩;rw[eK1]at uK1;have rH:=aa eK1;clear eK1;have uK2:=MA Rh.names;obtain⟨K2,eK2⟩:∃N:Nat,eq (Rh.names.map D.s)=N:=⟨_,rfl⟩;rw[eK2]at uK2;have vk:=aa eK2;clear eK2;have uK3:=aaN Rh.slots;obtain⟨K3,eK3⟩:∃N:Nat,eq (Rh.slots.map (D.i .i64))=N:=⟨_,rfl⟩;rw[eK3]at uK3;have hK3:=aa eK3;clear eK3;have uP1:=Zj v.items;obtain⟨P1,eP1⟩:∃N:Nat,eq (v.items.map Item.toD)=N:=⟨_,rfl⟩;rw[eP1]at uP1;have hP1:=aa eP1;clear eP1;have uP2:=adi v.parts;obtain⟨P2,eP2⟩:∃N:Nat,eq (v.parts.map Vec.toD)=N:=⟨_,rfl⟩;rw[eP2]at uP2;have hP2:=aa eP2;clear eP2;have uP3:=MA v.names;obtain⟨P3,eP3⟩:∃N:Nat,eq (v.names.map D.s)=N:=⟨_,rfl⟩;rw[eP3]at uP3;have hP3:=aa eP3;clear eP3;have uP4:=MA v.cls;obtain⟨P4,eP4⟩:∃N:Nat,eq (v.cls.map D.s)=N:=⟨_,rfl⟩;rw[eP4]at uP4;have Zt:=aa eP4;clear eP4;have uP5:=MA v.levels;obtain⟨P5,eP5⟩:∃N:Nat,eq (v.levels.map D.s)=N:=⟨_,rfl⟩;rw[eP5]at uP5;have hP5:=aa eP5;clear eP5;have bN:(1:Int)+(N1:Int)+(N2:Int)+(N3:Int)+(P1:Int)+(P2:Int)+(P3:Int)+(P4:Int)+(P5:Int)<=1000000000:=dP;have bK:(1:Int)+(K1:Int)+(K2:Int)+(K3:Int)<=1000000000:=dP;have d1:decide ((((1:Int)+(N1:Int)+(N2:Int)+(N3:Int))+(P1:Int)+(P2:Int)+(P3:Int)+(P4:Int)+(P5:Int))<0)=false:=dS;have d2:decide (((1:Int)+(K1:Int)+(K2:Int)+(K3:Int))<0)=false:=dS;have d3:(((1:Int)+(K1:Int)+(K2:Int)+(K3:Int)) != ((1:Int)+(K1:Int)+(K2:Int)+(K3:Int)))=false:=dR;have d4:(r != r)=false:=dR;clear HI' Zc hz' aeu hzv hRz hsh hsr hsv uN1 uN2 uN3 uK1 uK2 uK3 uP1 uP2 uP3 uP4 uP5;have M:Mem prog w [] w []:=Mem.start;go_enter func6,ntmps6;refine Sq (Sa M (λJ1 wv M=>?_));refine Sa M (λJ2 wv M=>?_);refine Sb M [] 1 (Sz ?_);refine Ra M [] (Sq ?_);refine Sb M [1] 2 ?_;refine Sc (f_ (v:= .int .i64 L1) wl M λJ3 wv M=>Sp ?_);refine Sb M [] 1 (Sz (ae ?_));refine Ra M [] ?_;refine gk (Sq ?_);refine Sb M [0] 2 ?_;refine Sc (f_ (v:= .int .i64 L2) BL M λJ4 wv M=>Sp ?_);refine Sb M [] 1 (Sz (ae ?_));refine Ra M [] ?_;refine gk ?_;refine mL M [none,none] [.la 1,.v (.e 1 (λBk=> .agg #[.slice ((Bk.A 1)) h.cells.length ((Bk.C 1)),.slice ((Bk.A 2)) h.names.length ((Bk.C 2)),.slice ((Bk.A 3)) h.slots.length ((Bk.C 3)),h.copies])),.la 0,.v (.e 3 (λii=> .agg #[kd,sv nm,sv fr,pt,v.kind,.slice ((ii.A 1)) v.items.length ((ii.C 1)),.slice ((ii.A 2)) v.parts.length ((ii.C 2)),.slice ((ii.A 3)) v.names.length ((ii.C 3)),.slice ((ii.A 4)) v.cls.length ((ii.C 4)),.slice ((ii.A 5)) v.levels.length ((ii.C 5)),v.code,v.env])),.v (.e 4 (λnP=> .tuple #[.agg #[.slice ((nP.A 1)) Rh.cells.length ((nP.C 1)),.slice ((nP.A 2)) Rh.names.length ((nP.C 2)),.slice ((nP.A 3)) Rh.slots.length ((nP.C 3)),Rh.copies],sv r])),.p 0,.x 0 0,.x 1 1,.q 8 0,.u,.p 2] [.e 1 none (.e 1 (λBk=> .ow (Hp.toD h) 28 [.slice ((Bk.A 1)) h.cells.length ((Bk.C 1)),.slice ((Bk.A 2)) h.names.length ((Bk.C 2)),.slice ((Bk.A 3)) h.slots.length ((Bk.C 3)),h.copies])),.e 3 none (.e 3 (λii=> .ow (Hop.toD ⟨kd,nm,fr,pt,v⟩) 40 [kd,sv nm,sv fr,pt,v.kind,.slice ((ii.A 1)) v.items.length ((ii.C 1)),.slice ((ii.A 2)) v.parts.length ((ii.C 2)),.slice ((ii.A 3)) v.names.length ((ii.C 3)),.slice ((ii.A 4)) v.cls.length ((ii.C 4)),.slice ((ii.A 5)) v.levels.length ((ii.C 5)),v.code,v.env])),.e 4 none (.e 4 (λnP=> .ow (Hp.toD Rh) 28 [.slice ((nP.A 1)) Rh.cells.length ((nP.C 1)),.slice ((nP.A 2)) Rh.names.length ((nP.C 2)),.slice ((nP.A 3)) Rh.slots.length ((nP.C 3)),Rh.copies])),.e 8 (some 9) (oB 8 28 [(),(),(),.int .i64 0]),.x 9 none 5 4 0] [[1],[],[0],[],[2,3],[],[],[],[],[],[]] [] ?_ ?_
 ·show ∀i,i<11->_
  refine On ?_ eB;refine On ?_ (tn [5] [6] [] (h:=λγ wv R K M hK=>uC));refine On (On (On (On ?_ eB) eB) eB) (kX [5]);refine On ?_ (tn [] [4] [2,3] (h:=λγ wv R K M hK=>by go_simp;go_at_call 11;exact T2 (HS.out _ _ _ (M.rp 0 rfl) (M.rp 1 rfl)) M hK))
  refine On ?_ (tn [] [3] [] (h:=λγ wv R K M hK=>yG));refine On ?_ (mW [0] (h:=λγ wv K M hK=>uE));refine On ?_ (tn [] [2] [] (h:=λγ wv R K M hK=>ym));refine On ?_ (mW [1] (h:=λγ wv K M hK=>lC));exact Oz
 intro i7 wv M;replace M:Mem _ _ _ _ [_,_,.ow _ _ _,.ow _ _ _,.ow _ _ _,.bk _ _ [_,_,_,_]]:=M;refine Sq (Sb M [1] 1 ?_);refine Sc (L6 (E9 h _ _ (M.arg oD) hz.out) M λJ5 wv M=>Sp ?_);refine Sa M (λJ6 wv M=>?_);refine Ss M 0 (λwv M=>Sz (Sq ?_));refine Sb M [2] 1 ?_;refine Sc (adg (Ax ⟨kd,nm,fr,pt,v⟩ _ _ (M.arg fE) hzx.out) M λJ7 wv M=>Sp ?_);refine Sa M (λJ8 wv M=>?_);refine Ss M 0 (λwv M=>Sz (Sq ?_));refine Sb M [0,2] 2 ?_;replace M:=M.up [1,3];refine Sc (T2 (HI.out _ _ _ (M.rp 0 rfl) (M.rp 1 rfl)) M λJ9 wv M=>Sp ?_);refine Sb M [] 3 ?_;refine Sa M (λmO wv M=>?_);refine Ss M 0 (λwv M=>?_);refine Sb M [] 1 (Sz (ae (Sq ?_)));refine Sb M [0,11] 2 ?_;replace M:=M.up [10,2];refine Sc (f_ (v:= .bool true) (tL Rh _ _ _ (M.rp 0 rfl) (M.rp 1 rfl)) M λL5 wv M=>Sp ?_);refine Sb M [] 6 (Sz ?_);refine gk (ae ?_);refine mL (M.sel [3,6,8,0,1,2,4,5,7,9,10,11] dQ) [none,none,none] [.la 1,.la 2,.v (.e 2 (λqB=> .agg #[.slice ((qB.A 1)) h.cells.length ((qB.C 1)),.slice ((qB.A 2)) h.names.length ((qB.C 2)),.slice ((qB.A 3)) h.slots.length ((qB.C 3)),h.copies])),.b true,.b false] [.e 2 none (.e 2 (λqB=> .ow (Hp.toD h) 28 [.slice ((qB.A 1)) h.cells.length ((qB.C 1)),.slice ((qB.A 2)) h.names.length ((qB.C 2)),.slice ((qB.A 3)) h.slots.length ((qB.C 3)),h.copies]))] [[1],[2],[],[0,3],[]] [] ?_ ?_
 ·show ∀i,i<5->_
  refine On ?_ eh;refine On ?_ (tn [] [] [0,3] (h:=λγ wv R K M hK=>by go_simp;go_at_call 21;exact f_ (v:= .bool true) (tL h _ _ _ (M.rp 0 rfl) (M.rp 1 rfl)) M hK))
  refine On ?_ (tn [] [3] [] (h:=λγ wv R K M hK=>ym));refine On ?_ (mW [2] (h:=λγ wv K M hK=>lC));refine On ?_ (mW [1] (h:=λγ wv K M hK=>lC));exact Oz
 intro γ2 wv M;replace M:Mem _ _ _ _ [_,_,_,.ow _ _ _,_,_,_,_,_,_,_,_,_]:=M;refine gk (ae ?_);refine mL (M.sel [7,8,9,0,1,2,3,4,5,6,10,11,12] dQ) [none,none,none] [.la 1,.la 2,.v (.e 2 (λqB=> .agg #[kd,sv nm,sv fr,pt,v.kind,.slice ((qB.A 1)) v.items.length ((qB.C 1)),.slice ((qB.A 2)) v.parts.length ((qB.C 2)),.slice ((qB.A 3)) v.names.length ((qB.C 3)),.slice ((qB.A 4)) v.cls.length ((qB.C 4)),.slice ((qB.A 5)) v.levels.length ((qB.C 5)),v.code,v.env])),.b true,.b false] [.e 2 none (.e 2 (λqB=> .ow (Hop.toD ⟨kd,nm,fr,pt,v⟩) 40 [kd,sv nm,sv fr,pt,v.kind,.slice ((qB.A 1)) v.items.length ((qB.C 1)),.slice ((qB.A 2)) v.parts.length ((qB.C 2)),.slice ((qB.A 3)) v.names.length ((qB.C 3)),.slice ((qB.A 4)) v.cls.length ((qB.C 4)),.slice ((qB.A 5)) v.levels.length ((qB.C 5)),v.code,v.env]))] [[1],[2],[],[0,3],[]] [] ?_ ?_
 ·show ∀i,i<5->_
  refine On ?_ eh;refine On ?_ (tn [] [] [0,3] (h:=λγ wv R K M hK=>by go_simp;go_at_call 30;exact f_ (v:= .bool true) (KQ ⟨kd,nm,fr,pt,v⟩ _ _ _ (M.rp 0 rfl) (M.rp 1 rfl)) M hK))
  refine On ?_ (tn [] [3] [] (h:=λγ wv R K M hK=>yG));refine On ?_ (mW [2] (h:=λγ wv K M hK=>uE));refine On ?_ (mW [1] (h:=λγ wv K M hK=>uE));exact Oz
 intro Ho wv M;replace M:Mem _ _ _ _ [_,_,_,.ow _ _ _,_,_,_,_,_,_,_,_,_,_]:=M;refine gk ?_;refine Ra M [] ?_;replace M:=M.up [4];replace M:=M.openHeap4;refine Sq (Sb M [7] 2 ?_);refine Sc (lS (Ek h _ _ _ _ _ _ _ _ _ (1:Int) 1 _ M hN1.out hN2.out hN3.out rfl dP) λZd wv M=>Sp ?_);refine Sb M [] 1 (Sz ?_);replace M:=M.up [3];replace M:=Mem.openOp12 (v:=v) M;refine Sq (Sb M [8] 2 ?_);refine Sc (lS (Ll ⟨kd,nm,fr,pt,v⟩ _ _ _ _ _ _ _ _ _ _ _ _ _ _ _ ((1:Int)+(N1:Int)+(N2:Int)+(N3:Int)) (1+N1+N2+N3) _ M hP1.out hP2.out hP3.out Zt.out hP5.out (by push_cast;rfl) dP) λTS wv M=>Sp ?_);refine Sb M [] 1 (Sz (ae (Sq ?_)));refine Sb M [16,19] 5 ?_;replace M:=M.up [15,15];refine Sc (f_ (v:= .bool true) (tL Rh _ _ _ (M.rp 0 rfl) (M.rp 1 rfl)) M λI_ wv M=>Sp ?_);refine Sb M [] 7 (Sz ?_);refine gk ?_;refine Ra M [] ?_;replace M:=M.openHeap4;refine Sq (Sb M [18] 2 ?_);refine Sc (lS (Ek Rh _ _ _ _ _ _ _ _ _ (1:Int) 1 _ M rH.out vk.out hK3.out rfl dP) λOY wv M=>Sp ?_);refine Sb M [] 1 (Sz ?_);refine Ra M [] (Sq ?_);refine Sb M [18] 2 ?_;refine Sc (f_ (v:= .int .i64 ((1:Int)+(K1:Int)+(K2:Int)+(K3:Int))) (DG Rh _ _ _ _ _ _ _ _ _ (1:Int) 1 _ rH.out vk.out hK3.out (M.rp 0 rfl) (M.rp 1 rfl) (M.rp 2 rfl) rfl dP) M λQx wv M=>Sp ?_);refine Sb M [] 1 (Sz (ae ?_));refine Ra M [] ?_;refine gk (ae ?_);refine Ra M [] ?_;refine gk ?_;refine mL (M.sel [13,16,0,1,2,3,4,5,6,7,8,9,10,11,12,14,15,17,18,19,20,21] dQ) [none,none] [.la 1,.v (.e 1 (λBk=> .agg #[.slice ((Bk.A 1)) h.cells.length ((Bk.C 1)),.slice ((Bk.A 2)) h.names.length ((Bk.C 2)),.slice ((Bk.A 3)) h.slots.length ((Bk.C 3)),h.copies])),.la 0,.v (.e 3 (λii=> .agg #[kd,sv nm,sv fr,pt,v.kind,.slice ((ii.A 1)) v.items.length ((ii.C 1)),.slice ((ii.A 2)) v.parts.length ((ii.C 2)),.slice ((ii.A 3)) v.names.length ((ii.C 3)),.slice ((ii.A 4)) v.cls.length ((ii.C 4)),.slice ((ii.A 5)) v.levels.length ((ii.C 5)),v.code,v.env])),.v (.e 4 (λnP=> .tuple #[.agg #[.slice ((nP.A 1)) Rh.cells.length ((nP.C 1)),.slice ((nP.A 2)) Rh.names.length ((nP.C 2)),.slice ((nP.A 3)) Rh.slots.length ((nP.C 3)),Rh.copies],sv r])),.p 0,.x 0 0,.x 1 1,.q 8 0,.u,.p 2] [.e 1 none (.e 1 (λBk=> .ow (Hp.toD h) 28 [.slice ((Bk.A 1)) h.cells.length ((Bk.C 1)),.slice ((Bk.A 2)) h.names.length ((Bk.C 2)),.slice ((Bk.A 3)) h.slots.length ((Bk.C 3)),h.copies])),.e 3 none (.e 3 (λii=> .ow (Hop.toD ⟨kd,nm,fr,pt,v⟩) 40 [kd,sv nm,sv fr,pt,v.kind,.slice ((ii.A 1)) v.items.length ((ii.C 1)),.slice ((ii.A 2)) v.parts.length ((ii.C 2)),.slice ((ii.A 3)) v.names.length ((ii.C 3)),.slice ((ii.A 4)) v.cls.length ((ii.C 4)),.slice ((ii.A 5)) v.levels.length ((ii.C 5)),v.code,v.env])),.e 4 none (.e 4 (λnP=> .ow (Hp.toD Rh) 28 [.slice ((nP.A 1)) Rh.cells.length ((nP.C 1)),.slice ((nP.A 2)) Rh.names.length ((nP.C 2)),.slice ((nP.A 3)) Rh.slots.length ((nP.C 3)),Rh.copies])),.e 8 (some 9) (oB 8 28 [(),(),(),.int .i64 0]),.x 9 none 5 4 0] [[1],[],[0],[],[2,3],[],[],[],[],[],[]] [] ?_ ?_
 ·show ∀i,i<11->_
  refine On ?_ eB;refine On ?_ (tn [5] [6] [] (h:=λγ wv R K M hK=>uC));refine On (On (On (On ?_ eB) eB) eB) (kX [5]);refine On ?_ (tn [] [4] [2,3] (h:=λγ wv R K M hK=>by go_simp;go_at_call 10;exact T2 (HI.out _ _ _ (M.rp 0 rfl) (M.rp 1 rfl)) M hK))
  refine On ?_ (tn [] [3] [] (h:=λγ wv R K M hK=>yG));refine On ?_ (mW [0] (h:=λγ wv K M hK=>uE));refine On ?_ (tn [] [2] [] (h:=λγ wv R K M hK=>ym));refine On ?_ (mW [1] (h:=λγ wv K M hK=>lC));exact Oz
 intro Wf wv M;replace M:Mem _ _ _ _ [_,_,.ow _ _ _,.ow _ _ _,.ow _ _ _,.bk _ _ [_,_,_,_],_,_,_,_,_,_,_,_,_,_,_,_,_,_,_,_,_,_,_,_]:=M;refine ae (Sq (Sb M [5,25] 2 ?_));replace M:=M.up [9,5];refine Sc (f_ (v:= .bool true) (tL Rh _ _ _ (M.rp 0 rfl) (M.rp 1 rfl)) M λW7 wv M=>Sp ?_);refine Sb M [] 6 (Sz ?_);refine gk ?_;refine Ra M [] (Sq ?_);refine Sb M [22] 2 ?_;replace M:=M.up [9,9,9];refine Sc (f_ (v:= .int .i64 ((1:Int)+(K1:Int)+(K2:Int)+(K3:Int))) (DG Rh _ _ _ _ _ _ _ _ _ (1:Int) 1 _ rH.out vk.out hK3.out (M.rp 0 rfl) (M.rp 1 rfl) (M.rp 2 rfl) rfl dP) M λJ18 wv M=>Sp ?_);refine Sb M [] 1 (Sz (ae ?_));refine Ra M [] ?_;refine gk (ae ?_);refine Ra M [] ?_;refine gk ?_;refine Ra M [] (aO ?_);refine vQ results6 ?_;exact⟨rfl,M.bel⟩
theorem PU (h:rK prog d t) (ht:t=59) (hr:rep w B d cs):∃(x:Hp) (cs':List Value),cs=cs'/\rep w B x.toD cs':=by subst ht;obtain⟨x,rfl⟩:=TQ h;exact⟨x,cs,rfl,hr⟩
theorem SR (h:rK prog d t) (ht:t=65) (hr:rep w B d cs):∃(x:Hop) (cs':List Value),cs=cs'/\rep w B x.toD cs':=by subst ht;obtain⟨x,rfl⟩:=OT h;exact⟨x,cs,rfl,hr⟩
end
end Go.Proofs.YtekcpadlmfaihaaGreat
