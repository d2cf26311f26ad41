/- A step of a right heap: the code and the specification do alike. -/
import Derived.Test.YtekcpadlmfaihaaGreatWNss
import Derived.Test.YtekcpadlmfaihaaGreatWQg
import Derived.Test.YtekcpadlmfaihaaGreatWQe
import Derived.Test.YtekcpadlmfaihaaGreatWNb
import Derived.Test.YtekcpadlmfaihaaGreatWHye
import Derived.Test.YtekcpadlmfaihaaGreatWNhp
import Derived.Test.YtekcpadlmfaihaaGreatWLn
import Derived.Test.YtekcpadlmfaihaaGreatWDvb
import Derived.Test.YtekcpadlmfaihaaGreatWNsp
namespace Go.Proofs.YtekcpadlmfaihaaGreat
open Go.RowKit Proofs.Tryz
set_option linter.unusedSimpArgs false
set_option linter.unusedVariables false
variable {h:Hp} {kd pt:Int} {fr nm s:Str} {v:Vec}
def StI (h:Hp) (x:Hop) (R:Hp) (r:Str):Prop:=∀(cs cx:List Value) (w:World),rep w w.heap.size h.toD cs->rep w w.heap.size x.toD cx->Calls prog 10 #[av cs,av cx] w (eH R.toD 28 (sv r) w)
def StS (h:Hp) (x:Hop) (R:Hp) (r:Str):Prop:=∀(cs cx:List Value) (w:World),rep w w.heap.size h.toD cs->rep w w.heap.size x.toD cx->Calls prog 11 #[av cs,av cx] w (eH R.toD 28 (sv r) w)
def Gr (h:Hp) (v:Vec) (R:Hp):Prop:=szD R.toD<=szD h.toD+2*szD v.toD+30000/\(h.copies<=1000->fG R=true/\R.copies<=h.copies+1/\(GD h->GD R))
theorem Gr.same (hk:fG h=true):Gr h v h:=⟨by omega,λ_=>⟨hk,by omega,λG=>G⟩⟩
theorem La (h:je ⟨kd,nm,fr,pt,v⟩=true):isNm nm=true:=by simp only[je,ax]at h;exact h.1.1.1
theorem zS (hn:¬hasN h s=true):cellD h s= -1/\ix h.names s 0<0:=by refine⟨by unfold cellD;rw[aH hn],?_⟩;simp only[hasN,aL]at hn;omega
structure SF (h:Hp) (s:Str) (p i:Nat) (x:Cel):Prop where
 at_:ix h.names s 0=(p:Int)
 slot:h.slots[p]?=some (i:Int)
 sd:slotD h s=(i:Int)
 cd:cellD h s=(i:Int)
 cel:h.cells[i]?=some x
 dep:depD h 3 (i:Int)=true
 vec:isVec (asm h 3 (i:Int))=true
 fit:fitP h 3 (i:Int)
 val:x.value=noParts (asm h 3 (i:Int))
 par:(asm h 3 (i:Int)).parts.length=x.parts.length
 sz:szD x.value.toD<=10000
theorem wR (hk:fG h=true):∀x∈h.cells,x.value.parts=[]:=by obtain⟨h1,h2,h3⟩:=jc hk;intro x hx;obtain⟨i,hi⟩:=List.getElem?_of_mem hx;have h4:=iC.1 h2 i x hi;simp only[m9,ax,aL]at h4;exact aR.1 h4.1.2
theorem SF.of (hk:fG h=true) (hn:hasN h s=true):∃(p i:Nat) (x:Cel),SF h s p i x:=by
 obtain⟨p,hp,mD,hs,h0,hl,hd,hv⟩:=BA hk hn;obtain⟨i,hi⟩:=bQ h0;rw[hi]at hs hd hv hl;have hil:i<h.cells.length:=dP;have hx:h.cells[i]?=some h.cells[i]:=aw hil;have ld:=iI hx;have rk:=wR hk _ (dA hil);have e:asm h 3 (i:Int)={h.cells[i].value with parts:=h.cells[i].parts.map (asm h 2)}:=by rw[asm,ld]
 have ev:h.cells[i].value=noParts (asm h 3 (i:Int)):=by rw[e];exact(qE rk).symm
 refine⟨p,i,h.cells[i],hp,hs,hi,by unfold cellD;rw[aN hn,hi],hx,hd,hv,by rw[<-hi];exact tS hk hn,ev,by rw[e];simp,?_⟩;rw[ev];exact BD hv
theorem Vp (h:isNm s=true):1<=s.length/\s.length<=20:=by unfold isNm at h;simp only[ax,aL]at h;exact h.2
theorem sX (h:je ⟨kd,nm,fr,pt,v⟩=true):(1<=nm.length/\nm.length<=20)/\isVec v=true/\(kd=0\/kd=1\/kd=2\/kd=3)/\(kd=2->(1<=pt/\pt<=40)/\(1<=v.kind/\v.kind<=3)/\v.items.length=1)/\(kd=3->1<=fr.length/\fr.length<=20):=by
 simp only[je,ax,AV]at h;obtain⟨⟨⟨h1,h2⟩,h3⟩,h4⟩:=h;refine⟨Vp h1,h2,?_,λe=>?_,λe=>?_⟩
 ·by_cases e0:kd=0
  ·exact .inl e0
  ·rw[aH e0]at h4;by_cases e2:kd=2
   ·exact .inr (.inr (.inl e2))
   ·rw[aH e2]at h4;by_cases e3:kd=1\/kd=3
    ·omega
    ·rw[aH e3]at h4;cases h4
 ·rw[aH dP,aN e]at h4;simp only[ax,aL,atomK]at h4;exact⟨h4.1.1.2,h4.1.2,h4.2⟩
 ·rw[aH dP,aH dP,aN (.inr e)]at h4;simp only[ax]at h4;exact Vp h4.1
theorem UT {j:Nat} {y:Cel} (e:h.cells[j]?=some y):szD (eG h j (gE y)).toD<=szD h.toD:=by have g:=wT h j (gE y);rw[iI e,Bu,Bu]at g;have e1:(gE y).value=y.value:=rfl;have e2:(gE y).parts=y.parts:=rfl;rw[e1,e2]at g;omega
theorem RK (hk:fG h=true) (hz:szD h.toD<=4194304) (hx:je ⟨0,nm,fr,pt,v⟩=true):∃(R:Hp) (r:Str),StI h ⟨0,nm,fr,pt,v⟩ R r/\StS h ⟨0,nm,fr,pt,v⟩ R r/\Gr h v R:=by
 obtain⟨hnm,hv,-,-,-⟩:=sX hx;have ZJ:=(i6 hv).1;obtain⟨z1,z2⟩:=sV hz;have hl:=(jc hk).1;obtain⟨h1,k,e,p1,p2,p3,p4,p5⟩:=Xc hk hz nm v ZJ (by have:=vz hv;omega);exact⟨fd h1 nm k,[],λcs cx w a b=>Iy h nm fr pt v _ _ h1 k hz hk hl hx (eC hv) rfl rfl cs cx w a b e p1 p2 p3 p4 p5,
  λcs cx w a b=>I0 h nm fr pt v _ _ h1 k hz hk hl dP (wR hk) hx (eC hv) rfl rfl cs cx w a b e p1 ZJ p2 p3 p4 p5,by have g1:=UP 4 h v;have g2:=Ld h1 nm k;rw[e]at g1;refine⟨by simp only at g1;omega,λ_=>?_⟩;obtain⟨q1,q2,q3⟩:=TZ hk hz (La hx) hv e;exact⟨q1,by omega,q3⟩⟩
theorem P7 (hk:fG h=true) (hz:szD h.toD<=4194304) (hx:je ⟨1,nm,fr,pt,v⟩=true):∃(R:Hp) (r:Str),StI h ⟨1,nm,fr,pt,v⟩ R r/\StS h ⟨1,nm,fr,pt,v⟩ R r/\Gr h v R:=by
 obtain⟨hnm,hv,-,-,-⟩:=sX hx;obtain⟨z1,z2⟩:=sV hz;have hl:=(jc hk).1;by_cases hf:hasN h fr=true
 ·obtain⟨p,i,x,S⟩:=SF.of hk hf;obtain⟨j,y,e1,e2,e3,e4,e5,-,-,e8⟩:=NV hk hz nm fr hf;have ej:(i:Int)=(j:Int):=by rw[<-S.sd,e2]
  exact⟨fd (eG h j (gE y)) nm (j:Int),[],λcs cx w a b=>vu h nm fr pt v _ _ _ _ hz hk hl hx (eC hv) rfl rfl cs cx w a b dP (.inr ⟨j,y,e1,e3,e4,e5,e8,rfl,rfl⟩),
   λcs cx w a b=>vZ h nm fr pt v _ _ _ _ hz hk hl dP (wR hk) hx (eC hv) rfl rfl cs cx w a b dP (.inr ⟨p,j,y,S.at_,by rw[<-ej];exact S.slot,e3,e4,e5,e8,rfl,rfl⟩),by have g1:=UT e3;have g2:=Ld (eG h j (gE y)) nm (j:Int);refine⟨by omega,λ_=>?_⟩;obtain⟨q1,q2,q3⟩:=S7 hk (La hx) e3 (by rw[<-ej];exact aA S.slot);exact⟨q1,by omega,q3⟩⟩
 ·obtain⟨n1,n2⟩:=zS hf;exact⟨h,_,λcs cx w a b=>vu h nm fr pt v _ _ _ _ hz hk hl hx (eC hv) rfl rfl cs cx w a b dP (.inl ⟨by omega,rfl,rfl⟩),
   λcs cx w a b=>vZ h nm fr pt v _ _ _ _ hz hk hl dP (wR hk) hx (eC hv) rfl rfl cs cx w a b dP (.inl ⟨n2,rfl,rfl⟩),Gr.same hk⟩
theorem Oo (hk:fG h=true) (hz:szD h.toD<=4194304) (hx:je ⟨2,nm,fr,pt,v⟩=true):∃(R:Hp) (r:Str),StI h ⟨2,nm,fr,pt,v⟩ R r/\StS h ⟨2,nm,fr,pt,v⟩ R r/\Gr h v R:=by
 obtain⟨hnm,hv,-,h2,-⟩:=sX hx;obtain⟨hpt,hvk,tx⟩:=h2 rfl;obtain⟨z1,z2⟩:=sV hz;have hl:=(jc hk).1;have rk:=wR hk;by_cases hn:hasN h nm=true
 ·obtain⟨p,i,x,S⟩:=SF.of hk hn;have ld:=iI S.cel;obtain⟨rv,rs,⟨SI,SS⟩,mP⟩:∃(rv:Vec) (rs:Str),wH (asm h 3 (i:Int)) v pt rv rs/\(rs=[]->(rv.kind=4↔(asm h 3 (i:Int)).kind=4)/\isVec rv=true):=by
   by_cases h5:(asm h 3 (i:Int)).kind=5
   ·exact⟨_,_,Qb S.vec hv h5,λe=>by cases e⟩
   ·exact N8 S.vec hv hvk tx hpt h5
  obtain⟨OK,k,x2,o1,o2,o3,-,o5,-,-⟩:=VA (s:=nm) hl dP hn (by rw[S.sd];exact S.fit) (λk=>by have:=xP hk hz k;omega) (by rw[S.sd,ld];exact rk _ (aA S.cel)) (by rw[S.sd,ld];have:=S.sz;omega) z1;have iU:∀R r,((rs.isEmpty=false/\R=h/\r=rs)\/(rs=[]/\(asm h 3 (i:Int)).kind=4/\R=h/\r=[110,111,116,32,97,110,32,97,116,111,109,105,99,32,118,101,99,116,111,114])\/(rs=[]/\¬(asm h 3 (i:Int)).kind=4/\R=eG (iz h nm).1 k (⟨x2.count,rv,x2.parts⟩:Cel)/\r=[]))->StI h ⟨2,nm,fr,pt,v⟩ R r/\StS h ⟨2,nm,fr,pt,v⟩ R r:=by
   intro R r hc;refine⟨λcs cx w a b=>uH h nm fr pt v _ _ R r _ rv rs hz hk hl hx (eC hv) rfl rfl cs cx w a b hpt (.inr ⟨i,S.cd,S.dep,rfl,SI,?_⟩),
    λcs cx w a b=>uJ h nm fr pt v _ _ R r _ rv rs hz hk hl dP rk hx (eC hv) rfl rfl cs cx w a b hpt (.inr ⟨p,i,S.at_,S.slot,S.dep,rfl,SS,?_⟩)⟩
   ·rcases hc with hc|hc|⟨c1,c2,c3,c4⟩
    ·exact .inl hc
    ·exact .inr (.inl hc)
    ·exact .inr (.inr ⟨c1,c2,(iz h nm).1,k,x2,λg F W H=>by have:=Q9 h nm g F W H eb OK;rw[o1]at this;exact this,o2,c3,c4⟩)
   ·rcases hc with hc|⟨c1,c2,c3,c4⟩|⟨c1,c2,c3,c4⟩
    ·exact .inl hc
    ·exact .inr (.inl ⟨c1,(mP c1).1.2 c2,c3,c4⟩)
    ·exact .inr (.inr ⟨c1,λe=>c2 ((mP c1).1.1 e),(i6 (mP c1).2).1,by have:=vz (mP c1).2;omega,(iz h nm).1,k,x2,λg F W H=>by have:=Ed h nm g F W H eb OK;rw[o1]at this;exact this,o2,c3,c4⟩)
  by_cases e:rs=[]
  ·by_cases h4:(asm h 3 (i:Int)).kind=4
   ·obtain⟨k1,k2⟩:=iU _ _ (.inr (.inl ⟨e,h4,rfl,rfl⟩));exact⟨_,_,k1,k2,Gr.same hk⟩
   ·obtain⟨k1,k2⟩:=iU _ _ (.inr (.inr ⟨e,h4,rfl,rfl⟩));refine⟨_,_,k1,k2,?_⟩;obtain⟨q1,q2⟩:=mP e;have q3:¬rv.kind=4:=λz=>h4 (q1.1 z);have F:=jf q2;have q4:rv.parts=[]:=by
     rcases bz rv.parts.length with z|z
     ·exact aR.1 z
     ·exact absurd (F.np z) q3
    have q5:=BD q2;have q6:noParts rv=rv:=qE q4;rw[q6]at q5;have g1:=wT (iz h nm).1 k (⟨x2.count,rv,x2.parts⟩:Cel);have g2:=UO h nm;rw[S.sd,ld,Bu]at g2;rw[S.sd,ld]at o5;rw[Bu (⟨x2.count,rv,x2.parts⟩:Cel)]at g1;have g3:=S.sz;have g4:x.parts.length<=40:=by rw[<-S.par];have:=(jf S.vec).len;omega
    have g5:x2.parts.length<=40:=by rw[o5];exact g4
    simp only at g1;have TE:x.parts=[]:=by
     have h7:=S.fit;rcases bz x.parts.length with z|z
     ·exact aR.1 z
     ·have h8:=(jf S.vec).np (by rw[S.par];exact z);exact absurd h8 h4
    exact⟨by omega,λhc=>Y0 hk hn (La hx) o1 o2 o3 (by rw[o5];exact TE) q2 q4 hc⟩
  ·obtain⟨k1,k2⟩:=iU _ _ (.inl ⟨by cases rs;exact absurd rfl e;rfl,rfl,rfl⟩);exact⟨_,_,k1,k2,Gr.same hk⟩
 ·obtain⟨n1,n2⟩:=zS hn;exact⟨h,_,λcs cx w a b=>uH h nm fr pt v _ _ _ _ zeroV zeroV [] hz hk hl hx (eC hv) rfl rfl cs cx w a b hpt (.inl ⟨by omega,rfl,rfl⟩),
   λcs cx w a b=>uJ h nm fr pt v _ _ _ _ zeroV zeroV [] hz hk hl dP rk hx (eC hv) rfl rfl cs cx w a b hpt (.inl ⟨n2,rfl,rfl⟩),Gr.same hk⟩
theorem VD (hk:fG h=true) (hz:szD h.toD<=4194304) (hx:je ⟨3,nm,fr,pt,v⟩=true):∃(R:Hp) (r:Str),StI h ⟨3,nm,fr,pt,v⟩ R r/\StS h ⟨3,nm,fr,pt,v⟩ R r/\Gr h v R:=by
 obtain⟨hnm,hv,-,-,h3⟩:=sX hx;have Tw:=h3 rfl;obtain⟨z1,z2⟩:=sV hz;have hl:=(jc hk).1;have rk:=wR hk;have lJ:=eC hv;by_cases hn:hasN h nm=true
 ·obtain⟨p,i,xi,S⟩:=SF.of hk hn;by_cases hf:hasN h fr=true
  ·obtain⟨q,j,xj,T⟩:=SF.of hk hf;obtain⟨j',y',e1,e2,e3,e4,e5,K1,B1,-⟩:=NV hk hz nm fr hf;obtain rfl:j'=j:=by have:=e2.symm.trans T.sd;omega
   obtain rfl:y'=xj:=by have:=e3.symm.trans T.cel;injection this
   have ei:xi.value.kind=(asm h 3 (i:Int)).kind:=by rw[S.val]
   have ej:y'.value.kind=(asm h 3 (j':Int)).kind:=by rw[T.val]
   obtain⟨rI,rS,rs,FI,FS,mP⟩:=Pi (nm:=fr) S.vec T.vec ⟨Tw.1,by omega⟩;have hi:=S.cd;by_cases e:rs=[]
   ·subst e;by_cases h4:(asm h 3 (i:Int)).kind=4
    ·by_cases h0:(asm h 3 (j':Int)).kind=0
     ·exact⟨h,_,λcs cx w a b=>mE h nm fr pt v _ _ _ _ _ _ rI [] hz hk hl hx lJ rfl rfl cs cx w a b (.inr (.inr ⟨i,j',S.cd,T.cd,S.dep,rfl,T.dep,rfl,FI,.inr (.inr (.inl ⟨rfl,h4,h0,rfl,rfl⟩))⟩)),
       λcs cx w a b=>mN h nm fr pt v _ _ _ _ _ _ rS [] hz hk hl dP rk hx lJ rfl rfl cs cx w a b (.inr (.inr ⟨p,q,i,j',xi,y',S.at_,T.at_,S.slot,T.slot,S.cel,T.cel,S.dep,rfl,T.dep,rfl,FS,.inr (.inr (.inl ⟨rfl,by rw[ei];exact h4,by rw[ej];exact h0,rfl,rfl⟩))⟩)),Gr.same hk⟩
     ·obtain⟨m,hm40,hmp,hrS,gF⟩:=mP rfl h4 h0;have hjl:=(ay.1 T.cel).1;have AA:(celD (eG h j' (gE y')) (i:Int)).value=xi.value:=by
       rw[fQ hjl];split
       ·next hij=>
        obtain rfl:i=j':=dP;have:=S.cel.symm.trans T.cel;injection this with this;rw[this];rfl
       ·rw[iI S.cel]
      have aa_:0<(celD h (i:Int)).count:=(sR S.fit).1;have hcp:(celD (eG h j' (gE y')) (i:Int)).parts=xi.parts:=by rw[(K1 _ aa_).1,iI S.cel]
      have X4:slotD (eG h j' (gE y')) nm=(i:Int):=S.sd;obtain⟨OK,k,x2,o1,o2,o3,o4,o5,o6,o7⟩:=VA (h:=eG h j' (gE y')) (s:=nm) hl (by show (h.names.length:Int)<=_;omega) hn (by rw[X4];exact qK K1 S.fit) B1 (by rw[X4,AA];exact rk _ (aA S.cel)) (by rw[X4,AA];have:=S.sz;omega) (by show (h.cells.set _ _).length<=_;rw[da];exact z1);rw[X4]at o4 o5;rw[AA]at o4;rw[hcp]at o5;obtain⟨OC,-⟩:=rm S.vec h4;have L:LV (asm h 3 (i:Int)).parts (asm h 3 (i:Int)).names (asm h 3 (i:Int)).cls:=LV.of (by rw[<-OC];exact S.vec);have ZL:x2.value.names=(asm h 3 (i:Int)).names:=by rw[o4,S.val]
      have TE:x2.parts.length=(asm h 3 (i:Int)).parts.length:=by rw[o5,S.par]
      have hxk:x2.value.kind=4:=by rw[o4,ei,h4]
      have hnl:x2.value.names.length<=40:=by rw[ZL];exact L.n60.1
      have mD:x2.parts.length<=40:=by rw[TE];exact L.l
      obtain⟨pn1,pn2⟩:=J_ (cls:=(asm h 3 (i:Int)).cls) (x:=asm h 3 (j':Int)) L.n Tw.1 hmp;rw[<-hrS,<-ZL]at pn1 pn2;rw[<-TE]at pn1;obtain⟨m',hm',hmq,-,hmo⟩:=E7 (nm:=fr) L.l L.n;have Nj:rS.names.length<=40:=pB (jf gF);have hlt:∀u:Nat,ix x2.value.names fr 0=(u:Int)->u<x2.parts.length:=λu hu=>by rw[ZL]at hu;rw[TE];exact(hmo u hu).2.1
      have hx0:∀ps:List Int,(0:Int)<=(⟨x2.count,x2.value,ps⟩:Cel).count/\(⟨x2.count,x2.value,ps⟩:Cel).count<=1152921504606846976:=λps=>by show 0<=x2.count/\x2.count<=_;omega
      have XX:∀u:Nat,tb x2 u (j':Int)=(⟨x2.count,x2.value,x2.parts.set u (j':Int)⟩:Cel):=λu=>by unfold tb;rw[Z2 hxk]
      refine⟨if 0<=ix x2.value.names fr 0 then iD 5 (eG (iz (eG h j' (gE y')) nm).1 k (tb x2 (ix x2.value.names fr 0).toNat (j':Int))) ((x2.parts[(ix x2.value.names fr 0).toNat]?).getD 0) else eG (iz (eG h j' (gE y')) nm).1 k (qb x2 fr (j':Int)),[],λcs cx w a b=>?_,λcs cx w a b=>?_,?_⟩
      ·refine mE h nm fr pt v _ _ _ _ _ _ rI [] hz hk hl hx lJ rfl rfl cs cx w a b (.inr (.inr ⟨i,j',S.cd,T.cd,S.dep,rfl,T.dep,rfl,FI,.inr (.inr (.inr ⟨rfl,h4,h0,λg F W H=>?_,rfl⟩))⟩));refine Ly h _ nm fr j' k y' x2 _ g F W H hl T.cd T.cel e4 e5 (λF W H=>?_) o2 rfl hnl mD eb (λu hu=>?_)
       ·have:=Q9 _ nm g F W H eb OK;rw[o1]at this;exact this
       ·have hul:=hlt u hu;have hy:=aw hul;refine⟨_,hy,?_⟩;rw[XX];exact(NJ o6 o2 hy o7 (hx0 _)).1
      ·refine mN h nm fr pt v _ _ _ _ _ _ rS [] hz hk hl dP rk hx lJ rfl rfl cs cx w a b (.inr (.inr ⟨p,q,i,j',xi,y',S.at_,T.at_,S.slot,T.slot,S.cel,T.cel,S.dep,rfl,T.dep,rfl,FS,.inr (.inr (.inr ⟨rfl,by rw[ei];exact h4,by rw[ej];exact h0,e4,e5,by omega,⟨(iz (eG h j' (gE y')) nm).1,k,x2,_,λg F W H=>?_,o2,rfl,hnl,mD,?_⟩,rfl⟩))⟩))
       ·have:=Ed _ nm g F W H eb OK;rw[o1]at this;exact this
       ·by_cases ha:0<=ix x2.value.names fr 0
        ·obtain⟨u,hu⟩:=bQ ha;have hul:=hlt u hu;have hy:=aw hul;obtain⟨r1,r2⟩:=NJ o6 o2 hy o7 (hx0 (x2.parts.set u (j':Int)));refine .inr ⟨u,_,_,hu,hy,r1,r2,?_⟩;rw[aN ha,hu,aU,XX,hy,bV,pn2 ha];refine(S6 r2).symm.trans ?_;congr 1;generalize x2.value=V;cases V;rfl
        ·refine .inl ⟨by omega,?_⟩;rw[aH ha,pn1 dP];unfold qb;rw[<-hxk]
      ·have g0:=UT T.cel;have g1:=UO (eG h j' (gE y')) nm;rw[X4,Bu,AA,hcp]at g1;have g2:=S.sz;have g3:xi.parts.length<=40:=by rw[<-o5];exact mD
       have F:=jf S.vec;refine⟨?_,λhc=>YD hk hn (La hx) T.cel (aA T.slot) (by rw[S.sd]) h4 Tw.1 o1 o2 o3 hmp (by rw[<-hrS];exact gF) hc⟩;split
       ·have g4:=PA 5 (eG (iz (eG h j' (gE y')) nm).1 k (tb x2 (ix x2.value.names fr 0).toNat (j':Int))) ((x2.parts[(ix x2.value.names fr 0).toNat]?).getD 0);have g5:=wT (iz (eG h j' (gE y')) nm).1 k (tb x2 (ix x2.value.names fr 0).toNat (j':Int));rw[Bu (tb _ _ _),XX]at g5;rw[XX]at g4 ⊢;have g6:szD x2.value.toD<=10000:=by rw[o4];exact g2
        simp only[da]at g5;omega
       ·next ha=>
        have g5:=wT (iz (eG h j' (gE y')) nm).1 k (qb x2 fr (j':Int));rw[Bu (qb _ _ _)]at g5;have hB:VB (qb x2 fr (j':Int)).value 0:=by
         have B:=F.vb (B:=740880000) (λx hx=>(L.p x hx).2);have e1:(qb x2 fr (j':Int)).value.names=rS.names:=(pn1 dP).symm;refine⟨?_,?_,?_,?_,?_⟩
         ·show x2.value.items.length<=41/\∀x∈x2.value.items,_;rw[o4,S.val];exact B.i
         ·show x2.value.parts.length<=41/\∀x∈x2.value.parts,_;rw[o4,S.val];exact⟨by simp,by simp⟩
         ·rw[e1];exact⟨by omega,(jf gF).names⟩
         ·show x2.value.cls.length<=40/\∀x∈x2.value.cls,_;rw[o4,S.val];exact B.c
         ·show x2.value.levels.length<=40/\∀x∈x2.value.levels,_;rw[o4,S.val];exact B.l
        have g6:=hB.sz;have g7:(qb x2 fr (j':Int)).parts.length=x2.parts.length+1:=by show (x2.parts++[_]).length=_;simp
        omega
    ·exact⟨h,_,λcs cx w a b=>mE h nm fr pt v _ _ _ _ _ _ rI [] hz hk hl hx lJ rfl rfl cs cx w a b (.inr (.inr ⟨i,j',S.cd,T.cd,S.dep,rfl,T.dep,rfl,FI,.inr (.inl ⟨rfl,h4,rfl,rfl⟩)⟩)),
      λcs cx w a b=>mN h nm fr pt v _ _ _ _ _ _ rS [] hz hk hl dP rk hx lJ rfl rfl cs cx w a b (.inr (.inr ⟨p,q,i,j',xi,y',S.at_,T.at_,S.slot,T.slot,S.cel,T.cel,S.dep,rfl,T.dep,rfl,FS,.inr (.inl ⟨rfl,by rw[ei];exact h4,rfl,rfl⟩)⟩)),Gr.same hk⟩
   ·have e':rs.isEmpty=false:=by cases rs;exact absurd rfl e;rfl
    exact⟨h,rs,λcs cx w a b=>mE h nm fr pt v _ _ _ _ _ _ rI rs hz hk hl hx lJ rfl rfl cs cx w a b (.inr (.inr ⟨i,j',S.cd,T.cd,S.dep,rfl,T.dep,rfl,FI,.inl ⟨e',rfl,rfl⟩⟩)),
     λcs cx w a b=>mN h nm fr pt v _ _ _ _ _ _ rS rs hz hk hl dP rk hx lJ rfl rfl cs cx w a b (.inr (.inr ⟨p,q,i,j',xi,y',S.at_,T.at_,S.slot,T.slot,S.cel,T.cel,S.dep,rfl,T.dep,rfl,FS,.inl ⟨e',rfl,rfl⟩⟩)),Gr.same hk⟩
  ·obtain⟨n1,n2⟩:=zS hf;exact⟨h,_,λcs cx w a b=>mE h nm fr pt v _ _ _ _ zeroV zeroV zeroV [] hz hk hl hx lJ rfl rfl cs cx w a b (.inr (.inl ⟨i,S.cd,by omega,rfl,rfl⟩)),
    λcs cx w a b=>mN h nm fr pt v _ _ _ _ zeroV zeroV zeroV [] hz hk hl dP rk hx lJ rfl rfl cs cx w a b (.inr (.inl ⟨p,S.at_,n2,rfl,rfl⟩)),Gr.same hk⟩
 ·obtain⟨n1,n2⟩:=zS hn;exact⟨h,_,λcs cx w a b=>mE h nm fr pt v _ _ _ _ zeroV zeroV zeroV [] hz hk hl hx lJ rfl rfl cs cx w a b (.inl ⟨by omega,rfl,rfl⟩),
   λcs cx w a b=>mN h nm fr pt v _ _ _ _ zeroV zeroV zeroV [] hz hk hl dP rk hx lJ rfl rfl cs cx w a b (.inl ⟨n2,rfl,rfl⟩),Gr.same hk⟩
end Go.Proofs.YtekcpadlmfaihaaGreat
