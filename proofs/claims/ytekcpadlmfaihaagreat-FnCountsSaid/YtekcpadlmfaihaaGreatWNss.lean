/- The counts of a right heap are small, plainly. -/
import Derived.Test.YtekcpadlmfaihaaGreatWNb
import Derived.Test.YtekcpadlmfaihaaGreatWMeg
import Derived.Test.YtekcpadlmfaihaaGreatWHe
import Derived.Test.YtekcpadlmfaihaaGreatWHh
import Derived.Test.YtekcpadlmfaihaaGreatWLm
import Derived.Test.YtekcpadlmfaihaaGreatWLh
import Derived.Test.YtekcpadlmfaihaaGreatWJd
import Derived.Test.YtekcpadlmfaihaaGreatWNa
import Derived.Test.YtekcpadlmfaihaaGreatWNsw
namespace Go.Proofs.YtekcpadlmfaihaaGreat
open Go.RowKit Proofs.Tryz
set_option maxHeartbeats 8000000
set_option maxRecDepth 100000
set_option linter.unusedSimpArgs false
set_option linter.unusedVariables false
variable {c:Cel} {g h:Hp} {k p pk:Int} {py x:Item} {E E':List Int} {its:List Item} {cls lv ns:List Str} {ps:List Vec} {B d i:Nat} {s:Str} {v:Vec}
theorem xP (hk:fG h=true) (hz:szD h.toD<=4194304) (k:Int):0<=(celD h k).count/\(celD h k).count<=4194304:=by
 by_cases hr:0<=k/\k<h.cells.length
 ·obtain⟨i,c,rfl,hil,hc,ld⟩:=kU (show inR h k=true by simpa [inR]using hr);rw[ld];obtain⟨h1,h2,h3⟩:=jc hk;have h4:=iC.1 h2 i _ hc;simp only[m9,ax,aL]at h4;have h5:=h4.1.1;rw[pM (refs h) hil]at h5;injection h5 with h5;have h6:=List.count_le_length (a:=(i:Int)) (l:=refs h);have h7:=Lz h;omega
 ·have:=zj (h:=h) (k:=k) dP;omega
theorem Bz (hk:fG h=true) (hz:szD h.toD<=4194304):sJ h 0:=λk=>by have:=xP hk hz k;omega
def fitP (h:Hp):Nat->Int->Prop
 |0,k=>inR h k=true/\0<(celD h k).count/\(celD h k).parts=[]
 |d+1,k=>inR h k=true/\0<(celD h k).count/\(celD h k).parts.length<=40/\∀p∈(celD h k).parts,fitP h d p
theorem sR (e:fitP h d k):0<(celD h k).count/\inR h k=true:=by cases d<;>(rw[fitP]at e;exact⟨e.2.1,e.1⟩)
theorem zw {h:Hp}:∀{d:Nat} {k:Int},fitP h d k->qU h d k
 |0,k,e=>by rw[fitP]at e;rw[qU];exact⟨e.1,e.2.2⟩
 |d+1,k,e=>by rw[fitP]at e;rw[qU];exact⟨e.1,e.2.2.1,λp hp=>zw (e.2.2.2 p hp)⟩
theorem Js {h:Hp}:∀{d:Nat} {k:Int},fitP h d k->fitP h (d+1) k
 |0,k,e=>by rw[fitP]at e;rw[fitP];exact⟨e.1,e.2.1,by rw[e.2.2];simp,λp hp=>by rw[e.2.2]at hp;simp at hp⟩
 |d+1,k,e=>by rw[fitP]at e;rw[fitP];exact⟨e.1,e.2.1,e.2.2.1,λp hp=>Js (e.2.2.2 p hp)⟩
theorem Uf {h:Hp}:∀{d:Nat} {k:Int},lD h d k=true->fitP h d k:=by
 intro d
 induction d with
 |zero=>
  intro k e;cases hf:nS 0 (celD h k) with
  |false=>rw[sS hf]at e;simp at e
  |true=>
   have h1:=hf;simp only[nS,ax,aL]at h1;rw[fitP];exact⟨j7 h1.1,h1.1,wO hf⟩
 |succ d ih=>
  intro k e;cases hf:nS (d+1) (celD h k) with
  |false=>rw[sS hf]at e;simp at e
  |true=>
   have h1:=hf;simp only[nS,ax,bX,aL]at h1;rw[u_ hf,aV]at e;rw[fitP];exact⟨j7 h1.1,h1.1,by omega,λp hp=>ih (e p hp)⟩
theorem tS (hk:fG h=true) (hn:hasN h s=true):fitP h 3 (slotD h s):=by obtain⟨i,hi,hil,hs,_,_,_,_⟩:=BA hk hn;obtain⟨h1,h2,h3⟩:=jc hk;have hx:h.names[i]?=some (h.names[i]' dP):=aw dP;have h4:=iC.1 h3 i _ hx;simp only[hs,bV,s7,ax]at h4;exact Uf h4.1.2
def KeepP (h g:Hp):Prop:=∀k,0<(celD h k).count->(celD g k).parts=(celD h k).parts/\0<(celD g k).count
theorem KeepP.refl:KeepP h h:=λ_ e=>⟨rfl,e⟩
theorem KeepP.trans {h g f:Hp} (a:KeepP h g) (b:KeepP g f):KeepP h f:=λk e=>by obtain⟨a1,a2⟩:=a k e;obtain⟨b1,b2⟩:=b k a2;exact⟨b1.trans a1,b2⟩
theorem qK {h g:Hp} (a:KeepP h g):∀{d:Nat} {k:Int},fitP h d k->fitP g d k
 |0,k,e=>by rw[fitP]at e ⊢;obtain⟨a1,a2⟩:=a k e.2.1;exact⟨j7 a2,a2,a1.trans e.2.2⟩
 |d+1,k,e=>by rw[fitP]at e ⊢;obtain⟨a1,a2⟩:=a k e.2.1;rw[a1];exact⟨j7 a2,a2,e.2.2.1,λp hp=>qK a (e.2.2.2 p hp)⟩
theorem JJ {x:Cel} (hi:i<h.cells.length) (hp:x.parts=(celD h (i:Int)).parts) (hc:0<x.count):KeepP h (eG h i x):=λk e=>by
 rw[fQ hi];split
 ·rename_i e1;subst e1;exact⟨hp,hc⟩
 ·exact⟨rfl,e⟩
theorem qV:∀{l:List Cel} {i k:Nat},gy l i=some k->∃(j:Nat) (c:Cel),k=i+j/\l[j]?=some c/\c.count=0
 |[],i,k,e=>by simp [gy]at e
 |c::t,i,k,e=>by
  rw[gy]at e;split at e
  ·rename_i h0
   injection e with e;exact⟨0,c,by omega,by simp,h0⟩
  ·obtain⟨j,c',e1,e2,e3⟩:=qV e;exact⟨j+1,c',by omega,by simpa using e2,e3⟩
theorem qG (h:Hp) (c:Cel):∃n:Nat,(gH h c).2=(n:Int)/\n<=h.cells.length/\(gH h c).1.cells[n]?=some c/\(∀j:Int,celD (gH h c).1 j=if j=(n:Int) then c else celD h j)/\(celD h (n:Int)).count=0:=by
 unfold gH;cases hf:gy h.cells 0 with
 |some k=>
  obtain⟨j,c',e1,e2,e3⟩:=qV hf;have e4:k=j:=dP;subst e4;have hk:=(ay.1 e2).1;refine⟨k,rfl,by omega,?_,λj=>fQ hk j,?_⟩
  ·show (h.cells.set k c)[k]?=_;rw[List.getElem?_set_self hk]
  ·rw[iI e2];exact e3
 |none=>
  refine⟨h.cells.length,rfl,af _,?_,λj=>?_,?_⟩
  ·show (h.cells++[c])[h.cells.length]?=_;simp
  ·unfold celD;by_cases hj:0<=j
   ·obtain⟨i,rfl⟩:=bQ hj;rw[aN hj,aN hj,aU];show ((h.cells++[c])[i]?).getD _=_;by_cases hi:i=h.cells.length
    ·subst hi;rw[aN rfl];simp
    ·rw[aH dP];by_cases hl:i<h.cells.length
     ·rw[cY hl]
     ·rw[b_ dS,b_ dP]
   ·rw[aH hj,aH hj,aH dP]
  ·unfold celD;rw[aN dP,aU,b_ (af _)];rfl
theorem Kg (h:Hp) (c:Cel):KeepP h (gH h c).1:=λk e=>by obtain⟨n,_,_,_,h4,h5⟩:=qG h c;rw[h4 k,aH (by rintro rfl;omega)];exact⟨rfl,e⟩
theorem Of (hb:sJ h B) (hc:c.count=1):sJ (gH h c).1 B:=λk=>by
 obtain⟨n,_,_,_,h4,h5⟩:=qG h c;rw[h4 k];split
 ·rw[hc];omega
 ·exact hb k
theorem ED (P:Hp->Prop) (hP:∀h c,c.count=1->P h->P (gH h c).1):∀(f:Nat) (h:Hp) (v:Vec),P h->P (fL f h v).1
 |0,h,v,e=>e
 |f+1,h,v,e=>by
  have iU:∀(l:List Vec) (s:Hp × List Int),P s.1->P (l.foldl (js (fL f)) s).1:=by
   intro l
   induction l with
   |nil=>intro s e;exact e
   |cons p t ih=>intro s e;rw[bC];exact ih _ (ED P hP f s.1 p e)
  rw[fL];exact hP _ _ rfl (iU v.parts (h,[]) e)
theorem EC (f:Nat) (h:Hp) (v:Vec) (hb:sJ h 0):KeepP h (fL f h v).1/\sJ (fL f h v).1 0/\(fL f h v).1.names=h.names/\(fL f h v).1.slots=h.slots/\(fL f h v).1.copies=h.copies:=
 ED (λg=>KeepP h g/\sJ g 0/\g.names=h.names/\g.slots=h.slots/\g.copies=h.copies) (λg c hc e=>by obtain⟨t1,t2,t3⟩:=qd g c;exact⟨e.1.trans (Kg g c),Of e.2.1 hc,t1.trans e.2.2.1,t2.trans e.2.2.2.1,t3.trans e.2.2.2.2⟩) f h v ⟨KeepP.refl,hb,rfl,rfl,rfl⟩
theorem EL (hk:fitP h 3 k) (a:KeepP h g) (hb:sJ g 0):relOK 5 g k/\LessP g (iD 5 g k):=
 let r:=PY 5 3 g k 0 (zw (qK a hk)) dP hb dP
 ⟨r.1,r.2.1⟩
theorem EW (h1:g.names=h.names) (h2:g.slots=h.slots) (s:Str):slotD g s=slotD h s/\hasN g s=hasN h s/\ix g.names s 0=ix h.names s 0:=by unfold slotD hasN;rw[h1,h2];exact⟨rfl,rfl,rfl⟩
theorem sV (hz:szD h.toD<=4194304):h.cells.length<=4194304/\h.names.length<=4194304:=by have:=nM h;simp only[szD,au]at this;omega
theorem Xc (hk:fG h=true) (hz:szD h.toD<=4194304) (nm:Str) (v:Vec) (hv:okD 3 v=true) (hzv:szD v.toD<=100000000000):
 ∃(h1:Hp) (k:Int),fL 4 h v=(h1,k)/\rX 4 h v/\(Lit.int .i64 k).wf=true/\h1.names.length=h1.slots.length/\(h1.names.length:Int)<=1073741824/\(hasN h1 nm=true->relOK 5 {h1 with slots:=h1.slots.set (ix h1.names nm 0).toNat k} (slotD h1 nm)):=by
 obtain⟨z1,z2⟩:=sV hz;obtain⟨p1,p2⟩:=VH 4 3 h v hv dP dP hzv;obtain⟨f1,f2,f3,f4,f5⟩:=EC 4 h v (Bz hk hz);refine⟨(fL 4 h v).1,(fL 4 h v).2,rfl,p1,?_,?_,?_,λhn=>?_⟩
 ·rw[fL];refine E6 ?_;rw[rX]at p1;exact p1.2.1
 ·rw[f3,f4];exact(jc hk).1
 ·rw[f3];omega
 ·obtain⟨s1,s2,s3⟩:=EW f3 f4 nm;rw[s2]at hn;rw[s1];exact(EL (g:={(fL 4 h v).1 with slots:=(fL 4 h v).1.slots.set (ix (fL 4 h v).1.names nm 0).toNat (fL 4 h v).2}) (tS hk hn) f1 f2).1
theorem NV (hk:fG h=true) (hz:szD h.toD<=4194304) (nm fr:Str) (hf:hasN h fr=true):
 ∃(j:Nat) (y:Cel),cellD h fr=(j:Int)/\slotD h fr=(j:Int)/\h.cells[j]?=some y/\(-1152921504606846976<=y.count/\y.count<=1152921504606846976)/\(j:Int)<=1073741824/\KeepP h (eG h j (gE y))/\(∀k,0<=(celD (eG h j (gE y)) k).count/\(celD (eG h j (gE y)) k).count<=4194305)/\
  (hasN h nm=true->relOK 5 {(eG h j (gE y)) with slots:=h.slots.set (ix h.names nm 0).toNat (j:Int)} (slotD h nm)):=by
 obtain⟨z1,z2⟩:=sV hz;have hF:=tS hk hf;obtain⟨c1,c2⟩:=sR hF;obtain⟨j,y,ej,hj,hy,ld⟩:=kU c2;have hb:=xP hk hz;have hbj:=hb (j:Int);rw[ej]at c1;have hcj:celD h (j:Int)=y:=iI hy;rw[hcj]at hbj c1;have K1:KeepP h (eG h j (gE y)):=JJ hj (by rw[hcj];rfl) (by show 0<y.count+1;omega);have B1:∀k,0<=(celD (eG h j (gE y)) k).count/\(celD (eG h j (gE y)) k).count<=4194305:=λk=>by
  rw[fQ hj];split
  ·show 0<=y.count+1/\y.count+1<=_;omega
  ·have:=hb k;omega
 refine⟨j,y,by unfold cellD;rw[aN hf,ej],ej,hy,by omega,by omega,K1,B1,λhn=>?_⟩;refine(EL (g:={(eG h j (gE y)) with slots:=h.slots.set (ix h.names nm 0).toNat (j:Int)}) (tS hk hn) K1 λk=>?_).1;have:=B1 k;show -((0:Nat):Int)<=(celD (eG h j (gE y)) k).count/\(celD (eG h j (gE y)) k).count<=_;omega
inductive Reach (h:Hp):Int->Int->Prop
 |refl (k:Int):Reach h k k
 |step {y p k:Int}:p∈(celD h y).parts->Reach h p k->Reach h y k
theorem EI {h g:Hp} (a:LessP h g) {y k:Int} (r:Reach g y k):Reach h y k:=by
 induction r with
 |refl k=>exact .refl k
 |step hp _ ih=>
  rename_i y p k _
  rcases a.2 y with e|e
  ·rw[e]at hp;exact .step hp ih
  ·rw[e]at hp;simp at hp
theorem SW {h:Hp} {y k:Int} (r:Reach h y k):∀{d:Nat},fitP h d y->fitP h d k:=by
 induction r with
 |refl k=>intro d e;exact e
 |step hp _ ih=>
  intro d e;cases d with
  |zero=>rw[fitP]at e;rw[e.2.2]at hp;simp at hp
  |succ d=>rw[fitP]at e;exact Js (ih (e.2.2.2 _ hp))
theorem Ka {h:Hp} {y k:Int} (hy:y∈(celD h k).parts) (r:Reach h y k):∀(d:Nat),¬fitP h d k
 |0,e=>by rw[fitP]at e;rw[e.2.2]at hy;simp at hy
 |d+1,e=>by have e':=e;rw[fitP]at e;exact Ka hy r d (SW r (e.2.2.2 y hy))
theorem PX {h:Hp} {n:Nat} {x:Cel} (hn:n<h.cells.length) {y k:Int} (r:Reach (eG h n x) y k) (hk:k=(n:Int)):Reach h y k:=by
 induction r with
 |refl k=>exact .refl k
 |step hp _ ih=>
  rename_i y p k _
  by_cases e:y=(n:Int)
  ·rw[e,hk];exact .refl _
  ·rw[fQ hn,aH e]at hp;exact .step hp (ih hk)
theorem MO {h:Hp} {n:Nat} {x:Cel} (hn:n<h.cells.length):∀{d:Nat} {y:Int},fitP h d y->¬Reach h y (n:Int)->fitP (eG h n x) d y
 |0,y,e,hr=>by have hy:¬y=(n:Int):=λe1=>hr (by rw[e1];exact .refl _);rw[fitP]at e ⊢;rw[fQ hn,aH hy];exact⟨j7 (by rw[fQ hn,aH hy];exact e.2.1),e.2.1,e.2.2⟩
 |d+1,y,e,hr=>by have hy:¬y=(n:Int):=λe1=>hr (by rw[e1];exact .refl _);rw[fitP]at e ⊢;rw[fQ hn,aH hy];exact⟨j7 (by rw[fQ hn,aH hy];exact e.2.1),e.2.1,e.2.2.1,λp hp=>MO hn (e.2.2.2 p hp) (λr=>hr (.step hp r))⟩
theorem EM:∀(f d:Nat) (h:Hp) (y:Int),qU h d y->d<f->LessP h (iD f h y)/\∀k,¬Reach h y k->celD (iD f h y) k=celD h k
 |0,d,h,y,_,hf=>by omega
 |f+1,d,h,y,hd,hf=>by
  have hin:inR h y=true:=wg;obtain⟨i,x,rfl,hil,hx,ld⟩:=kU hin;rw[iD,ld,aU];have jC:∀k,¬Reach h (i:Int) k->¬k=(i:Int):=λk hr e=>hr (by rw[e];exact .refl _);by_cases hp:0<x.count - 1
  ·rw[aN hp];exact⟨qN hil (.inl (by rw[ld];rfl)),λk hr=>by rw[fQ hil,aH (jC k hr)]⟩
  ·rw[aH hp];have l1:LessP h (eG h i lf):=qN hil (.inr rfl);have iU:∀(l:List Int) (g:Hp),(∀p∈l,∃d',d'<f/\qU g d' p)->LessP g (l.foldl (iD f) g)/\∀k,(∀p∈l,¬Reach g p k)->celD (l.foldl (iD f) g) k=celD g k:=by
    intro l
    induction l with
    |nil=>intro g _;exact⟨LessP.refl,λ_ _=>rfl⟩
    |cons p t ih=>
     intro g hl;obtain⟨d',hd',QO⟩:=hl p aT;obtain⟨r1,r2⟩:=EM f d' g p QO hd';obtain⟨s1,s2⟩:=ih (iD f g p) (λq hq=>by obtain⟨d2,h2,h3⟩:=hl q (aP _ hq);exact⟨d2,h2,qJ r1 h3⟩)
     refine⟨r1.trans s1,λk hr=>?_⟩;rw[bC,s2 k (λq hq r=>hr q (aP _ hq) (EI r1 r)),r2 k (hr p aT)]
   obtain⟨s1,s2⟩:=iU x.parts (eG h i lf) (λp Mb=>yA);refine⟨l1.trans s1,λk hr=>?_⟩;rw[s2 k (λp Mb r=>hr (.step (by rw[ld];exact Mb) (EI l1 r))),fQ hil,aH (jC k hr)]
theorem NJ {k:Nat} {x x':Cel} {m:Nat} {y:Int} (hk:fitP h 3 (k:Int)) (hx:h.cells[k]?=some x) (hy:x.parts[m]?=some y) (hb:sJ h 0) (qD:0<=x'.count/\x'.count<=1152921504606846976):
 relOK 5 (eG h k x') y/\(iD 5 (eG h k x') y).cells[k]?=some x':=by
 have Ch:=(ay.1 hx).1;have ld:=iI hx;have hym:y∈(celD h (k:Int)).parts:=by rw[ld];exact aA hy
 have hnr:¬Reach h y (k:Int):=λr=>Ka hym r 3 hk;have hfy:fitP h 2 y:=by rw[fitP]at hk;exact hk.2.2.2 y hym
 have hf2:fitP (eG h k x') 2 y:=MO Ch hfy hnr;have ahD:¬Reach (eG h k x') y (k:Int):=λr=>hnr (PX Ch r rfl);obtain⟨r1,r2⟩:=EM 5 2 (eG h k x') y (zw hf2) dP;have jS:sJ (eG h k x') 0:=AL Ch hb dP;refine⟨(PY 5 2 (eG h k x') y 0 (zw hf2) dP jS dP).1,?_⟩;have hl:k<(iD 5 (eG h k x') y).cells.length:=by rw[r1.1];simpa using Ch
 have h1:=r2 (k:Int) ahD;rw[fQ Ch,aN rfl,iI (aw hl)]at h1;rw[aw hl,h1]
theorem JD:∀(l:List Int) (h:Hp) (U:Nat),(∀p∈l,0<(celD h p).count)->(∀k,0<=(celD h k).count/\(celD h k).count<=(U:Int))->KeepP h (l.foldl incS h)/\(∀k,0<=(celD (l.foldl incS h) k).count/\(celD (l.foldl incS h) k).count<=(U:Int)+l.length)/\(l.foldl incS h).cells.length=h.cells.length/\∀k,(celD h k).count<=(celD (l.foldl incS h) k).count/\(celD (l.foldl incS h) k).value=(celD h k).value
 |[],h,U,_,hb=>⟨KeepP.refl,λk=>by have:=hb k;simpa using this,rfl,λk=>⟨Int.le_refl _,rfl⟩⟩
 |p::t,h,U,hr,hb=>by
  have hp:=hr p aT;obtain⟨i,x,rfl,hil,hx,ld⟩:=kU (j7 hp);have hc:∀k,celD (incS h (i:Int)) k=if k=(i:Int) then gE x else celD h k:=λk=>by unfold incS;rw[aU,fQ hil,ld]
  have hbi:=hb (i:Int);rw[ld]at hbi hp;have K1:KeepP h (incS h (i:Int)):=by unfold incS;rw[aU,ld];exact JJ hil (by rw[ld];rfl) (by show 0<x.count+1;omega)
  obtain⟨s1,s2,s3,s4⟩:=JD t (incS h (i:Int)) (U+1) (λq hq=>(K1 q (hr q (aP _ hq))).2) (λk=>by
   rw[hc k];split
   ·show 0<=x.count+1/\x.count+1<=_;omega
   ·have:=hb k;omega)
  rw[bC];refine⟨K1.trans s1,λk=>?_,by rw[s3];simp [incS],λk=>?_⟩
  ·have:=s2 k;rw[bU];omega
  ·have h4:=s4 k;rw[hc k]at h4;split at h4
   ·rename_i e
    subst e;rw[ld];exact⟨by have:(gE x).count=x.count+1:=rfl;omega,h4.2⟩
   ·exact h4
theorem VA (gK:h.names.length=h.slots.length) (hnm:(h.names.length:Int)<=1073741824) (hs:hasN h s=true) (hf:fitP h 3 (slotD h s)) (hc:∀k,0<=(celD h k).count/\(celD h k).count<=4194305)
 (hv:(celD h (slotD h s)).value.parts=[]) (hz:szD (celD h (slotD h s)).value.toD<=500000000000) (K9:h.cells.length<=4194304):
 OwnOK h s/\∃(k:Nat) (x:Cel),(iz h s).2=(k:Int)/\(iz h s).1.cells[k]?=some x/\x.count=1/\x.value=(celD h (slotD h s)).value/\x.parts=(celD h (slotD h s)).parts/\fitP (iz h s).1 3 (k:Int)/\sJ (iz h s).1 0:=by
 obtain⟨c1,c2⟩:=sR hf;obtain⟨i,x,ei,hil,hx,ld⟩:=kU c2;have Zy:=hf;rw[fitP]at Zy;obtain⟨-,-,f1,f2⟩:=Zy;have Pw:∀p∈(celD h (slotD h s)).parts,0<(celD h p).count:=λp hp=>(sR (f2 p hp)).1;obtain⟨k1,k2,k3,k4⟩:=JD (celD h (slotD h s)).parts h 4194305 Pw hc;have hio:=(US (celD h (slotD h s)).parts h 40 (λp hp=>(sR (f2 p hp)).2) (λk=>by have:=hc k;omega) f1).1;have adZ:=nX tX (celD h (slotD h s)).parts h;obtain⟨n,t1,t2,t3,t4,t5⟩:=qG ((celD h (slotD h s)).parts.foldl incS h) ⟨1,(celD h (slotD h s)).value,(celD h (slotD h s)).parts⟩;have tn:=qd ((celD h (slotD h s)).parts.foldl incS h) ⟨1,(celD h (slotD h s)).value,(celD h (slotD h s)).parts⟩;have KO:KeepP h (ownH h s).1:=k1.trans (Kg _ _);have BO:sJ (ownH h s).1 0:=Of (λk=>by have:=k2 k;omega) rfl;obtain⟨s1,s2,s3⟩:=EW (h:=h) (g:=(ownH h s).1) (tn.1.trans adZ.1) (tn.2.1.trans adZ.2.1) s;have RO:=EL (g:={(ownH h s).1 with slots:=(ownH h s).1.slots.set (ix (ownH h s).1.names s 0).toNat (ownH h s).2}) hf KO BO;refine⟨⟨gK,hnm,hs,c2,.inr ⟨hv,hz,by omega,hio,by rw[k3];omega,by rw[s1];exact RO.1⟩⟩,?_⟩;by_cases h1:(celD h (slotD h s)).count=1
 ·have e:iz h s=(h,slotD h s):=by unfold iz;rw[aN h1]
  rw[e];refine⟨i,x,ei,hx,by rw[ld]at h1;exact h1,by rw[ld],by rw[ld],by rw[<-ei];exact hf,show sJ h 0 from λk=>by have:=hc k;omega⟩
 ·have e:iz h s=({fd (ownH h s).1 s (ownH h s).2 with copies:=wrap64 (h.copies+1)},(ownH h s).2):=by unfold iz;rw[aH h1]
  have h2:2<=(celD h (slotD h s)).count:=dP;have jC:¬slotD h s=(n:Int):=by intro e1;rw[<-e1]at t5;have:=(k4 (slotD h s)).1;omega
  have hcO:celD (ownH h s).1 (slotD h s)=celD ((celD h (slotD h s)).parts.foldl incS h) (slotD h s):=by have:=t4 (slotD h s);rw[aH jC]at this;exact this
  have aa_:2<=(celD (ownH h s).1 (slotD h s)).count:=by rw[hcO];have:=(k4 (slotD h s)).1;omega
  have hlO:i<(ownH h s).1.cells.length:=by obtain⟨-,q2⟩:=sR (qK KO hf);rw[ei]at q2;simp [inR]at q2;exact q2
  have hb:fd (ownH h s).1 s (ownH h s).2=eG {(ownH h s).1 with slots:=(ownH h s).1.slots.set (ix (ownH h s).1.names s 0).toNat (ownH h s).2} i (KP (celD (ownH h s).1 (slotD h s))):=by
   have JC:0<=ix (ownH h s).1.names s 0:=by rw[s3];simpa [hasN]using hs
   unfold fd;rw[aN JC,s1,iD];have:celD {(ownH h s).1 with slots:=(ownH h s).1.slots.set (ix (ownH h s).1.names s 0).toNat (ownH h s).2} (slotD h s)=celD (ownH h s).1 (slotD h s):=rfl;rw[this,aN dP];rw[show (slotD h s).toNat=i from by rw[ei];rfl]
  rw[e];have hni:¬n=i:=by intro e1;rw[e1]at jC;exact jC ei
  have Up:∀k,celD (fd (ownH h s).1 s (ownH h s).2) k=if k=(i:Int) then KP (celD (ownH h s).1 (slotD h s)) else celD (ownH h s).1 k:=λk=>by rw[hb];exact fQ (h:={(ownH h s).1 with slots:=_}) hlO k
  have ZL:(fd (ownH h s).1 s (ownH h s).2).cells[n]?=some ⟨1,(celD h (slotD h s)).value,(celD h (slotD h s)).parts⟩:=by rw[hb];show ((ownH h s).1.cells.set i _)[n]?=_;rw[List.getElem?_set_ne dP];exact t3
  have KB:KeepP (ownH h s).1 (fd (ownH h s).1 s (ownH h s).2):=λk hk=>by
   rw[Up k];split
   ·rename_i e1
    subst e1;rw[ei];refine⟨rfl,?_⟩;rw[ei]at aa_;show 0<(celD (ownH h s).1 (i:Int)).count - 1;omega
   ·exact⟨rfl,hk⟩
  refine⟨n,_,t1,ZL,rfl,rfl,rfl,?_,λk=>?_⟩
  ·show fitP {fd (ownH h s).1 s (ownH h s).2 with copies:=_} 3 (n:Int);have q:KeepP (fd (ownH h s).1 s (ownH h s).2) {fd (ownH h s).1 s (ownH h s).2 with copies:=wrap64 (h.copies+1)}:=λk e=>⟨rfl,e⟩;refine qK q ?_;have hcn:=iI ZL;rw[fitP];refine⟨j7 (by rw[hcn];show (0:Int)<1;omega),by rw[hcn];show (0:Int)<1;omega,by rw[hcn];exact f1,λp hp=>?_⟩;rw[hcn]at hp;exact qK (KO.trans KB) (f2 p hp)
  ·show -((0:Nat):Int)<=(celD (fd (ownH h s).1 s (ownH h s).2) k).count/\_<=_;show _/\(celD (fd (ownH h s).1 s (ownH h s).2) k).count<=_;rw[Up k];have:=BO k;have:=BO (slotD h s);split
   ·show -((0:Nat):Int)<=(celD (ownH h s).1 (slotD h s)).count - 1/\(celD (ownH h s).1 (slotD h s)).count - 1<=_;omega
   ·assumption
theorem AM:∀(m f k:Nat) (s:Str),k<10 ^ m->(xM f k s).length<=m+s.length
 |0,f,k,s,h=>by
  have hk:k=0:=by simpa using h
  subst hk;cases f with
  |zero=>simp [xM]
  |succ f=>rw[xM,aN rfl];omega
 |m+1,f,k,s,h=>by
  cases f with
  |zero=>simp [xM]
  |succ f=>
   rw[xM];split
   ·simp
   ·have:=AM m f (k/10) (((48:UInt8)+UInt8.ofNat (k % 10))::s) (by rw[Nat.pow_succ]at h;omega);simp only[bU]at this;omega
theorem Dw {n:Int} (h: -999999999<=n/\n<=999999999):(ja n).length<=10:=by
 have hk:n.natAbs<10 ^ 9:=dP;unfold ja;split
 ·simp
 ·split
  ·have:=AM 9 n.natAbs n.natAbs [] hk;simp at this ⊢;omega
  ·have:=AM 9 n.natAbs n.natAbs [] hk;simp at this;omega
theorem Pj (x:Item):(qq x).length<=60:=by
 unfold qq;split
 ·simp
 ·split
  ·next h=>
   have hb:=vw h;have h1:=Dw hb.2;have h2:=Dw (n:=x.den) dP;split
   ·omega
   ·simp only[aY,bt];omega
  ·simp
theorem DZ {t:Str} (h:t.length<=60):itemOK 3 (sN t)=true:=by simp [itemOK,sN,h]
theorem JG {frm:Int} (h:itemOK frm x=true) (h1:1<=frm) (hk:frm<=k) (h3:k<=3):itemOK k (gI frm k x)=true:=by
 unfold gI;split
 ·next hc=>
  rcases hc with hc|rfl|rfl
  ·simp [itemOK,hc]
  ·exact h
  ·rcases(by omega:frm=1\/frm=2) with rfl|rfl
   ·unfold itemOK at h ⊢;rw[bX]at h ⊢;rcases h with h|h
    ·exact .inl h
    ·right;simp only[if_true,ax,beq_iff_eq,bX,dh]at h;rw[aH dQ,aN rfl];unfold nZ;obtain⟨⟨h1,h2⟩,h3⟩:=h;rw[h1,h2];rcases h3 with h3|h3<;>rw[h3]<;>decide
   ·exact h
 ·split
  ·next hc h2=>
   have h3:k=3:=dP;subst h3;exact DZ (Pj x)
  ·next hc h2=>
   have h3:k=3:=dP;subst h3;split<;>exact DZ dQ
theorem rU (h:itemOK k x=true):itOK x:=by
 unfold itemOK at h;rw[bX]at h;rcases h with h|h
 ·obtain rfl:x=⟨0,0,[]⟩:=by simpa [eI]using h
  exact⟨by decide,by decide,by decide⟩
 ·split at h
  ·simp only[ax,beq_iff_eq,bX,dh]at h;obtain⟨⟨h1,h2⟩,h3⟩:=h;refine⟨kP.2 dP,kP.2 dP,by rw[h1];decide⟩
  ·split at h
   ·have hb:=vw h;simp only[nZ,ax,dh]at h;refine⟨kP.2 dP,kP.2 dP,by rw[h.1.1.1];decide⟩
   ·split at h
    ·simp only[ax,beq_iff_eq,aL]at h;refine⟨kP.2 dP,kP.2 dP,by unfold maxLen;omega⟩
    ·cases h
theorem QX (h:itemOK 1 x=true):0<=x.num/\x.num<2:=by
 unfold itemOK at h;rw[bX]at h;rcases h with h|h
 ·obtain rfl:x=⟨0,0,[]⟩:=by simpa [eI]using h
  decide
 ·simp only[if_true,ax,beq_iff_eq,bX]at h;omega
theorem NU (hk:0<=k/\k<=4) (hl:its.length+ps.length<=40) (hc:mF cls 3=true) (hv:mF lv 20=true) (hn:(ns.length=0\/(ns.length=its.length+ps.length/\lR ns=false))/\∀s∈ns,s.length<=60)
 (h1:0<lv.length->k=2) (h2:0<ps.length->k=4) (h3:k=0->its.length=0/\cls.length=0) (hi:∀x∈its,atomK k=true/\itemOK k x=true/\(lv.length=0\/eI x=true\/(x.den=1/\1<=x.num/\x.num<=lv.length))):
 h_ ⟨k,its,ps,ns,cls,lv,0,0⟩=true:=by
 have ZB:lenV ⟨k,its,ps,ns,cls,lv,0,0⟩=its.length+ps.length:=by unfold lenV;rw[aH (show ¬k=5 by omega)]
 simp only[h_,ax];refine⟨⟨⟨?_,?_⟩,?_⟩,?_⟩
 ·simp only[CO,ax,aL,ZB];exact⟨⟨⟨hk.1,by omega,hl⟩,hc⟩,hv⟩
 ·simp only[IY,ax,bX,aL,aV,ZB];refine⟨?_,λs hs=>hn.2 s hs⟩;rcases hn.1 with h|⟨h,h'⟩
  ·exact .inl h
  ·exact .inr ⟨h,by rw[h'];rfl⟩
 ·unfold P6 IZ;exact aM ⟨λh=>h1 dP,λh=>h2 dP,λ_=>⟨rfl,rfl⟩,λh=>absurd h (show ¬k=5 by omega),λh=>by have:=h3 h;omega⟩
 ·rw[aV];intro x hx;obtain⟨a,b,c⟩:=hi x hx;simp only[wZ,SB,ax,bX,aL];refine⟨a,b,?_⟩;rcases c with c|c|c
  ·exact .inl (.inl c)
  ·exact .inl (.inr c)
  ·exact .inr c
theorem FV.more (h:h_ v=true):(mF v.cls 3=true/\mF v.levels 20=true)/\(v.names.length=0\/(v.names.length=lenV v/\lR v.names=false))/\(0<v.levels.length->v.kind=2)/\(v.kind≠5->v.code=0/\v.env=0)/\(v.kind=0->v.items.length=0/\v.cls.length=0)/\∀x∈v.items,v.levels.length=0\/eI x=true\/(x.den=1/\1<=x.num/\x.num<=v.levels.length):=by
 simp only[h_,ax]at h;obtain⟨⟨⟨hA,hN⟩,hC⟩,hI⟩:=h;simp only[CO,ax,aL]at hA;have hC2:IZ v.kind v.code v.env v.items.length v.parts.length v.names.length v.cls.length v.levels.length:=cD hC;obtain⟨c1,c2,c3,c4,c5⟩:=hC2;simp only[IY,ax,bX,aL]at hN;rw[aV]at hI;refine⟨⟨hA.1.2,hA.2⟩,?_,λh=>c1 dP,c3,λh=>by have:=c5 h;omega,λx hx=>?_⟩
 ·rcases hN.1 with h|⟨h,h'⟩
  ·exact .inl h
  ·exact .inr ⟨h,by simpa using h'⟩
 ·have:=hI x hx;simp only[wZ,SB,ax,bX,aL]at this;rcases this.2.2 with (h|h)|h
  ·exact .inl h
  ·exact .inr (.inl h)
  ·exact .inr (.inr h)
theorem tm {α:Type} (f:α->D) (B:Nat):∀(l:List α),(∀x∈l,szD (f x)<=B)->gv (l.map f)<=l.length*B
 |[],_=>by simp [gv]
 |a::t,h=>by rw[br,gv,bU,Nat.succ_mul];have h1:=h a aT;have h2:=tm f B t λx hx=>h x (aP _ hx);omega
theorem D5 (h:itemOK k x=true):x.text.length<=60:=by
 unfold itemOK at h;rw[bX]at h;rcases h with h|h
 ·obtain rfl:x=⟨0,0,[]⟩:=by simpa [eI]using h
  decide
 ·split at h
  ·simp only[ax,dh]at h;rw[h.1.1];decide
  ·split at h
   ·simp only[nZ,ax,dh]at h;rw[h.1.1.1];decide
   ·split at h
    ·simp only[ax,aL]at h;exact h.2
    ·cases h
structure VB (v:Vec) (B:Nat):Prop where
 i:v.items.length<=41/\∀x∈v.items,x.text.length<=60
 p:v.parts.length<=41/\∀x∈v.parts,szD x.toD<=B
 n:v.names.length<=41/\∀x∈v.names,x.length<=60
 c:v.cls.length<=40/\∀x∈v.cls,x.length<=60
 l:v.levels.length<=40/\∀x∈v.levels,x.length<=60
theorem VB.sz (h:VB v B):szD v.toD<=10000+41*B:=by obtain⟨h1,h2,h3,h4,h5⟩:=h;have e:=go v;simp only[szD,au]at e;have i:=tm Item.toD 60 v.items (λx hx=>by have:=h1.2 x hx;simp only[Item.toD,szD,gv];omega);have p:=tm Vec.toD B v.parts h2.2;have n:=tm D.s 60 v.names (λx hx=>by simpa [szD]using h3.2 x hx);have c:=tm D.s 60 v.cls (λx hx=>by simpa [szD]using h4.2 x hx);have l:=tm D.s 60 v.levels (λx hx=>by simpa [szD]using h5.2 x hx);have q:=dd B h2.1;omega
theorem pB (F:FV v):v.names.length<=40:=by
 rcases F.nn with h|h
 ·omega
 ·have h1:=F.len;unfold lenV at h;split at h
  ·omega
  ·omega
theorem FV.vb (F:FV v) (h:∀x∈v.parts,szD x.toD<=B):VB v B:=by have h1:=F.len;exact⟨⟨by omega,λx hx=>D5 (F.it x hx)⟩,⟨by omega,h⟩,⟨by have:=pB F;omega,F.names⟩,⟨by have:=F.cls.1;omega,F.cls.2⟩,⟨by have:=F.lev.1;omega,F.lev.2⟩⟩
theorem AZ:∀{d:Nat} {v:Vec},okD d v=true->szD v.toD<=10000*42 ^ d
 |0,v,h=>by have F:=FV.of (jB h);rw[okD]at h;simp only[ax,dh]at h;have:=(F.vb (B:=0) (λx hx=>by rw[h.2]at hx;simp at hx)).sz;omega
 |d+1,v,h=>by have F:=FV.of (jB h);rw[okD]at h;simp only[ax,aV]at h;have h1:=(F.vb (B:=10000*42 ^ d) (λx hx=>AZ (h.2 x hx))).sz;have h2:0<42 ^ d:=Nat.pow_pos dP;rw[Nat.pow_succ];omega
theorem i6 (h:isVec v=true):okD 3 v=true/\jF v<=200:=by unfold isVec at h;simpa using h
theorem vz (h:isVec v=true):szD v.toD<=740880000:=AZ (i6 h).1
theorem eC (h:isVec v=true):bigV v:=by have:=vz h;unfold bigV;omega
theorem jf (h:isVec v=true):FV v:=FV.of (jB (i6 h).1)
theorem vy (h1:okD 3 v=true) (h2:jF v<=200):isVec v=true:=by unfold isVec;rw[h1,aM h2];rfl
theorem rr (n:Nat):mF [] n=true:=by simp [mF,vE]
theorem Ev (hk:0<=k/\k<=3) (h0:0<its.length->1<=k) (hl:its.length<=40) (hn:(ns.length=0\/(ns.length=its.length/\lR ns=false))/\∀s∈ns,s.length<=60) (hi:∀x∈its,itemOK k x=true):okD d ⟨k,its,[],ns,[],[],0,0⟩=true:=by
 have hs:h_ ⟨k,its,[],ns,[],[],0,0⟩=true:=NU dP (by simpa using hl) (rr 3) (rr 20) (by simpa using hn) dR dR (λh=>⟨by
  rcases bz its.length with h2|h2
  ·exact h2
  ·have:=h0 h2;omega,rfl⟩) (λx hx=>⟨by have:=h0 (List.length_pos_of_mem hx);unfold atomK;exact aM dP,hi x hx,.inl rfl⟩)
 cases d<;>(rw[okD,hs];rfl)
theorem DW (hk:0<=k/\k<=3) (h0:0<its.length->1<=k) (hl:its.length<=40) (hn:(ns.length=0\/(ns.length=its.length/\lR ns=false))/\∀s∈ns,s.length<=60) (hi:∀x∈its,itemOK k x=true):isVec ⟨k,its,[],ns,[],[],0,0⟩=true:=by refine vy (Ev hk h0 hl hn hi) ?_;have h1:=wV ⟨k,its,[],ns,[],[],0,0⟩;rw[jU];simp only[ik,bf]at h1 ⊢;omega
theorem JF (h1:1<=k) (h3:k<=3) (hx:itemOK k x=true):isVec ⟨k,[x],[],[],[],[],0,0⟩=true:=
 DW dP (λ_=>h1) dR dR oh
theorem tY (hl:ps.length<=40) (hc:mF cls 3=true) (hn:(ns.length=0\/(ns.length=ps.length/\lR ns=false))/\∀s∈ns,s.length<=60) (hp:∀x∈ps,okD d x=true):okD (d+1) ⟨4,[],ps,ns,cls,[],0,0⟩=true:=by have hs:h_ ⟨4,[],ps,ns,cls,[],0,0⟩=true:=NU dP (by simpa using hl) hc (rr 20) (by simpa using hn) dR dR (λh=>by omega) dR;rw[okD,hs];simpa [aV]using hp
theorem PF (h1:1<=k) (h3:k<=3) (hx:itemOK k x=true):isVec ⟨4,[],[qw k x],[],[],[],0,0⟩=true:=by
 refine vy (tY dR (rr 3) dR (λz hz=>?_)) ?_
 ·obtain rfl:z=qw k x:=ms;exact Ev dP (λ_=>h1) dR dR oh
 ·have h1:=wV (qw k x);have h2:=wV ⟨4,[],[qw k x],[],[],[],0,0⟩;rw[jU,ik,jU];simp only[ik,qw,bf,bt]at h1 h2 ⊢;omega
theorem rm (h:isVec v=true) (h4:v.kind=4):v=⟨4,[],v.parts,v.names,v.cls,[],0,0⟩/\isVec ⟨4,[],v.parts,v.names,[],[],0,0⟩=true:=by
 obtain⟨h1,h2⟩:=i6 h;have F:=jf h;obtain⟨m1,m2,m3,m4,m5,m6⟩:=FV.more (jB h1);have Uu:v.items=[]:=by
  rcases bz v.items.length with e|e
  ·exact aR.1 e
  ·have:=F.ni e;rw[h4]at this;simp [atomK]at this
 have kQ:v.levels=[]:=by
  rcases bz v.levels.length with e|e
  ·exact aR.1 e
  ·have:=m3 e;omega
 obtain⟨c1,c2⟩:=m4 dP;have hv:v=⟨4,[],v.parts,v.names,v.cls,[],0,0⟩:=by obtain⟨a,b,c,d,e,f,g,i⟩:=v;simp only at h4 Uu kQ c1 c2;rw[h4,Uu,kQ,c1,c2]
 refine⟨hv,vy (tY (by have:=F.len;omega) (rr 3) ⟨?_,F.names⟩ ?_) ?_⟩
 ·rcases m2 with e|⟨e,e'⟩
  ·exact .inl e
  ·refine .inr ⟨?_,e'⟩;rw[e];unfold lenV;rw[aH dP,Uu];simp
 ·rw[okD]at h1;simp only[ax,aV]at h1;exact h1.2
 ·rw[jU]at h2 ⊢;have:lenV v=lenV ⟨4,[],v.parts,v.names,[],[],0,0⟩:=by unfold lenV;rw[h4,Uu]
  rw[<-this];exact h2
theorem Y3 {x:Vec} (hx:isVec x=true) (hk:1<=x.kind/\x.kind<=3) (h1:x.items.length=1):∃(xk:Int) (y:Item) (xn xc xl:List Str),x=⟨xk,[y],[],xn,xc,xl,0,0⟩:=by
 have F:=jf hx;obtain⟨m1,m2,m3,m4,m5,m6⟩:=FV.more (jB (i6 hx).1);have hp:x.parts=[]:=by
  rcases bz x.parts.length with e|e
  ·exact aR.1 e
  ·have:=F.np e;omega
 obtain⟨c1,c2⟩:=m4 dP;obtain⟨a,b,c,d,e,f,g,i⟩:=x;simp only at hp c1 c2 h1;obtain⟨y,hy⟩:=List.length_eq_one_iff.1 h1;exact⟨a,y,d,e,f,by rw[hp,c1,c2,hy]⟩
theorem kD (h:Hp):szD h.toD=h.cells.length+gv (h.cells.map Cel.toD)+(h.names.length+gv (h.names.map .s))+h.slots.length:=by have:=nM h;have e:gv (h.slots.map (.i .i64))=0:=Bd (λ_=>rfl) _;simp only[szD,au]at this;omega
theorem Bu (c:Cel):szD c.toD=szD c.value.toD+c.parts.length:=by have:=wF c;have e:gv (c.parts.map (.i .i64))=0:=Bd (λ_=>rfl) _;simp only[szD,au]at this;omega
theorem FR:szD (Cel.toD ⟨0,zeroV,[]⟩)=0:=by rw[Bu];simp [zeroV,go,szD,gv]
theorem Rr:∀(l:List Cel) (i:Nat) (x:Cel),gv ((l.set i x).map Cel.toD)+szD ((l[i]?).getD ⟨0,zeroV,[]⟩).toD<=gv (l.map Cel.toD)+szD x.toD
 |[],i,x=>by simp [gv,FR]
 |c::t,0,x=>by simp only[a_,br,gv,ah,bV];omega
 |c::t,i+1,x=>by have:=Rr t i x;simp only[be,br,gv,ag];omega
theorem wT (h:Hp) (i:Nat) (x:Cel):szD (eG h i x).toD+szD (celD h (i:Int)).toD<=szD h.toD+szD x.toD:=by
 have:=Rr h.cells i x;have e:celD h (i:Int)=(h.cells[i]?).getD ⟨0,zeroV,[]⟩:=by unfold celD;rw[aN dP];rfl
 rw[kD,kD h,e];have e1:(eG h i x).cells=h.cells.set i x:=rfl;have e2:(eG h i x).names=h.names:=rfl;have e3:(eG h i x).slots=h.slots:=rfl;rw[e1,e2,e3,da];omega
theorem UR (h:Hp) (k:Int) (x:Cel) (hx:szD x.toD<=szD (celD h k).toD):szD (eG h k.toNat x).toD<=szD h.toD:=by
 have h1:=wT h k.toNat x;by_cases hk:0<=k
 ·rw[Int.toNat_of_nonneg hk]at h1;omega
 ·have:szD (celD h k).toD=0:=by unfold celD;rw[aH hk];exact FR
  omega
theorem PA:∀(f:Nat) (h:Hp) (k:Int),szD (iD f h k).toD<=szD h.toD
 |0,h,k=>af _
 |f+1,h,k=>by
  have iU:∀(l:List Int) (g:Hp),szD (l.foldl (iD f) g).toD<=szD g.toD:=by
   intro l
   induction l with
   |nil=>intro g;exact af _
   |cons p t ih=>intro g;rw[bC];exact du (ih _) (PA f g p)
  rw[iD];split
  ·exact UR h k _ (by rw[Bu,Bu];exact af _)
  ·exact du (iU _ _) (UR h k _ (by rw[show szD lf.toD=0 from FR];exact dj _))
theorem QT:∀(l:List Int) (h:Hp),szD (l.foldl incS h).toD<=szD h.toD
 |[],h=>af _
 |p::t,h=>by rw[bC];exact du (QT t _) (UR h p _ (by rw[Bu,Bu];exact af _))
theorem QU (h:Hp) (c:Cel):szD (gH h c).1.toD<=szD h.toD+1+szD c.toD:=by
 unfold gH;cases gy h.cells 0 with
 |some k=>
  have:=wT h k c;show szD (eG h k c).toD<=_;omega
 |none=>
  show szD (Hp.toD {h with cells:=h.cells++[c]})<=_;rw[kD,kD h];simp only[aY,aI,Aj,br,bL,gv,bt];omega
theorem UQ (h:Hp) (l:List Int) (hl:l.length=h.slots.length):szD (Hp.toD {h with slots:=l})=szD h.toD:=by rw[kD,kD h];show _+l.length=_;rw[hl]
theorem Su (h:Hp) (n:Int):szD (Hp.toD {h with copies:=n})=szD h.toD:=by rw[kD,kD h]
theorem Ld (h:Hp) (s:Str) (k:Int):szD (fd h s k).toD<=szD h.toD+2+s.length:=by
 unfold fd;split
 ·have:=PA 5 {h with slots:=h.slots.set (ix h.names s 0).toNat k} (slotD h s);rw[UQ h _ (da ..)]at this;omega
 ·rw[kD,kD h];simp only[aY,aI,Aj,br,bL,gv,szD,bt];omega
theorem UP:∀(f:Nat) (h:Hp) (v:Vec),szD (fL f h v).1.toD<=szD h.toD+2*szD v.toD+1
 |0,h,v=>by show szD h.toD<=_;omega
 |f+1,h,v=>by
  have iU:∀(l:List Vec) (s:Hp × List Int),szD (l.foldl (js (fL f)) s).1.toD<=szD s.1.toD+2*gv (l.map Vec.toD)+l.length/\(l.foldl (js (fL f)) s).2.length=s.2.length+l.length:=by
   intro l
   induction l with
   |nil=>intro s;simp [gv]
   |cons p t ih=>
    intro s;rw[bC];obtain⟨i1,i2⟩:=ih (js (fL f) s p);have h1:=UP f s.1 p;have e1:(js (fL f) s p).1=(fL f s.1 p).1:=rfl;have e2:(js (fL f) s p).2.length=s.2.length+1:=by show (s.2++[_]).length=_;simp
    rw[e1]at i1;rw[e2]at i2;simp only[br,gv,bU];omega
  obtain⟨k1,k2⟩:=iU v.parts (h,[]);have t1:=QU (v.parts.foldl (js (fL f)) (h,[])).1 ⟨1,noParts v,(v.parts.foldl (js (fL f)) (h,[])).2⟩;rw[Bu]at t1;have e:=go v;have e':=go (noParts v);simp only[szD,au,bL,bf,gv]at e e';rw[fL];simp only[bf]at k1 k2 t1;omega
theorem UO (h:Hp) (s:Str):szD (iz h s).1.toD<=szD h.toD+3+s.length+szD (celD h (slotD h s)).toD:=by
 unfold iz;split
 ·show szD h.toD<=_;omega
 ·have h1:=QT (celD h (slotD h s)).parts h;have h2:=QU ((celD h (slotD h s)).parts.foldl incS h) ⟨1,(celD h (slotD h s)).value,(celD h (slotD h s)).parts⟩;have h3:=Ld (ownH h s).1 s (ownH h s).2;have e:(gH ((celD h (slotD h s)).parts.foldl incS h) ⟨1,(celD h (slotD h s)).value,(celD h (slotD h s)).parts⟩).1=(ownH h s).1:=rfl;rw[e,Bu]at h2;rw[Bu (celD h (slotD h s))];show szD (Hp.toD {fd (ownH h s).1 s (ownH h s).2 with copies:=_})<=_;rw[Su];simp only at h2;omega
theorem BD (h:isVec v=true):szD (noParts v).toD<=10000:=by have F:=jf h;have h1:=(i6 h).1;rw[okD]at h1;simp only[ax,aV]at h1;have B:=F.vb (B:=1000000000) (λx hx=>by have h2:=AZ (h1.2 x hx);omega);have:VB (noParts v) 0:=⟨B.i,by simp,B.n,B.c,B.l⟩;have:=this.sz;omega
def FP (h:Hp):Nat->Int->Prop
 |0,k=>0<(celD h k).count/\(celD h k).parts=[]
 |d+1,k=>0<(celD h k).count/\((celD h k).parts=[]\/((celD h k).value.kind=4/\(celD h k).parts.length<=40))/\∀p∈(celD h k).parts,FP h d p
theorem aao (e:FP h d k):0<(celD h k).count:=by cases d<;>(rw[FP]at e;exact e.1)
theorem Kv {h:Hp}:∀{d:Nat} {k:Int},FP h d k↔lD h d k=true
 |0,k=>by rw[FP,lD];simp [nS]
 |d+1,k=>by
  rw[FP,lD];simp only[nS,ax,bX,aL,aV];constructor
  ·rintro⟨a,b,c⟩;refine⟨⟨a,?_⟩,λp hp=>Kv.1 (c p hp)⟩;rcases b with b|b
   ·left;rw[b];rfl
   ·right;exact⟨b,by omega⟩
  ·rintro⟨⟨a,b⟩,c⟩;refine⟨a,?_,λp hp=>Kv.2 (c p hp)⟩;rcases b with b|b
   ·left;exact aR.1 b
   ·right;exact b.1
theorem Y7 {h:Hp}:∀{d:Nat} {k:Int},FP h d k->FP h (d+1) k
 |0,k,e=>by rw[FP]at e;rw[FP];exact⟨e.1,.inl e.2,λp hp=>by rw[e.2]at hp;simp at hp⟩
 |d+1,k,e=>by rw[FP]at e;rw[FP];exact⟨e.1,e.2.1,λp hp=>Y7 (e.2.2 p hp)⟩
theorem OP {h:Hp}:∀{d:Nat} {k:Int},FP h d k->qU h d k
 |0,k,e=>by rw[FP]at e;rw[qU];exact⟨j7 e.1,e.2⟩
 |d+1,k,e=>by
  rw[FP]at e;rw[qU];refine⟨j7 e.1,?_,λp hp=>OP (e.2.2 p hp)⟩;rcases e.2.1 with b|b
  ·rw[b];simp
  ·exact b.2
structure EX (h:Hp) (E:List Int):Prop where
 c:∀k:Int,(celD h k).count=(((refs h).count k+E.count k:Nat):Int)
 v:∀k:Int,(celD h k).value.parts=[]
 z:∀k:Int,(celD h k).count=0->(celD h k).parts=[]/\(celD h k).value=zeroV
theorem EX.nn (X:EX h E) (k:Int):0<=(celD h k).count:=by rw[X.c k];omega
theorem EX.perm (X:EX h E) (hp:∀k,E.count k=E'.count k):EX h E':=⟨λk=>by rw[X.c k,hp k],X.v,X.z⟩
theorem VM (hp:p∈(celD h k).parts):p∈refs h:=by
 unfold celD at hp;split at hp
 ·cases hc:h.cells[k.toNat]? with
  |none=>rw[hc]at hp;simp at hp
  |some c=>
   rw[hc]at hp;exact bD _ (dM.2 ⟨c,aA hc,hp⟩)
 ·simp at hp
theorem EX.ref (X:EX h E) (hp:p∈refs h):0<(celD h p).count:=by rw[X.c p];have:=eo.2 hp;omega
theorem EX.part (X:EX h E) (hp:p∈(celD h k).parts):0<(celD h p).count:=X.ref (VM hp)
theorem EX.slot (X:EX h E) (hp:p∈h.slots):0<(celD h p).count:=X.ref (bJ _ hp)
theorem EX.out (X:EX h E) (hp:p∈E):0<(celD h p).count:=by rw[X.c p];have:=eo.2 hp;omega
theorem abL (h:Le v=true):v=zeroV:=by obtain⟨a,b,c,d,e,f,g,i⟩:=v;simp only[Le,aL,aR]at h;obtain⟨rfl,rfl,rfl,rfl,rfl,rfl,rfl,rfl⟩:=h;rfl
theorem EX.of (hk:fG h=true):EX h []:=by
 have hk':=hk;simp only[fG,ax,aL,aV]at hk';obtain⟨⟨⟨-,h3⟩,h4⟩,-⟩:=hk';have iU:∀k:Int,(celD h k).count=(((refs h).count k:Nat):Int)/\(celD h k).value.parts=[]/\((celD h k).count=0->(celD h k).parts=[]/\(celD h k).value=zeroV):=λk=>by
  by_cases hr:inR h k=true
  ·obtain⟨i,c,rfl,hil,hc,ld⟩:=kU hr;rw[ld];have h5:=iC.1 h4 i c hc;simp only[m9,ax,bX,aL]at h5;obtain⟨⟨a,b⟩,e⟩:=h5;rw[pM _ hil]at a;injection a with a;refine⟨a.symm,aR.1 b,λh0=>?_⟩;rcases e with e|e
   ·exact absurd h0 e
   ·exact⟨aR.1 e.1,abL e.2⟩
  ·have h0:celD h k=⟨0,zeroV,[]⟩:=by
    simp [inR]at hr;unfold celD;split
    ·next h0=>rw[b_ (by have:=hr h0;omega)];rfl
    ·rfl
   rw[h0];refine⟨?_,rfl,λ_=>⟨rfl,rfl⟩⟩;have:(refs h).count k=0:=List.count_eq_zero.2 λhm=>hr (h3 k hm);rw[this];rfl
 exact⟨λk=>by rw[(iU k).1];simp,λk=>(iU k).2.1,λk=>(iU k).2.2⟩
theorem QG:∀(l:List Cel) (i:Nat) (x:Cel) (k:Int) (hi:i<l.length),((l.set i x).flatMap (·.parts)).count k+(l[i].parts).count k=(l.flatMap (·.parts)).count k+x.parts.count k
 |[],i,x,k,hi=>by simp at hi
 |c::t,0,x,k,hi=>by simp only[a_,cB,bT,List.getElem_cons_zero];omega
 |c::t,i+1,x,k,hi=>by have:=QG t i x k (by simpa using hi);simp only[be,cB,bT,List.getElem_cons_succ];omega
theorem NR (hi:i<h.cells.length) (x:Cel) (k:Int):(refs (eG h i x)).count k+(celD h (i:Int)).parts.count k=(refs h).count k+x.parts.count k:=by have:=QG h.cells i x k hi;rw[iI (aw hi)];show (h.slots++(h.cells.set i x).flatMap _).count k+_=(h.slots++_).count k+_;rw[bT,bT];omega
theorem AO {x:Cel} (X:EX h E) (hi:i<h.cells.length) (hb:∀k:Int,(if k=(i:Int) then x.count - (celD h (i:Int)).count else 0)+(((celD h (i:Int)).parts.count k+E.count k:Nat):Int)=((x.parts.count k+E'.count k:Nat):Int))
 (hv:x.value.parts=[]) (hz:x.count=0->x.parts=[]/\x.value=zeroV):EX (eG h i x) E':=by
 refine⟨λk=>?_,λk=>?_,λk=>?_⟩
 ·have h1:=X.c k;have h2:=NR hi x k;have h3:=hb k;rw[fQ hi];by_cases hk:k=(i:Int)
  ·subst hk;rw[aN rfl]at h3 ⊢;omega
  ·rw[aH hk]at h3 ⊢;omega
 ·rw[fQ hi];split
  ·exact hv
  ·exact X.v k
 ·rw[fQ hi];split
  ·exact hz
  ·exact X.z k
theorem Te {h:Hp} {c:Cel} (hz:∀k:Int,(celD h k).count=0->(celD h k).parts=[]) (k:Int):(refs (gH h c).1).count k=(refs h).count k+c.parts.count k:=by
 unfold gH;cases hf:gy h.cells 0 with
 |some n=>
  obtain⟨j,c',e1,e2,e3⟩:=qV hf;have e4:n=j:=dP;subst e4;have hn:=(ay.1 e2).1;have h1:=NR hn c k;rw[hz (n:Int) (by rw[iI e2];exact e3)]at h1;simpa using h1
 |none=>
  show (h.slots++(h.cells++[c]).flatMap _).count k=(h.slots++_).count k+_;rw[cj,bT,bT,bT];simp;omega
theorem QI (X:EX h (c.parts++E)) (hc:c.count=1) (hv:c.value.parts=[]):EX (gH h c).1 ((gH h c).2::E):=by
 obtain⟨n,t1,t2,t3,t4,t5⟩:=qG h c;have tr:=λk=>Te (c:=c) (λk e=>(X.z k e).1) k;refine⟨λk=>?_,λk=>?_,λk=>?_⟩
 ·rw[t4,tr,t1,cX];have h1:=X.c k;rw[bT]at h1;by_cases hk:k=(n:Int)
  ·subst hk;rw[aN rfl,hc];simp;rw[t5]at h1;omega
  ·rw[aH hk,h1];have:((n:Int)==k)=false:=sf;rw[this];simp;omega
 ·rw[t4];split
  ·exact hv
  ·exact X.v k
 ·rw[t4];split
  ·intro h0;omega
  ·exact X.z k
theorem Uc:∀(f d:Nat) (h:Hp) (v:Vec) (E:List Int),okD d v=true->d<f->EX h E->EX (fL f h v).1 ((fL f h v).2::E)
 |0,d,h,v,E,_,hf,_=>by omega
 |f+1,d,h,v,E,hv,hf,X=>by
  have hp:=(n7 hv).1;have iU:∀(l:List Vec) (s:Hp × List Int),(∀p∈l,p∈v.parts)->EX s.1 (s.2++E)->EX (l.foldl (js (fL f)) s).1 ((l.foldl (js (fL f)) s).2++E):=by
   intro l
   induction l with
   |nil=>intro s _ Y;exact Y
   |cons p t ih=>
    intro s hl Y;rw[bC];refine ih _ (λq hq=>hl q (aP _ hq)) ?_;obtain⟨d',rfl,hd'⟩:=hp p (hl p aT);have Z:=Uc f d' s.1 p (s.2++E) hd' dP Y;refine Z.perm λk=>?_;show List.count k ((fL f s.1 p).2::(s.2++E))=List.count k ((s.2++[(fL f s.1 p).2])++E);simp only[cX,bT,List.count_nil];omega
  rw[fL];exact QI (iU v.parts (h,[]) (λp h=>h) X) rfl rfl
def KV (h g:Hp):Prop:=∀k:Int,(celD g k).count<=(celD h k).count/\(0<(celD g k).count->(celD g k).value=(celD h k).value/\(celD g k).parts=(celD h k).parts)
theorem KV.refl:KV h h:=λ_=>⟨Int.le_refl _,λ_=>⟨rfl,rfl⟩⟩
theorem KV.trans {h g f:Hp} (a:KV h g) (b:KV g f):KV h f:=λk=>by obtain⟨a1,a2⟩:=a k;obtain⟨b1,b2⟩:=b k;refine⟨by omega,λe=>?_⟩;obtain⟨b3,b4⟩:=b2 e;obtain⟨a3,a4⟩:=a2 dP;exact⟨b3.trans a3,b4.trans a4⟩
theorem Ph:∀(f d:Nat) (h:Hp) (y:Int) (E:List Int),qU h d y->d<f->EX h (y::E)->EX (iD f h y) E/\KV h (iD f h y)
 |0,d,h,y,E,_,hf,_=>by omega
 |f+1,d,h,y,E,hd,hf,X=>by
  have hin:inR h y=true:=wg;obtain⟨i,x,rfl,hil,hx,ld⟩:=kU hin;have hy:=X.out (p:=(i:Int)) aT;have hc:=X.c (i:Int);have rk:=X.v (i:Int);rw[ld]at hc hy rk;rw[iD,ld,aU];by_cases hp:0<x.count - 1
  ·rw[aN hp];refine⟨AO X hil (λk=>?_) rk (λe=>?_),λk=>?_⟩
   ·rw[ld];have e1:(KP x).parts=x.parts:=rfl;have e2:(KP x).count=x.count - 1:=rfl;rw[e1,e2,cX];by_cases hk:k=(i:Int)
    ·subst hk;simp;omega
    ·have:((i:Int)==k)=false:=sf;rw[aH hk,this];simp
   ·have e:x.count - 1=0:=e;omega
   ·rw[fQ hil];split
    ·next hk=>subst hk;rw[ld];exact⟨by show x.count - 1<=x.count;omega,λ_=>⟨rfl,rfl⟩⟩
    ·exact⟨Int.le_refl _,λ_=>⟨rfl,rfl⟩⟩
  ·rw[aH hp];have h1:x.count=1:=dP;have X1:EX (eG h i lf) (x.parts++E):=AO X hil (λk=>by
    rw[ld];have e1:lf.parts=[]:=rfl;have e2:lf.count=0:=rfl;rw[e1,e2,cX,bT];by_cases hk:k=(i:Int)
    ·subst hk;simp;omega
    ·have:((i:Int)==k)=false:=sf;rw[aH hk,this];simp) rfl (λ_=>⟨rfl,rfl⟩)
   have K1:KV h (eG h i lf):=λk=>by
    rw[fQ hil];split
    ·next hk=>subst hk;rw[ld];exact⟨by show (0:Int)<=x.count;omega,λe=>by have e:(0:Int)<0:=e;omega⟩
    ·exact⟨Int.le_refl _,λ_=>⟨rfl,rfl⟩⟩
   have l1:LessP h (eG h i lf):=qN hil (.inr rfl);have iU:∀(l:List Int) (g:Hp),(∀p∈l,∃d',d'<f/\qU g d' p)->EX g (l++E)->EX (l.foldl (iD f) g) E/\KV g (l.foldl (iD f) g):=by
    intro l
    induction l with
    |nil=>intro g _ Y;exact⟨Y,KV.refl⟩
    |cons p t ih=>
     intro g hl Y;obtain⟨d',hd',QO⟩:=hl p aT;obtain⟨r1,r2⟩:=Ph f d' g p (t++E) QO hd' Y;have r3:=(EM f d' g p QO hd').1;obtain⟨s1,s2⟩:=ih (iD f g p) (λq hq=>by obtain⟨d2,h2,h3⟩:=hl q (aP _ hq);exact⟨d2,h2,qJ r3 h3⟩) r1
     exact⟨s1,r2.trans s2⟩
   obtain⟨s1,s2⟩:=iU x.parts (eG h i lf) (λp Mb=>yA) X1;exact⟨s1,K1.trans s2⟩
theorem Dx {h g:Hp} {E:List Int} (K:KV h g) (X:EX g E):∀{d:Nat} {k:Int},FP h d k->0<(celD g k).count->FP g d k/\asm g d k=asm h d k
 |0,k,e,hu=>by obtain⟨a,b⟩:=(K k).2 hu;rw[FP]at e;rw[FP,asm,asm,b,a];exact⟨⟨hu,e.2⟩,rfl⟩
 |d+1,k,e,hu=>by obtain⟨a,b⟩:=(K k).2 hu;rw[FP]at e;have iU:∀p∈(celD h k).parts,FP g d p/\asm g d p=asm h d p:=λp hp=>Dx K X (e.2.2 p hp) (X.part (by rw[b];exact hp));rw[FP,asm,asm,b,a];refine⟨⟨hu,e.2.1,λp hp=>(iU p hp).1⟩,?_⟩;rw[cT λp hp=>(iU p hp).2]
def KU (h g:Hp):Prop:=∀k:Int,0<(celD h k).count->(celD g k).value=(celD h k).value/\(celD g k).parts=(celD h k).parts/\0<(celD g k).count
theorem KU.refl:KU h h:=λ_ e=>⟨rfl,rfl,e⟩
theorem KU.trans {h g f:Hp} (a:KU h g) (b:KU g f):KU h f:=λk e=>by obtain⟨a1,a2,a3⟩:=a k e;obtain⟨b1,b2,b3⟩:=b k a3;exact⟨b1.trans a1,b2.trans a2,b3⟩
theorem qX {h g:Hp} (K:KU h g):∀{d:Nat} {k:Int},FP h d k->FP g d k/\asm g d k=asm h d k
 |0,k,e=>by rw[FP]at e;obtain⟨a,b,c⟩:=K k e.1;rw[FP,asm,asm,b,a];exact⟨⟨c,e.2⟩,rfl⟩
 |d+1,k,e=>by rw[FP]at e;obtain⟨a,b,c⟩:=K k e.1;have iU:∀p∈(celD h k).parts,FP g d p/\asm g d p=asm h d p:=λp hp=>qX K (e.2.2 p hp);rw[FP,asm,asm,b,a];refine⟨⟨c,e.2.1,λp hp=>(iU p hp).1⟩,?_⟩;rw[cT λp hp=>(iU p hp).2]
def GD (h:Hp):Prop:=∀k:Int,0<(celD h k).count->FP h 3 k
theorem GD.kv (G:GD h) (K:KV h g) (X:EX g E):GD g:=λk hk=>(Dx K X (G k (by have:=(K k).1;omega)) hk).1
theorem CP (h:Hp) (c:Cel):KU h (gH h c).1:=λk e=>by obtain⟨n,_,_,_,h4,h5⟩:=qG h c;rw[h4 k,aH (by rintro rfl;omega)];exact⟨rfl,rfl,e⟩
theorem VG (f:Nat) (h:Hp) (v:Vec):KU h (fL f h v).1:=
 ED (λg=>KU h g) (λg c _ e=>e.trans (CP g c)) f h v KU.refl
theorem DV9 (X:EX h E) (hp:0<(celD h p).count):EX (incS h p) (p::E)/\KU h (incS h p):=by
 obtain⟨i,x,rfl,hil,hx,ld⟩:=kU (j7 hp);unfold incS;rw[aU,ld];rw[ld]at hp;have rk:=X.v (i:Int);rw[ld]at rk;refine⟨AO X hil (λk=>?_) rk (λe=>?_),λk e=>?_⟩
 ·rw[ld];have e1:(gE x).parts=x.parts:=rfl;have e2:(gE x).count=x.count+1:=rfl;rw[e1,e2,cX];by_cases hk:k=(i:Int)
  ·subst hk;simp;omega
  ·have:((i:Int)==k)=false:=sf;rw[aH hk,this];simp
 ·have e:x.count+1=0:=e;omega
 ·rw[fQ hil];split
  ·next hk=>subst hk;rw[ld];exact⟨rfl,rfl,by show 0<x.count+1;omega⟩
  ·exact⟨rfl,rfl,e⟩
theorem PE (X:EX h E) (hp:0<(celD h p).count) (G:GD h):GD (incS h p):=λk hk=>by
 obtain⟨i,x,rfl,hil,hx,ld⟩:=kU (j7 hp);refine(qX (DV9 X hp).2 (G k ?_)).1;unfold incS at hk;rw[aU,fQ hil]at hk;split at hk
 ·next e=>rw[e];exact hp
 ·exact hk
theorem QW:∀(l:List Int) (h:Hp) (E:List Int),EX h E->(∀p∈l,0<(celD h p).count)->EX (l.foldl incS h) (l++E)/\KU h (l.foldl incS h)
 |[],h,E,X,_=>⟨X,KU.refl⟩
 |p::t,h,E,X,hl=>by obtain⟨a,b⟩:=DV9 X (hl p aT);obtain⟨c,d⟩:=QW t (incS h p) (p::E) a λq hq=>(b q (hl q (aP _ hq))).2.2;rw[bC];refine⟨c.perm λk=>?_,b.trans d⟩;simp only[bT,cX,cK];omega
theorem QV:∀(l:List Int) (h:Hp) (E:List Int),EX h E->(∀p∈l,0<(celD h p).count)->GD h->GD (l.foldl incS h)
 |[],h,E,X,_,G=>G
 |p::t,h,E,X,hl,G=>by have hp:=hl p aT;obtain⟨a,b⟩:=DV9 X hp;rw[bC];exact QV t (incS h p) (p::E) a (λq hq=>(b q (hl q (aP _ hq))).2.2) (PE X hp G)
theorem Rs (G:GD h) (hf:FP (gH h c).1 3 (gH h c).2):GD (gH h c).1:=λk hk=>by
 obtain⟨n,t1,t2,t3,t4,t5⟩:=qG h c;by_cases e:k=(n:Int)
 ·rw[e,<-t1];exact hf
 ·rw[t4,aH e]at hk;exact(qX (CP h c) (G k hk)).1
theorem Dr:∀(l:List Int) (i:Nat) (x k:Int) (hi:i<l.length),(l.set i x).count k+[l[i]].count k=l.count k+[x].count k
 |[],i,x,k,hi=>by simp at hi
 |c::t,0,x,k,hi=>by simp only[a_,cX,List.getElem_cons_zero,List.count_nil];omega
 |c::t,i+1,x,k,hi=>by have:=Dr t i x k (by simpa using hi);simp only[be,cX,List.getElem_cons_succ,List.count_nil]at this ⊢;omega
theorem Xo (hl:h.names.length=h.slots.length) (X:EX h (k::E)) (hd:∀y∈h.slots,FP h 3 y):
 EX (fd h s k) E/\KV h (fd h s k)/\(fd h s k).copies=h.copies/\((∃p:Nat,ix h.names s 0=(p:Int)/\p<h.slots.length/\(fd h s k).names=h.names/\(fd h s k).slots=h.slots.set p k)\/(ix h.names s 0<0/\(fd h s k).names=h.names++[s]/\(fd h s k).slots=h.slots++[k])):=by
 unfold fd;by_cases hi:0<=ix h.names s 0
 ·rw[aN hi];obtain⟨p,hp⟩:=bQ hi;have hg:=(pY h.names s 0).2;have mD:p<h.slots.length:=dP;have hs:slotD h s=h.slots[p]:=wi;rw[hp,aU,hs];have X2:EX {h with slots:=h.slots.set p k} (h.slots[p]::E):=by refine⟨λj=>?_,X.v,X.z⟩;have h1:=X.c j;have h2:=Dr h.slots p k j mD;show (celD h j).count=(((h.slots.set p k++h.cells.flatMap (·.parts)).count j+(h.slots[p]::E).count j:Nat):Int);rw[h1];show (((h.slots++h.cells.flatMap (·.parts)).count j+(k::E).count j:Nat):Int)=_;simp only[bT,cX,List.count_nil]at h2 ⊢;omega
  have hfp:=hd _ (dA mD);have QO:qU {h with slots:=h.slots.set p k} 3 h.slots[p]:=qJ (h:=h) ⟨rfl,λ_=> .inl rfl⟩ (OP hfp);obtain⟨r1,r2⟩:=Ph 5 3 _ _ E QO dP X2;obtain⟨n1,n2,n3⟩:=ug 5 {h with slots:=h.slots.set p k} h.slots[p];exact⟨r1,r2,n3,.inl ⟨p,rfl,mD,n1,n2⟩⟩
 ·rw[aH hi];refine⟨⟨λj=>?_,X.v,X.z⟩,KV.refl,rfl,.inr ⟨by omega,rfl,rfl⟩⟩;have h1:=X.c j;show (celD h j).count=((((h.slots++[k])++h.cells.flatMap (·.parts)).count j+E.count j:Nat):Int);rw[h1];show (((h.slots++h.cells.flatMap (·.parts)).count j+(k::E).count j:Nat):Int)=_;simp only[bT,cX,List.count_nil];omega
theorem qE (h:v.parts=[]):noParts v=v:=by obtain⟨a,b,c,d,e,f,g,i⟩:=v;simp only at h;subst h;rfl
theorem Ki {l:List Vec} (h:v.parts=l):{noParts v with parts:=l}=v:=by obtain⟨a,b,c,d,e,f,g,i⟩:=v;simp only at h;subst h;rfl
theorem Pl:∀(f d:Nat) (h:Hp) (v:Vec),okD d v=true->d<f->FP (fL f h v).1 d (fL f h v).2/\asm (fL f h v).1 d (fL f h v).2=v
 |0,d,h,v,_,hf=>by omega
 |f+1,d,h,v,hv,hf=>by
  obtain⟨hp,hp40⟩:=n7 hv;have F:=FV.of (jB hv);have iU:∀(d':Nat) (l:List Vec) (s:Hp × List Int) (dn:List Vec),(∀p∈l,okD d' p=true)->d'<f->(∀k∈s.2,FP s.1 d' k)->s.2.map (asm s.1 d')=dn->
   (∀k∈(l.foldl (js (fL f)) s).2,FP (l.foldl (js (fL f)) s).1 d' k)/\(l.foldl (js (fL f)) s).2.map (asm (l.foldl (js (fL f)) s).1 d')=dn++l:=by
   intro d' l
   induction l with
   |nil=>intro s dn _ _ a b;exact⟨a,by simpa using b⟩
   |cons p t ih=>
    intro s dn hl hd a b;obtain⟨q1,q2⟩:=Pl f d' s.1 p (hl p aT) hd;have K:=VG f s.1 p;rw[bC];obtain⟨i1,i2⟩:=ih (js (fL f) s p) (dn++[p]) (λq hq=>hl q (aP _ hq)) hd (λk hk=>by
     rcases aG.1 (show k∈s.2++[(fL f s.1 p).2] from hk) with hk|hk
     ·exact(qX K (a k hk)).1
     ·obtain rfl:k=(fL f s.1 p).2:=jg;exact q1) (by
     show (s.2++[(fL f s.1 p).2]).map (asm (fL f s.1 p).1 d')=dn++[p];rw[aI,br,bL,q2,<-b,cT λk hk=>(qX K (a k hk)).2])
    exact⟨i1,by rw[i2];simp⟩
  rw[fL];cases d with
  |zero=>
   have hz:v.parts=[]:=by rw[okD]at hv;simp only[ax,dh]at hv;exact hv.2
   rw[hz,dK];obtain⟨n,t1,t2,t3,t4,t5⟩:=qG h ⟨1,noParts v,[]⟩;have hn:celD (gH h ⟨1,noParts v,[]⟩).1 (n:Int)=⟨1,noParts v,[]⟩:=by rw[t4,aN rfl]
   simp only;rw[t1,FP,asm,hn];exact⟨⟨by show (0:Int)<1;omega,rfl⟩,Ki hz⟩
  |succ d=>
   obtain⟨k1,k2⟩:=iU d v.parts (h,[]) [] (λp Mb=>by obtain⟨d',e,hd'⟩:=hp p Mb;obtain rfl:d=d':=dP;exact hd') dP dR rfl;generalize v.parts.foldl (js (fL f)) (h,[])=s at k1 k2;rw[cJ]at k2;obtain⟨n,t1,t2,t3,t4,t5⟩:=qG s.1 ⟨1,noParts v,s.2⟩;have hn:celD (gH s.1 ⟨1,noParts v,s.2⟩).1 (n:Int)=⟨1,noParts v,s.2⟩:=by rw[t4,aN rfl]
   have K:=CP s.1 ⟨1,noParts v,s.2⟩;have gK:s.2.length=v.parts.length:=by rw[<-k2,au]
   rw[t1,FP,asm,hn];refine⟨⟨by show (0:Int)<1;omega,?_,λp Mb=>(qX K (k1 p Mb)).1⟩,?_⟩
   ·by_cases hz:s.2=[]
    ·exact .inl hz
    ·refine .inr ⟨F.np ?_,by show s.2.length<=40;omega⟩;have:0<s.2.length:=List.length_pos_iff.2 hz;omega
   ·refine Ki ?_;show v.parts=s.2.map (asm _ d);rw[cT λk hk=>(qX K (k1 k hk)).2,k2]
theorem VF:∀(f d:Nat) (h:Hp) (v:Vec),okD d v=true->d<f->d<=3->GD h->GD (fL f h v).1
 |0,d,h,v,_,hf,_,_=>by omega
 |f+1,d,h,v,hv,hf,h3,G=>by
  have hp:=(n7 hv).1;have iU:∀(l:List Vec) (s:Hp × List Int),(∀p∈l,p∈v.parts)->GD s.1->GD (l.foldl (js (fL f)) s).1:=by
   intro l
   induction l with
   |nil=>intro s _ Y;exact Y
   |cons p t ih=>
    intro s hl Y;rw[bC];obtain⟨d',e,hd'⟩:=hp p (hl p aT);exact ih _ (λq hq=>hl q (aP _ hq)) (VF f d' s.1 p hd' dP dP Y)
  have hf1:=(Pl (f+1) d h v hv hf).1;have up:∀(e:Nat),d+e=3->FP (fL (f+1) h v).1 3 (fL (f+1) h v).2:=by
   have:∀e,FP (fL (f+1) h v).1 (d+e) (fL (f+1) h v).2:=λe=>by
    induction e with
    |zero=>exact hf1
    |succ e ih=>exact Y7 ih
   intro e he;rw[<-he];exact this e
  have h4:=up (3 - d) dP;rw[fL]at h4 ⊢;exact Rs (iU v.parts (h,[]) (λp h=>h) G) h4
structure SL (h:Hp):Prop where
 l:h.names.length=h.slots.length
 n:∀(i:Nat) (s:Str),h.names[i]?=some s->isNm s=true/\(h.names.take i).contains s=false
 f:∀y∈h.slots,FP h 3 y/\isVec (asm h 3 y)=true
theorem SL.of (hk:fG h=true):SL h:=by
 obtain⟨h1,h2,h3⟩:=jc hk;refine⟨h1,λi s hs=>?_,λy hy=>?_⟩
 ·have h4:=iC.1 h3 i s hs;simp only[s7,ax,cQ]at h4;exact h4.1.1
 ·obtain⟨i,hi⟩:=dB.1 hy;have hil:=(ay.1 hi).1;have h4:=iC.1 h3 i _ (aw (by omega:i<h.names.length));simp only[hi,bV,s7,ax]at h4;exact⟨Kv.2 h4.1.2,h4.2⟩
theorem UU:Le zeroV=true:=by simp [Le,zeroV]
theorem rj (X:EX h []) (S:SL h) (hc:0<=h.copies):fG h=true:=by
 refine DF S.l hc ?_ ?_ ?_
 ·rw[aV];exact λk hk=>j7 (X.ref hk)
 ·refine iC.2 λi c hi=>?_;have hil:=(ay.1 hi).1;have h1:=X.c (i:Int);have h2:=X.v (i:Int);have h3:=X.z (i:Int);rw[iI hi]at h1 h2 h3;simp only[m9,ax,bX,aL];refine⟨⟨by rw[pM _ hil,h1];simp,by rw[h2];rfl⟩,?_⟩;by_cases h0:c.count=0
  ·obtain⟨a,b⟩:=h3 h0;exact .inr ⟨by rw[a];rfl,by rw[b];exact UU⟩
  ·exact .inl h0
 ·refine iC.2 λi s hi=>?_;have hil:=(ay.1 hi).1;have hl:=S.l;have e:h.slots[i]?=some h.slots[i]:=aw dP;obtain⟨a,b⟩:=S.n i s hi;obtain⟨c,d⟩:=S.f h.slots[i] (dA _);rw[e,bV];simp only[s7,ax,cQ];exact⟨⟨⟨a,b⟩,Kv.1 c⟩,d⟩
theorem SL.ku (S:SL h) (K:KU h g) (e1:g.names=h.names) (e2:g.slots=h.slots):SL g:=by refine⟨by rw[e1,e2];exact S.l,λi s=>by rw[e1];exact S.n i s,λy hy=>?_⟩;rw[e2]at hy;obtain⟨a,b⟩:=S.f y hy;obtain⟨c,d⟩:=qX K a;exact⟨c,by rw[d];exact b⟩
theorem LF (S:SL h) (X:EX h (k::E)) (hs:isNm s=true) (hf:FP h 3 k) (hv:isVec (asm h 3 k)=true):
 EX (fd h s k) E/\SL (fd h s k)/\KV h (fd h s k)/\(fd h s k).copies=h.copies/\((∃p:Nat,ix h.names s 0=(p:Int)/\p<h.slots.length/\(fd h s k).names=h.names/\(fd h s k).slots=h.slots.set p k)\/(ix h.names s 0<0/\(fd h s k).names=h.names++[s]/\(fd h s k).slots=h.slots++[k])):=by
 obtain⟨b1,b2,b3,b4⟩:=Xo S.l X (λy hy=>(S.f y hy).1);have hm:∀y∈(fd h s k).slots,y=k\/y∈h.slots:=λy hy=>by
  rcases b4 with ⟨p,-,-,-,e⟩|⟨-,-,e⟩
  ·rw[e]at hy;rcases List.mem_or_eq_of_mem_set hy with h1|h1
   ·exact .inr h1
   ·exact .inl h1
  ·rw[e]at hy;rcases aG.1 hy with h1|h1
   ·exact .inr h1
   ·exact .inl mt
 refine⟨b1,⟨?_,λi t ht=>?_,λy hy=>?_⟩,b2,b3,b4⟩
 ·have:=S.l;rcases b4 with ⟨p,-,-,e,e'⟩|⟨-,e,e'⟩<;>(rw[e,e'];simp;omega)
 ·rcases b4 with ⟨p,-,-,e,e'⟩|⟨hi,e,e'⟩
  ·rw[e]at ht ⊢;exact S.n i t ht
  ·rw[e]at ht ⊢;by_cases hil:i<h.names.length
   ·rw[cY hil]at ht;rw[List.take_append_of_le_length dP];exact S.n i t ht
   ·have hie:i=h.names.length:=by have:=(ay.1 ht).1;simp at this;omega
    subst hie;simp at ht;subst ht;refine⟨hs,?_⟩;rw[List.take_append_of_le_length (af _),cC,<-UW h.names s 0];simp;omega
 ·have hu:=b1.slot hy;rcases hm y hy with rfl|h1
  ·obtain⟨c,d⟩:=Dx b2 b1 hf hu;exact⟨c,by rw[d];exact hv⟩
  ·obtain⟨a,b⟩:=S.f y h1;obtain⟨c,d⟩:=Dx b2 b1 a hu;exact⟨c,by rw[d];exact b⟩
theorem RY (X:EX h E) (c:Int):EX {h with copies:=c} E:=⟨X.c,X.v,X.z⟩
theorem nY {h:Hp} (c:Int):∀{d:Nat} {k:Int},(FP {h with copies:=c} d k↔FP h d k)/\asm {h with copies:=c} d k=asm h d k
 |0,k=>⟨Iff.rfl,rfl⟩
 |d+1,k=>by
  have e:asm {h with copies:=c} d=asm h d:=funext λj=>(nY c).2;have e2:∀j,FP {h with copies:=c} d j↔FP h d j:=λj=>(nY c).1;rw[FP,FP,asm,asm,e];refine⟨?_,rfl⟩;constructor
  ·rintro⟨a,b,q⟩;exact⟨a,b,λp hp=>(e2 p).1 (q p hp)⟩
  ·rintro⟨a,b,q⟩;exact⟨a,b,λp hp=>(e2 p).2 (q p hp)⟩
theorem R2 (G:GD h) (c:Int):GD {h with copies:=c}:=λk hk=>(nY c).1.2 (G k hk)
theorem S8 (S:SL h) (c:Int):SL {h with copies:=c}:=⟨S.l,S.n,λy hy=>by obtain⟨a,b⟩:=S.f y hy;exact⟨(nY c).1.2 a,by rw[(nY c).2];exact b⟩⟩
def PM (lv:List Str) (pk:Int) (py:Item):Item:=if py.den=0\/ix lv (sI pk 3 py).text 0<0 then⟨0,0,[]⟩ else l_ (ix lv (sI pk 3 py).text 0+1)
theorem Yj (h:py.den=0\/ix lv (sI pk 3 py).text 0<0):PM lv pk py=⟨0,0,[]⟩:=by unfold PM;rw[aN h]
theorem Ve (h:¬py.den=0/\0<=ix lv (sI pk 3 py).text 0):PM lv pk py=l_ (ix lv (sI pk 3 py).text 0+1):=by unfold PM;rw[aH dP]
theorem SE (xk pk:Int) (y py:Item) (xn xc xl lv:List Str) (Av:Option Addr) (cv:Nat) (cx:List Value) (w:World) (fE:rep w w.heap.size (Vec.toD ⟨xk,[y],[],xn,xc,xl,0,0⟩) cx)
 (mD:∀(cx:List Value) (w:World),rep w w.heap.size (Vec.toD ⟨xk,[y],[],xn,xc,xl,0,0⟩) cx->Calls prog 121 #[av cx] w (gM (Vec.toD ⟨pk,[py],[],[],[],[],0,0⟩) 38 w)) (adV:pk=1->0<=py.num/\py.num<2) (kQ:rep w w.heap.size (.sl (lv.map .s)) [.slice Av lv.length cv]) (hlb:lv.length<=40):
 Calls prog 120 #[av cx,.slice Av lv.length cv] w (gM (Vec.toD ⟨2,[PM lv pk py],[],[],[],[],0,0⟩) 38 w):=by
 have HP:=aa mD;have hlg:=aa adV;have xQ:=aa (pY lv (sI pk 3 py).text 0);obtain⟨Ai,ci,Ap,cp,An,cn,Ac,cc,Al,cl,rfl,wk,ri,rp,rn,rc,rl,wc,we⟩:=d_ fE;simp only[bf,bt]at fE;clear mD adV;have M:Mem prog w [] w []:=Mem.start;go_enter func120,ntmps120;refine Sq (Sa M (λJ1 wv M=>?_));refine Sa M (λJ2 wv M=>Sz (Sq ?_));refine Sb M [] 1 ?_;refine Sa M (λJ3 wv M=>?_);refine Ss M 0 (λwv M=>Sz ?_);replace M:=M.nil (t:=35) underlying35;refine Sq (Sb M [3] 1 ?_);refine Sc (Xe (HP.out _ _ (M.arg fE)) M λJ4 wv M=>Sp ?_);refine Sa M (λJ5 wv M=>?_);refine Ss M 0 (λwv M=>Sz ?_);obtain⟨gp,xw⟩:=(M.pull 1 rfl).some0 underlying35 (bZ);rw[xw]at M ⊢;clear xw;refine ae (Ra M [] (aJ ?_));refine aZ 2 ?_;refine ez (ae (Ra M [0] ?_));refine Hx (ae (aJ ?_));refine pe M [none,none] [.v (.c (.slice Av lv.length cv)),.o (J5.b) 0,.l 0 0,.o (J5.b) 1,.l 0 1,.i (0),.o gp 0,.v (.c (.agg #[py.num,py.den,sv py.text])),.v (.c (.agg #[.int .i64 (sI pk 3 py).num,.int .i64 (sI pk 3 py).den,sv (sI pk 3 py).text])),.x 0 2,.i (ix lv (sI pk 3 py).text 0),.p 0] [[],[],[0],[],[0],[],[],[1],[],[],[],[]] [] ?_ ?_
 ·show ∀i,i<12->_;refine On ?_ eB;refine On ?_ (tn [] [] [] (h:=λγ wv R K M hK=>by go_simp;go_at_call 49;exact QF (gG Av lv.length cv lv (sI pk 3 py).text _ (pd (M.arg kQ)) eb) M hK))
  refine On ?_ eh;refine On ?_ (tn [] [] [] (h:=λγ wv R K M hK=>by go_simp;go_at_call 166;exact f_ (Nw py pk 3 hlg.out _) M hK))
  refine On ?_ (mW [1] (h:=λγ wv K M hK=>Hb));exact On (On (On (On (On (On (On Oz eB) eh) (e_ [0] 0)) eh) (e_ [0] 1)) eB) eh
 intro i7 wv M;refine Sq (Sb M [0] 5 ?_);replace M:=M.up [1];refine So (.int .i64 py.den) (λK Z hK=>Hb) ?_;refine Sb M [] 2 ?_;refine So ((bif ((py.den:Int)==(0:Int)) then undef else .int .i64 (ix lv (sI pk 3 py).text 0))) (λK Z hK=>by rcases ac (((py.den:Int)==(0:Int))) with hg|hg<;>simp only[hg,ar,ak,aD,aB,az,aq,aj,am]at hK<;>go_simp<;>exact hK) ?_;refine So ((bif ((py.den:Int)==(0:Int)) then undef else .bool (decide (((ix lv (sI pk 3 py).text 0):Int)<(0:Int))))) (λK Z hK=>by rcases ac (((py.den:Int)==(0:Int))) with hg|hg<;>simp only[hg,ar,ak,aD,aB,az,aq,aj,am]at hK<;>go_simp<;>exact hK) ?_;refine So (.bool (((py.den:Int)==(0:Int))||(decide (((ix lv (sI pk 3 py).text 0):Int)<(0:Int))))) (λK Z hK=>by rcases ac (((py.den:Int)==(0:Int))) with hg|hg<;>simp only[hg,ar,ak,aD,aB,az,aq,aj,am]at hK<;>go_simp<;>exact hK) (Sz ?_);refine lW (λDL=>?_) (λDL=>?_)
 ·rw[DL];replace DL:=aa DL;refine Sg (Sb M [7] 3 ?_);refine Sa M (λJ6 wv M=>?_);replace M:=M.up [7];have M:=M.item (x:=⟨0,0,[]⟩) ⟨by decide,by decide,by decide⟩;replace M:=M.up [2,1,2];refine nQ M kM (λJ7 wv M=>Sw ?_);refine Sb M [] 1 ?_;refine Ss M 8 (λwv M=>Sy (fA (dV ?_)));refine Rb M [] (dV (ez (ae ?_)));refine Ra M [3] ?_;refine cf (bo (es (es (fT (dV (Sq ?_))))));refine Sb M [8] 1 ?_;refine Ss M 9 (λwv M=>Sz (aO ?_));refine kN results120 M 9 ?_;rw[Yj (by have z:=DL.out;simpa using z)];have MZ:=M.sel [0] dQ;simp only[lH,bH,bY,ah,ag,cJ]at MZ;have MZ:=((((MZ.nil (t:=25) underlying25).nil (t:=25) underlying25).nil (t:=25) underlying25).nil (t:=36) underlying36);replace MZ:=MZ.up [4];exact(Mem.joinVec (v:=⟨2,[⟨0,0,[]⟩],[],[],[],[],0,0⟩) MZ wf2 le le).retSt
 ·rw[DL];replace DL:=aa DL;refine CJ (M.sel [6,7,0,1,2,3,4,5,8,9] dQ) [some 6,some 8] [.o (J3.b) 1,.l 1 1,.i (ix lv (sI pk 3 py).text 0),.i ((ix lv (sI pk 3 py).text 0)+1),.v (.c (.agg #[.int .i64 ((ix lv (sI pk 3 py).text 0)+1),.int .i64 1,sv []])),.v (.e 5 (λxh=> .slice (some ⟨xh.b,0,none⟩) 1 1)),.v (vA 6 1),.p 6,.u] [.b 5 none 135 4,.e 6 none (oA 6 (.sl (([]:List D)++[Item.toD (l_ ((ix lv (sI pk 3 py).text 0)+1))])) 35 1),.s 8 none 1 [(1,vA 6 1)]] [[],[1],[],[],[],[],[2],[],[]] [] ?_ ?_
  ·show ∀i,i<9->_;refine On (On ?_ eh) (vI [1] [4] 1);refine On ?_ (tn [0] [3] [2] (h:=λγ wv R K M hK=>by have M:=M.item (x:=l_ ((ix lv (sI pk 3 py).text 0)+1)) (show itOK (l_ ((ix lv (sI pk 3 py).text 0)+1)) from⟨kP.2 (by have:=xQ.out;simp only[l_];omega),wf1,(show ([]:Str).length<=maxLen by decide)⟩);exact mG (((M.pull 2 rfl).pull 1 rfl).pull 2 rfl) kM dU rfl (.tmp 48) (.tmp 52) rfl rfl rfl rfl eb dP λg c' w' M'=>hK (R3 g c') w' M'))
   refine On ?_ (kX [2]);refine On ?_ (tn [] [] [] (h:=λγ wv R K M hK=>by go_simp;go_at_call 167;exact f_ (SG ((ix lv (sI pk 3 py).text 0)+1) _) M hK))
   refine On ?_ (mW [] (h:=λγ wv K M hK=>pH));exact On (On (On Oz eh) (e_ [1] 1)) eB
  intro Ho wv M;replace M:Mem _ _ _ _ [.bk _ _ [_,_,_],.ow _ _ _,.bk _ _ [_,_,_,_,_,_,_,_],_,_,_,_,_,_,_,_]:=M;refine fA (dV (Rb M [] (dV (ez (ae ?_)))));refine Ra M [4] ?_;refine cf (bo (es (es (fT (dV (Sq ?_))))));refine Sb M [2] 1 ?_;refine Ss M 9 (λwv M=>Sz (aO ?_));refine kN results120 M 9 ?_;rw[Ve (by have z:=DL.out;simpa using z)];have MZ:=M.sel [1] dQ;simp only[lH,bH,bY,ah,ag,cJ]at MZ;have MZ:=((((MZ.nil (t:=25) underlying25).nil (t:=25) underlying25).nil (t:=25) underlying25).nil (t:=36) underlying36);replace MZ:=MZ.up [4];exact(Mem.joinVec (v:=⟨2,[l_ ((ix lv (sI pk 3 py).text 0)+1)],[],[],[],[],0,0⟩) MZ wf2 le le).retSt
theorem uH (h:Hp) (nm fr:Str) (pt:Int) (v:Vec) (a b:Int) (Rh:Hp) (r:Str) (vv rv:Vec) (rs:Str) (hz:szD h.toD<=4194304) (l7:fG h=true) (jP:h.names.length=h.slots.length) (oU:je ⟨2,nm,fr,pt,v⟩=true) (gf:bigV v) (C5:cellD h nm=a) (C6:cellD h fr=b) (cs cx:List Value) (w:World) (oD:rep w w.heap.size h.toD cs) (fE:rep w w.heap.size (Hop.toD ⟨2,nm,fr,pt,v⟩) cx)
 (Uo:1<=pt/\pt<=40) (nD:(a<0/\Rh=h/\r=[110,97,109,101,32,110,111,116,32,102,111,117,110,100])\/∃(i:Nat),a=(i:Int)/\depD h 3 (i:Int)=true/\asm h 3 (i:Int)=vv/\(∀(cv cs cx:List Value) (W:World),rep W W.heap.size vv.toD cv->rep W W.heap.size (nU [pt]).toD cs->rep W W.heap.size v.toD cx->Calls prog 42 #[av cv,av cs,av cx] W (eH rv.toD 38 (sv rs) W))/\
  ((rs.isEmpty=false/\Rh=h/\r=rs)\/(rs=[]/\vv.kind=4/\Rh=h/\r=[110,111,116,32,97,110,32,97,116,111,109,105,99,32,118,101,99,116,111,114])\/(rs=[]/\¬vv.kind=4/\∃(h2:Hp) (k:Nat) (x2:Cel),(∀(g:Nat) (F:List Nat) (W:World),HB W g h F->Calls prog 44 #[.pointer (some ⟨g,0,none⟩),sv nm] W λe w'=>e= .returned (.int .i64 (k:Nat))/\∃F',HB w' g h2 F'/\Sub W.heap.size F F'/\Mod (g::F) W w')/\h2.cells[k]?=some x2/\Rh=eG h2 k (⟨x2.count,rv,x2.parts⟩:Cel)/\r=[]))):
 Calls prog 10 #[av cs,av cx] w (eH Rh.toD 28 (sv r) w):=by
 have jV:=aa l7;have gK:=aa jP;have wS:=aa oU;have lJ:=aa gf;have HA:=aa C5;have Tr:=aa C6;have hat:=aa Uo;obtain⟨Ah,ch,An,cn,Ak,cs,rfl,rc,rn,ER,wc⟩:=gV oD;obtain⟨Ai,ci,Ap,cp,OL,O7,Ac,cc,Al,cl,rfl,wn,wf,wa,gF⟩:=gQ fE;clear l7 jP oU gf C5 C6 rc rn ER wc Uo;have M:Mem prog w [] w []:=Mem.start;go_enter func10,ntmps10;refine Sq (Sa M (λJ1 wv M=>?_));refine Sa M (λJ2 wv M=>?_);refine Sa M (λJ3 wv M=>?_);refine Sb M [] 1 (Sz (ae (Sq ?_)));refine Sb M [2] 1 ?_;refine Sc (aF (kT h hz _ _ (M.arg oD)) ?_);rintro e w' ⟨rfl,hb⟩;rw[jV.out];replace M:=M.next hb;refine Sp ?_;refine Sb M [1] 3 ?_;refine Sc (aF (kS _ _ _ (M.arg fE) lJ.out) ?_);rintro e w' ⟨rfl,hb⟩;rw[wS.out];replace M:=M.next hb;refine Sp ?_;refine Sb M [] 2 (Sz ?_);refine gk (Sq ?_);refine Sb M [2] 1 ?_;refine Sc (L6 (wL h hz _ _ (M.arg oD)) M λJ6 wv M=>Sp ?_);refine Sa M (λJ7 wv M=>?_);refine Ss M 0 (λwv M=>Sz ?_);refine pe (M.sel [3,4,0,1,2] dQ) [none,none] [.la 1,.o (J2.b) 1,.l 0 1,.i (a),.p 3,.o (J2.b) 2,.l 0 2,.i (b),.p 4,.p 1] [[1],[],[0],[],[1],[],[0],[],[],[]] [] ?_ ?_
 ·exact uo
 intro i7 wv M;replace M:Mem _ _ _ _ [_,_,_,_,_]:=M;refine ae ?_;rcases nD with ⟨ha,eR,er⟩|⟨i,rfl,hd,hvv,RA,nD⟩
 ·exact GE
 ·have q1:decide ((i:Int)<0)=false:=dR;replace hd:=aa hd;replace hvv:=aa hvv;replace RA:=aa RA;refine Sq (Sb M [] 16 ?_);refine So ((bif (decide ((b:Int)<(0:Int))) then .pointer (some ⟨J2.b,0,none⟩) else undef)) (λK Z hK=>by rcases ac ((decide ((b:Int)<(0:Int)))) with hg|hg<;>simp only[hg,ar,ak,aD,aB,az,aq,aj,am]at hK<;>go_simp<;>exact hK) ?_;refine So ((bif (decide ((b:Int)<(0:Int))) then .int .i64 2 else undef)) (λK Z hK=>by have hc:=(M.bl 0 rfl).cells;simp only[ju,Nat.reduceAdd]at hc;(repeat (obtain⟨c,hc⟩:=hc));rcases ac ((decide ((b:Int)<(0:Int)))) with hg|hg<;>simp only[hg,ar,ak,aD,aB,az,aq,aj,am]at hK<;>go_simp<;>exact hK) ?_;refine So ((bif (decide ((b:Int)<(0:Int))) then .bool false else undef)) (λK Z hK=>by rcases ac ((decide ((b:Int)<(0:Int)))) with hg|hg<;>simp only[hg,ar,ak,aD,aB,az,aq,aj,am]at hK<;>go_simp<;>exact hK) ?_;refine So ((bif (decide ((b:Int)<(0:Int))) then .bool false else undef)) (λK Z hK=>by rcases ac ((decide ((b:Int)<(0:Int)))) with hg|hg<;>simp only[hg,ar,ak,aD,aB,az,aq,aj,am]at hK<;>go_simp<;>exact hK) ?_;refine So ((bif (decide ((b:Int)<(0:Int))) then .pointer (some ⟨J2.b,0,none⟩) else undef)) (λK Z hK=>by rcases ac ((decide ((b:Int)<(0:Int)))) with hg|hg<;>simp only[hg,ar,ak,aD,aB,az,aq,aj,am]at hK<;>go_simp<;>exact hK) ?_;refine So ((bif (decide ((b:Int)<(0:Int))) then .int .i64 2 else undef)) (λK Z hK=>by have hc:=(M.bl 0 rfl).cells;simp only[ju,Nat.reduceAdd]at hc;(repeat (obtain⟨c,hc⟩:=hc));rcases ac ((decide ((b:Int)<(0:Int)))) with hg|hg<;>simp only[hg,ar,ak,aD,aB,az,aq,aj,am]at hK<;>go_simp<;>exact hK) ?_;refine So ((bif (decide ((b:Int)<(0:Int))) then .bool false else undef)) (λK Z hK=>by rcases ac ((decide ((b:Int)<(0:Int)))) with hg|hg<;>simp only[hg,ar,ak,aD,aB,az,aq,aj,am]at hK<;>go_simp<;>exact hK) ?_;refine So ((bif (decide ((b:Int)<(0:Int))) then .bool false else undef)) (λK Z hK=>by rcases ac ((decide ((b:Int)<(0:Int)))) with hg|hg<;>simp only[hg,ar,ak,aD,aB,az,aq,aj,am]at hK<;>go_simp<;>exact hK) ?_;refine So (.bool false) (λK Z hK=>by rcases ac ((decide ((b:Int)<(0:Int)))) with hg|hg<;>simp only[hg,ar,ak,aD,aB,az,aq,aj,am]at hK<;>go_simp<;>exact hK) ?_;refine Sb M [] 1 (Sz ?_);refine gk (ae ?_);refine Ra M [0] (aJ ?_);refine Ra M [] ?_;refine cf ?_;refine Ra M [] ?_;refine cf ?_;refine Ra M [] ?_;refine ct (Sq ?_);refine Sb M [1] 2 ?_;refine Sc (tI (v:=vv) B0 M λJ8 wv M=>Sp ?_);refine Sa M (λJ9 wv M=>?_);refine Ss M 0 (λwv M=>Sz ?_);refine mL M [none,none,none] [.la 0,.o (J2.b) 3,.l 2 3,.v (.e 3 (λii=> .slice (some ⟨ii.b,0,none⟩) 1 1)),.v (.e 4 (λnP=> .agg #[(nP.f 0),(nP.f 1),(nP.f 2),(nP.f 3),(nP.f 4),(nP.f 5),(nP.f 6),(nP.f 7)])),.o (J2.b) 4,.v (.c (.agg #[v.kind,.slice Ai v.items.length ci,.slice Ap v.parts.length cp,.slice OL v.names.length O7,.slice Ac v.cls.length cc,.slice Al v.levels.length cl,v.code,v.env])),.v (vT 7 rv.kind rv.items.length rv.parts.length rv.names.length rv.cls.length rv.levels.length rv.code rv.env (sv rs)),.p 0,.x 0 0,.x 1 1,.q 11 0,.u,.p 2] [.e 3 none (oB 3 3 [pt]),.e 4 none (.e 4 (λnP=> .ow ((nU [pt]).toD) 38 [(nP.f 0),(nP.f 1),(nP.f 2),(nP.f 3),(nP.f 4),(nP.f 5),(nP.f 6),(nP.f 7)])),.e 7 none (oW 7 (rv.toD) 38 rv.kind rv.items.length rv.parts.length rv.names.length rv.cls.length rv.levels.length rv.code rv.env),.e 11 (some 12) (oB 11 38 z8),.x 12 none 6 7 0] [[0],[],[2],[],[3],[],[2],[1,4],[],[],[],[],[],[]] [] ?_ ?_
  ·show ∀i,i<14->_;refine On (On (On (On (On (On ?_ eB) eB) eB) (kX [6])) (vJ [6] [7])) eB;refine On ?_ (tn [] [5] [1,4] (h:=λγ wv R K M hK=>by go_simp;go_at_call 42;exact AH (RA.out _ _ _ _ (M.rp 0 rfl) (M.rp 1 rfl) (M.arg gF)) M hK))
   refine On ?_ (mW [2] (h:=λγ wv K M hK=>ur));refine On ?_ eh;refine On ?_ (tn [] [4] [3] (h:=λγ wv R K M hK=>by go_simp;go_at_call 43;exact QE (vt [pt] (by simpa using hat.out) _ 1 _ _ (EQ (M.bl 0 rfl) (by rw[rep];exact⟨rfl,wa⟩)) dQ) M hK))
   exact On (On (On (On Oz (lL [0])) eh) (e_ [2] 3)) (kX [3])
  intro γ2 wv M;replace M:Mem _ _ _ _ [_,_,_,.bk _ _ _,.ow _ _ _,.ow _ _ _,.bk _ _ [_,_,_,_,_,_,_,_],_,_,_,_]:=M;refine ae ?_;rcases nD with ⟨mP,eR,er⟩|⟨rfl,uL,eR,er⟩|⟨rfl,uL,h2,k,x2,Cb,Md,eR,er⟩
  ·exact Gq
  ·subst Rh;subst r;have q4:(vv.kind==4)=true:=by simp [uL]
   clear uL;refine Ra M [0] ?_;refine ct ?_;refine Rb M [] (dV (ae ?_));refine Ra M [] ?_;refine ct (Sq ?_);refine Sb M [8] 2 ?_;refine Ss M 10 (λwv M=>?_);refine Sb M [] 1 (Sz (aO (fI (xt (fI ?_)))));refine kN results10 M 10 ?_;exact(M.sel [9] dQ).retTwo
  ·replace eR:=aa eR;subst r;have q4:(vv.kind==4)=false:=by simpa using uL
   have hkc:k<h2.cells.length:=(ay.1 Md).1;have j2:(0:Int)<=(k:Int):=dP;have j3:(k:Int)<(h2.cells.length:Int):=dP;replace Cb:=aa Cb;replace Md:=aa Md;clear uL;refine Ra M [0] ?_;refine gk (ae ?_);refine Ra M [] ?_;refine gk ?_;replace M:=M.up [9,9];replace M:=Mem.bxShut M;generalize J7.b=g at M ⊢;refine Sq (Sb M [3] 2 ?_);refine Ij M 1 (λ_=> .int .i64 (k:Nat)) (λ_=>[.bx (g) (Hp.toD h2) 28]) (λK Z hK=>by go_simp;go_at_call 44;exact M.heapCall (h':=h2) (λF HF _=>Cb.out g F _ HF) (λw' M'=>hK (mA 0) w' M')) (λmO wv M=>?_)
   refine Sb M [] 1 (Sz ?_);obtain⟨Il,M⟩:=M.bxOpen;obtain⟨Ahb,chb,Anb,cnb,Akb,csb,rfl,Bh,M⟩:=Mem.openHeap (h:=h2) (M.pull 1 rfl);replace M:=M.up [];obtain⟨gd,zK⟩:=(M.pull 0 rfl).some0 underlying24 dP;subst zK;obtain⟨Wn,WI,Wp,WK,WS,Y2,Wm,WH,Wo,WJ,Wq,TH,IP,xC,cab,cbb,g_,-,FN,L3,FO,FQ,M,pw⟩:=Mem.cellOut M Md.out;refine Sg (Sb M [11,18] 6 ?_);refine Sm M g_ (λwv M=>Sy ?_);obtain⟨-,-,-,-,-,-,-,-,-,-,-,wr1,-,-,-,-,-,wr2,wr3⟩:=d_ (M.rp 17 rfl);replace M:Mem _ _ _ _ [_,_,_,_,_,_,_,_,_,_,_,_,_,_,_,_]:=M.sel [17,0,6,7,8,9,10,11,12,13,14,15,16,18,19,20] dQ;replace M:=Mem.openVecL M;replace M:=M.up [5];replace M:=pw _ _ _ _ (⟨x2.count,rv,x2.parts⟩:Cel) _ _ _ _ _ _ _ _ _ _ _ _ _ _ _ _ _ _ FN wr1 wr2 wr3 M;replace M:=Mem.bxShut ((Mem.joinHeap (h:=(eG h2 k (⟨x2.count,rv,x2.parts⟩:Cel))) M Bh).pull 1 rfl);replace M:=M.up [];rw[<-eR.out]at M;refine fA (dV ?_);obtain⟨Il,M⟩:=M.bxOpen;obtain⟨Wi,Wu,Wk,Wv,Wj,Bu,rfl,uj,M⟩:=Mem.openHeap (h:=Rh) (M.pull 1 rfl);replace M:=M.up [];refine Sq (Sb M [3] 1 ?_);refine Ss M 11 (λwv M=>?_);refine Sb M [] 1 (Sz (aO ?_));refine kN results10 M 11 ?_;exact((M.sel [0,1,2] dQ).joinHeap (h:=Rh) uj).retTwo
theorem vZ (h:Hp) (nm fr:Str) (pt:Int) (v:Vec) (a b:Int) (Rh:Hp) (r:Str) (hz:szD h.toD<=4194304) (l7:fG h=true) (jP:h.names.length=h.slots.length) (UA:(h.names.length:Int)<=1073741824) (DS:∀x∈h.cells,x.value.parts=[]) (oU:je ⟨1,nm,fr,pt,v⟩=true) (gf:bigV v) (C5:ix h.names nm 0=a) (C6:ix h.names fr 0=b) (cs cx:List Value) (w:World) (oD:rep w w.heap.size h.toD cs) (fE:rep w w.heap.size (Hop.toD ⟨1,nm,fr,pt,v⟩) cx)
 (Uz:(h.names.length:Int)<=1073741824) (nD:(b<0/\Rh=h/\r=[110,97,109,101,32,110,111,116,32,102,111,117,110,100])\/∃(q j:Nat) (y:Cel),b=(q:Int)/\h.slots[q]?=some (j:Int)/\h.cells[j]?=some y/\(-1152921504606846976<=y.count/\y.count<=1152921504606846976)/\(j:Int)<=1073741824/\(hasN h nm=true->relOK 5 {(eG h j (gE y)) with slots:=h.slots.set (ix h.names nm 0).toNat (j:Int)} (slotD h nm))/\Rh=fd (eG h j (gE y)) nm (j:Int)/\r=[]):
 Calls prog 11 #[av cs,av cx] w (eH Rh.toD 28 (sv r) w):=by
 have jV:=aa l7;have gK:=aa jP;have rk:=aa DS;have wS:=aa oU;have lJ:=aa gf;have HA:=aa C5;have Tr:=aa C6;have hnl:=aa Uz;obtain⟨Ah,ch,An,cn,Ak,cs,rfl,rc,rn,ER,wc⟩:=gV oD;obtain⟨Ai,ci,Ap,cp,OL,O7,Ac,cc,Al,cl,rfl,wn,wf,wa,gF⟩:=gQ fE;clear l7 jP oU gf C5 C6 DS rc rn ER Uz;have M:Mem prog w [] w []:=Mem.start;go_enter func11,ntmps11;refine Sq (Sa M (λJ1 wv M=>?_));refine Sa M (λJ2 wv M=>?_);refine Sa M (λJ3 wv M=>?_);refine Sb M [] 1 (Sz (ae (Sq ?_)));refine Sb M [2] 1 ?_;refine Sc (aF (k9 h hz _ _ (M.arg oD)) ?_);rintro e w' ⟨rfl,hb⟩;rw[jV.out];replace M:=M.next hb;refine Sp ?_;refine Sb M [1] 3 ?_;refine Sc (aF (kZ _ _ _ (M.arg fE) lJ.out) ?_);rintro e w' ⟨rfl,hb⟩;rw[wS.out];replace M:=M.next hb;refine Sp ?_;refine Sb M [] 2 (Sz ?_);refine gk (Sq ?_);refine Sb M [2] 1 ?_;refine Sc (L6 (lF h hz rk.out _ _ (M.arg oD)) M λJ6 wv M=>Sp ?_);refine Sa M (λJ7 wv M=>?_);refine Ss M 0 (λwv M=>Sz ?_);replace M:=M.up [1];replace M:=Mem.openHeapL (h:=h) M;generalize J7.b=g at M ⊢;refine Sq (Sb M [3,5] 4 ?_);replace M:=M.up [1];refine Sc (aF (gG _ _ _ h.names nm _ (pd (M.rp 0 rfl)) eb) ?_);rintro e w' ⟨rfl,rfl⟩;rw[HA.out];refine Sp ?_;refine Sb M [] 1 (Sz (Sq ?_));refine Sb M [3,5] 4 ?_;refine Sc (aF (gG _ _ _ h.names fr _ (pd (M.rp 0 rfl)) eb) ?_);rintro e w' ⟨rfl,rfl⟩;rw[Tr.out];refine Sp ?_;refine Sb M [] 1 (Sz (ae ?_));refine Ra M [5] ?_;refine gk (ae ?_);rcases nD with ⟨hb,eR,er⟩|⟨q,j,y,rfl,ZH,hy,hcy,hj,HR,eR,er⟩
 ·subst Rh;subst r;have q1:decide (b<0)=true:=by simpa using hb
  clear hb;refine Ra M [5] ?_;refine ct (Sq ?_);refine Sb M [6] 1 ?_;refine Sc (L6 (lF h hz rk.out _ _ (M.arg oD)) M λmO wv M=>Sp ?_);refine Ss M 5 (λwv M=>?_);refine Sb M [] 1 (Sz (aO (fI ?_)));refine kN results11 M 5 ?_;exact(M.sel [0] dQ).retTwo
 ·subst Rh;subst r;have q1:decide ((q:Int)<0)=false:=dR;have ql:q<h.slots.length:=(ay.1 ZH).1;have q2:(0:Int)<=(q:Int):=dP;have q3:(q:Int)<(h.slots.length:Int):=dP;replace ZH:=aa ZH;have jl:j<h.cells.length:=(ay.1 hy).1;have j4:(0:Int)<=(j:Int):=dP;have j5:(j:Int)<(h.cells.length:Int):=dP;replace hy:=aa hy;have wj:(Lit.int .i64 (j:Int)).wf=true:=kP.2 fP;have wy1:(Lit.int .i64 (y.count+1)).wf=true:=kP.2 fP;replace HR:=aa HR;refine Ra M [5] ?_;refine gk (ae ?_);refine Ra M [5] ?_;refine gk ?_;obtain⟨gs,JA⟩:=(M.pull 2 rfl).some0 underlying26 dP;rw[JA]at M ⊢;clear JA;refine Sq (Sb M [3] 4 ?_);replace M:=M.up [2];refine So (.int .i64 (j:Nat)) (λK Z hK=>Gk) ?_;refine Sb M [] 1 (Sz (ae ?_));refine Ra M [5] ?_;refine ct ?_;obtain⟨gc,Nb⟩:=(M.pull 2 rfl).some0 underlying24 dP;rw[Nb]at M ⊢;clear Nb;replace M:=M.up [2];obtain⟨Ei,ui,Ep,up,Ex,ux,Ec,uc,El,ul,Ez,uz,pre,post,ca,cb,iZ,-,wx1,Qp,Qq,Qr,M,jO⟩:=Mem.cellOut M hy.out;refine mL (M.sel [0,11,1,2,3,4,5,6,7,8,9,10,12,13,14] dQ) [some 12,none] [.o g 0,.l 1 0,.i (j:Nat),.p 2,.p 2,.p 2,.o gc (j*10),.p 0,.i (y.count),.i ((y.count:Int)+1),.p 2,.p 0,.u] [.e 12 none (.c (.bk (gc) 43 (pre++([.int .i64 ((y.count:Int)+1),.int .i64 y.value.kind,.slice Ei y.value.items.length ui,.slice Ep y.value.parts.length up,.slice Ex y.value.names.length ux,.slice Ec y.value.cls.length uc,.slice El y.value.levels.length ul,.int .i64 y.value.code,.int .i64 y.value.env,.slice Ez y.parts.length uz]++post))))] [[],[1],[],[],[1],[],[],[],[0],[],[],[],[]] [] ?_ ?_
  ·exact Gu
  intro i7 wv M;replace M:Mem _ _ _ _ [_,.bk _ _ _,_,_,_,_,_,_,_,_,_,_,_,_,_]:=M;replace M:=M.up [9,9,9,9,9,9,9,9,9];replace M:=jO _ _ _ _ (gE y) _ _ _ _ _ _ _ _ _ _ _ _ _ _ _ _ _ _ wy1 Qp Qq Qr M;replace M:=M.up [2,3,2];replace M:=Mem.bxShut ((Mem.joinHeap (h:=(eG h j (gE y))) M wc).pull 1 rfl);replace M:=M.up [];refine Sq (Sb M [2] 3 ?_);refine Ij M 1 (λ_=> .tuple #[]) (λ_=>[.bx (g) (Hp.toD (fd (eG h j (gE y)) nm (j:Int))) 28]) (λK Z hK=>by go_simp;go_at_call 50;exact M.heapCall (λF HF _=>vC _ nm (j:Int) g F _ HF wn wj gK.out hnl.out HR.out) (λw' M'=>hK (mA 0) w' M')) (λL5 wv M=>Sz ?_)
  obtain⟨Il,M⟩:=M.bxOpen;obtain⟨Wi,Wu,Wk,Wv,Wj,Bu,rfl,uj,M⟩:=Mem.openHeap (h:=(fd (eG h j (gE y)) nm (j:Int))) (M.pull 1 rfl);replace M:=M.up [];refine Sq (Sb M [3] 1 ?_);refine Ss M 4 (λwv M=>?_);refine Sb M [] 1 (Sz (aO (fI ?_)));refine kN results11 M 4 ?_;exact((M.sel [0,1,2] dQ).joinHeap (h:=(fd (eG h j (gE y)) nm (j:Int))) uj).retTwo
end Go.Proofs.YtekcpadlmfaihaaGreat
