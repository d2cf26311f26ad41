/- Ea, Eb, Ec, Qd, Qe, Ed, Qg, Oph. -/
import Derived.Test.YtekcpadlmfaihaaGreatYPLs
import Derived.Test.YtekcpadlmfaihaaGreatYPLv
import Derived.Test.YtekcpadlmfaihaaGreatYPNd
import Derived.Test.YtekcpadlmfaihaaGreatYPNg
import Derived.Test.YtekcpadlmfaihaaGreatYPNj
namespace Go.Proofs.YtekcpadlmfaihaaGreat
open Go.RowKit Proofs.Tryz
set_option maxHeartbeats 8000000
set_option maxRecDepth 100000
set_option linter.unusedSimpArgs false
set_option linter.unusedVariables false
variable {c x2:Cel} {g h:Hp} {k p pt xk zk:Int} {y:Item} {R:List As} {E E':List Int} {X:List Nat} {cls ns xc xl xn:List Str} {cs cz:List Value} {its:List Vec} {B Ne Nn Np Ns cp i j n np q:Nat} {Ap:Option Addr} {nm s:Str} {α:Type} {T v x:Vec} {w w0:World}
def FP (h:Hp):Nat->Int->Prop
 |0,k=>0<(celD h k).count/\(celD h k).parts=[]
 |d+1,k=>0<(celD h k).count/\((celD h k).parts=[]\/((celD h k).value.kind=4/\(celD h k).parts.length<=40))/\∀p∈(celD h k).parts,FP h d p
theorem aao {d:Nat} (e:FP h d k):0<(celD h k).count:=by cases d<;>(rw[FP]at e;exact e.1)
theorem Kv {h:Hp}:∀{d:Nat} {k:Int},FP h d k↔lD h d k=true
 |0,k=>by rw[FP,lD];simp [nS]
 |d+1,k=>by
  rw[FP,lD];simp only[nS,ax,bX,aL,aV];constructor
  ·rintro⟨a,b,c⟩;refine⟨⟨a,?_⟩,λp hp=>Kv.1 (c p hp)⟩;rcases b with b|b
   ·left;rw[b];rfl
   ·right;exact⟨b,by omega⟩
  ·rintro⟨⟨a,b⟩,c⟩;refine⟨a,?_,λp hp=>Kv.2 (c p hp)⟩;rcases b with b|b
   ·left;exact aR.1 b
   ·right;exact b.1
theorem Y7 {h:Hp}:∀{d:Nat} {k:Int},FP h d k->FP h (d+1) k
 |0,k,e=>by rw[FP]at e;rw[FP];exact⟨e.1,.inl e.2,λp hp=>by rw[e.2]at hp;simp at hp⟩
 |d+1,k,e=>by rw[FP]at e;rw[FP];exact⟨e.1,e.2.1,λp hp=>Y7 (e.2.2 p hp)⟩
theorem OP {h:Hp}:∀{d:Nat} {k:Int},FP h d k->qU h d k
 |0,k,e=>by rw[FP]at e;rw[qU];exact⟨j7 e.1,e.2⟩
 |d+1,k,e=>by
  rw[FP]at e;rw[qU];refine⟨j7 e.1,?_,λp hp=>OP (e.2.2 p hp)⟩;rcases e.2.1 with b|b
  ·rw[b];simp
  ·exact b.2
structure EX (h:Hp) (E:List Int):Prop where
 c:∀k:Int,(celD h k).count=(((refs h).count k+E.count k:Nat):Int)
 v:∀k:Int,(celD h k).value.parts=[]
 z:∀k:Int,(celD h k).count=0->(celD h k).parts=[]/\(celD h k).value=zeroV
theorem EX.nn (X:EX h E) (k:Int):0<=(celD h k).count:=by rw[X.c k];omega
theorem EX.perm (X:EX h E) (hp:∀k,E.count k=E'.count k):EX h E':=⟨λk=>by rw[X.c k,hp k],X.v,X.z⟩
theorem VM (hp:p∈(celD h k).parts):p∈refs h:=by
 unfold celD at hp;split at hp
 ·cases hc:h.cells[k.toNat]? with
  |none=>rw[hc]at hp;simp at hp
  |some c=>
   rw[hc]at hp;exact bD _ (dM.2 ⟨c,aA hc,hp⟩)
 ·simp at hp
theorem EX.ref (X:EX h E) (hp:p∈refs h):0<(celD h p).count:=by rw[X.c p];have:=List.count_pos_iff.2 hp;omega
theorem EX.part (X:EX h E) (hp:p∈(celD h k).parts):0<(celD h p).count:=X.ref (VM hp)
theorem EX.slot (X:EX h E) (hp:p∈h.slots):0<(celD h p).count:=X.ref (bJ _ hp)
theorem EX.out (X:EX h E) (hp:p∈E):0<(celD h p).count:=by rw[X.c p];have:=List.count_pos_iff.2 hp;omega
theorem abL (h:Le v=true):v=zeroV:=by obtain⟨a,b,c,d,e,f,g,i⟩:=v;simp only[Le,aL,aR]at h;obtain⟨rfl,rfl,rfl,rfl,rfl,rfl,rfl,rfl⟩:=h;rfl
theorem EX.of (hk:fG h=true):EX h []:=by
 have hk':=hk;simp only[fG,ax,aL,aV]at hk';obtain⟨⟨⟨-,h3⟩,h4⟩,-⟩:=hk';have iU:∀k:Int,(celD h k).count=(((refs h).count k:Nat):Int)/\(celD h k).value.parts=[]/\((celD h k).count=0->(celD h k).parts=[]/\(celD h k).value=zeroV):=λk=>by
  by_cases hr:inR h k=true
  ·obtain⟨i,c,rfl,hil,hc,ld⟩:=kU hr;rw[ld];have h5:=iC.1 h4 i c hc;simp only[m9,ax,bX,aL]at h5;obtain⟨⟨a,b⟩,e⟩:=h5;rw[pM _ hil]at a;injection a with a;refine⟨a.symm,aR.1 b,λh0=>?_⟩;rcases e with e|e
   ·exact absurd h0 e
   ·exact⟨aR.1 e.1,abL e.2⟩
  ·have h0:celD h k=⟨0,zeroV,[]⟩:=by
    simp [inR]at hr;unfold celD;split
    ·next h0=>rw[b_ (by have:=hr h0;omega)];rfl
    ·rfl
   rw[h0];refine⟨?_,rfl,λ_=>⟨rfl,rfl⟩⟩;have:(refs h).count k=0:=List.count_eq_zero.2 λhm=>hr (h3 k hm);rw[this];rfl
 exact⟨λk=>by rw[(iU k).1];simp,λk=>(iU k).2.1,λk=>(iU k).2.2⟩
theorem QG:∀(l:List Cel) (i:Nat) (x:Cel) (k:Int) (hi:i<l.length),((l.set i x).flatMap (·.parts)).count k+(l[i].parts).count k=(l.flatMap (·.parts)).count k+x.parts.count k
 |[],i,x,k,hi=>by simp at hi
 |c::t,0,x,k,hi=>by simp only[a_,cB,bT,List.getElem_cons_zero];omega
 |c::t,i+1,x,k,hi=>by have:=QG t i x k (by simpa using hi);simp only[be,cB,bT,List.getElem_cons_succ];omega
theorem NR (hi:i<h.cells.length) (x:Cel) (k:Int):(refs (eG h i x)).count k+(celD h (i:Int)).parts.count k=(refs h).count k+x.parts.count k:=by have:=QG h.cells i x k hi;rw[iI (aw hi)];show (h.slots++(h.cells.set i x).flatMap _).count k+_=(h.slots++_).count k+_;rw[bT,bT];omega
theorem AO {x:Cel} (X:EX h E) (hi:i<h.cells.length) (hb:∀k:Int,(if k=(i:Int) then x.count - (celD h (i:Int)).count else 0)+(((celD h (i:Int)).parts.count k+E.count k:Nat):Int)=((x.parts.count k+E'.count k:Nat):Int))
 (hv:x.value.parts=[]) (hz:x.count=0->x.parts=[]/\x.value=zeroV):EX (eG h i x) E':=by
 refine⟨λk=>?_,λk=>?_,λk=>?_⟩
 ·have h1:=X.c k;have h2:=NR hi x k;have h3:=hb k;rw[fQ hi];by_cases hk:k=(i:Int)
  ·subst hk;rw[aN rfl]at h3 ⊢;omega
  ·rw[aH hk]at h3 ⊢;omega
 ·rw[fQ hi];split
  ·exact hv
  ·exact X.v k
 ·rw[fQ hi];split
  ·exact hz
  ·exact X.z k
theorem Te {h:Hp} {c:Cel} (hz:∀k:Int,(celD h k).count=0->(celD h k).parts=[]) (k:Int):(refs (gH h c).1).count k=(refs h).count k+c.parts.count k:=by
 unfold gH;cases hf:gy h.cells 0 with
 |some n=>
  obtain⟨j,c',e1,e2,e3⟩:=qV hf;have e4:n=j:=dP;subst e4;have hn:=(ay.1 e2).1;have h1:=NR hn c k;rw[hz (n:Int) (by rw[iI e2];exact e3)]at h1;simpa using h1
 |none=>
  show (h.slots++(h.cells++[c]).flatMap _).count k=(h.slots++_).count k+_;rw[cj,bT,bT,bT];simp;omega
theorem QI (X:EX h (c.parts++E)) (hc:c.count=1) (hv:c.value.parts=[]):EX (gH h c).1 ((gH h c).2::E):=by
 obtain⟨n,t1,t2,t3,t4,t5⟩:=qG h c;have tr:=λk=>Te (c:=c) (λk e=>(X.z k e).1) k;refine⟨λk=>?_,λk=>?_,λk=>?_⟩
 ·rw[t4,tr,t1,cX];have h1:=X.c k;rw[bT]at h1;by_cases hk:k=(n:Int)
  ·subst hk;rw[aN rfl,hc];simp;rw[t5]at h1;omega
  ·rw[aH hk,h1];have:((n:Int)==k)=false:=sf;rw[this];simp;omega
 ·rw[t4];split
  ·exact hv
  ·exact X.v k
 ·rw[t4];split
  ·intro h0;omega
  ·exact X.z k
theorem Uc:∀(f d:Nat) (h:Hp) (v:Vec) (E:List Int),okD d v=true->d<f->EX h E->EX (fL f h v).1 ((fL f h v).2::E)
 |0,d,h,v,E,_,hf,_=>by omega
 |f+1,d,h,v,E,hv,hf,X=>by
  have hp:=(n7 hv).1;have iU:∀(l:List Vec) (s:Hp × List Int),(∀p∈l,p∈v.parts)->EX s.1 (s.2++E)->EX (l.foldl (js (fL f)) s).1 ((l.foldl (js (fL f)) s).2++E):=by
   intro l
   induction l with
   |nil=>intro s _ Y;exact Y
   |cons p t ih=>
    intro s hl Y;rw[bC];refine ih _ (λq hq=>hl q (aP _ hq)) ?_;obtain⟨d',rfl,hd'⟩:=hp p (hl p aT);have Z:=Uc f d' s.1 p (s.2++E) hd' dP Y;refine Z.perm λk=>?_;show List.count k ((fL f s.1 p).2::(s.2++E))=List.count k ((s.2++[(fL f s.1 p).2])++E);simp only[cX,bT,List.count_nil];omega
  rw[fL];exact QI (iU v.parts (h,[]) (λp h=>h) X) rfl rfl
def KV (h g:Hp):Prop:=∀k:Int,(celD g k).count<=(celD h k).count/\(0<(celD g k).count->(celD g k).value=(celD h k).value/\(celD g k).parts=(celD h k).parts)
theorem KV.refl:KV h h:=λ_=>⟨Int.le_refl _,λ_=>⟨rfl,rfl⟩⟩
theorem KV.trans {h g f:Hp} (a:KV h g) (b:KV g f):KV h f:=λk=>by obtain⟨a1,a2⟩:=a k;obtain⟨b1,b2⟩:=b k;refine⟨by omega,λe=>?_⟩;obtain⟨b3,b4⟩:=b2 e;obtain⟨a3,a4⟩:=a2 dP;exact⟨b3.trans a3,b4.trans a4⟩
theorem Ph:∀(f d:Nat) (h:Hp) (y:Int) (E:List Int),qU h d y->d<f->EX h (y::E)->EX (iD f h y) E/\KV h (iD f h y)
 |0,d,h,y,E,_,hf,_=>by omega
 |f+1,d,h,y,E,hd,hf,X=>by
  have hin:inR h y=true:=wg;obtain⟨i,x,rfl,hil,hx,ld⟩:=kU hin;have hy:=X.out (p:=(i:Int)) aT;have hc:=X.c (i:Int);have rk:=X.v (i:Int);rw[ld]at hc hy rk;rw[iD,ld,aU];by_cases hp:0<x.count - 1
  ·rw[aN hp];refine⟨AO X hil (λk=>?_) rk (λe=>?_),λk=>?_⟩
   ·rw[ld];have e1:(KP x).parts=x.parts:=rfl;have e2:(KP x).count=x.count - 1:=rfl;rw[e1,e2,cX];by_cases hk:k=(i:Int)
    ·subst hk;simp;omega
    ·have:((i:Int)==k)=false:=sf;rw[aH hk,this];simp
   ·have e:x.count - 1=0:=e;omega
   ·rw[fQ hil];split
    ·next hk=>subst hk;rw[ld];exact⟨by show x.count - 1<=x.count;omega,λ_=>⟨rfl,rfl⟩⟩
    ·exact⟨Int.le_refl _,λ_=>⟨rfl,rfl⟩⟩
  ·rw[aH hp];have h1:x.count=1:=dP;have X1:EX (eG h i lf) (x.parts++E):=AO X hil (λk=>by
    rw[ld];have e1:lf.parts=[]:=rfl;have e2:lf.count=0:=rfl;rw[e1,e2,cX,bT];by_cases hk:k=(i:Int)
    ·subst hk;simp;omega
    ·have:((i:Int)==k)=false:=sf;rw[aH hk,this];simp) rfl (λ_=>⟨rfl,rfl⟩)
   have K1:KV h (eG h i lf):=λk=>by
    rw[fQ hil];split
    ·next hk=>subst hk;rw[ld];exact⟨by show (0:Int)<=x.count;omega,λe=>by have e:(0:Int)<0:=e;omega⟩
    ·exact⟨Int.le_refl _,λ_=>⟨rfl,rfl⟩⟩
   have l1:LessP h (eG h i lf):=qN hil (.inr rfl);have iU:∀(l:List Int) (g:Hp),(∀p∈l,∃d',d'<f/\qU g d' p)->EX g (l++E)->EX (l.foldl (iD f) g) E/\KV g (l.foldl (iD f) g):=by
    intro l
    induction l with
    |nil=>intro g _ Y;exact⟨Y,KV.refl⟩
    |cons p t ih=>
     intro g hl Y;obtain⟨d',hd',QO⟩:=hl p aT;obtain⟨r1,r2⟩:=Ph f d' g p (t++E) QO hd' Y;have r3:=(EM f d' g p QO hd').1;obtain⟨s1,s2⟩:=ih (iD f g p) (λq hq=>by obtain⟨d2,h2,h3⟩:=hl q (aP _ hq);exact⟨d2,h2,qJ r3 h3⟩) r1
     exact⟨s1,r2.trans s2⟩
   obtain⟨s1,s2⟩:=iU x.parts (eG h i lf) (λp Mb=>yA) X1;exact⟨s1,K1.trans s2⟩
theorem Dx {h g:Hp} {E:List Int} (K:KV h g) (X:EX g E):∀{d:Nat} {k:Int},FP h d k->0<(celD g k).count->FP g d k/\asm g d k=asm h d k
 |0,k,e,hu=>by obtain⟨a,b⟩:=(K k).2 hu;rw[FP]at e;rw[FP,asm,asm,b,a];exact⟨⟨hu,e.2⟩,rfl⟩
 |d+1,k,e,hu=>by obtain⟨a,b⟩:=(K k).2 hu;rw[FP]at e;have iU:∀p∈(celD h k).parts,FP g d p/\asm g d p=asm h d p:=λp hp=>Dx K X (e.2.2 p hp) (X.part (by rw[b];exact hp));rw[FP,asm,asm,b,a];refine⟨⟨hu,e.2.1,λp hp=>(iU p hp).1⟩,?_⟩;rw[cT λp hp=>(iU p hp).2]
def KU (h g:Hp):Prop:=∀k:Int,0<(celD h k).count->(celD g k).value=(celD h k).value/\(celD g k).parts=(celD h k).parts/\0<(celD g k).count
theorem KU.refl:KU h h:=λ_ e=>⟨rfl,rfl,e⟩
theorem KU.trans {h g f:Hp} (a:KU h g) (b:KU g f):KU h f:=λk e=>by obtain⟨a1,a2,a3⟩:=a k e;obtain⟨b1,b2,b3⟩:=b k a3;exact⟨b1.trans a1,b2.trans a2,b3⟩
theorem qX {h g:Hp} (K:KU h g):∀{d:Nat} {k:Int},FP h d k->FP g d k/\asm g d k=asm h d k
 |0,k,e=>by rw[FP]at e;obtain⟨a,b,c⟩:=K k e.1;rw[FP,asm,asm,b,a];exact⟨⟨c,e.2⟩,rfl⟩
 |d+1,k,e=>by rw[FP]at e;obtain⟨a,b,c⟩:=K k e.1;have iU:∀p∈(celD h k).parts,FP g d p/\asm g d p=asm h d p:=λp hp=>qX K (e.2.2 p hp);rw[FP,asm,asm,b,a];refine⟨⟨c,e.2.1,λp hp=>(iU p hp).1⟩,?_⟩;rw[cT λp hp=>(iU p hp).2]
def GD (h:Hp):Prop:=∀k:Int,0<(celD h k).count->FP h 3 k
theorem GD.kv (G:GD h) (K:KV h g) (X:EX g E):GD g:=λk hk=>(Dx K X (G k (by have:=(K k).1;omega)) hk).1
theorem CP (h:Hp) (c:Cel):KU h (gH h c).1:=λk e=>by obtain⟨n,_,_,_,h4,h5⟩:=qG h c;rw[h4 k,aH (by rintro rfl;omega)];exact⟨rfl,rfl,e⟩
theorem VG (f:Nat) (h:Hp) (v:Vec):KU h (fL f h v).1:=
 ED (λg=>KU h g) (λg c _ e=>e.trans (CP g c)) f h v KU.refl
theorem DV (X:EX h E) (hp:0<(celD h p).count):EX (incS h p) (p::E)/\KU h (incS h p):=by
 obtain⟨i,x,rfl,hil,hx,ld⟩:=kU (j7 hp);unfold incS;rw[aU,ld];rw[ld]at hp;have rk:=X.v (i:Int);rw[ld]at rk;refine⟨AO X hil (λk=>?_) rk (λe=>?_),λk e=>?_⟩
 ·rw[ld];have e1:(gE x).parts=x.parts:=rfl;have e2:(gE x).count=x.count+1:=rfl;rw[e1,e2,cX];by_cases hk:k=(i:Int)
  ·subst hk;simp;omega
  ·have:((i:Int)==k)=false:=sf;rw[aH hk,this];simp
 ·have e:x.count+1=0:=e;omega
 ·rw[fQ hil];split
  ·next hk=>subst hk;rw[ld];exact⟨rfl,rfl,by show 0<x.count+1;omega⟩
  ·exact⟨rfl,rfl,e⟩
theorem PE (X:EX h E) (hp:0<(celD h p).count) (G:GD h):GD (incS h p):=λk hk=>by
 obtain⟨i,x,rfl,hil,hx,ld⟩:=kU (j7 hp);refine(qX (DV X hp).2 (G k ?_)).1;unfold incS at hk;rw[aU,fQ hil]at hk;split at hk
 ·next e=>rw[e];exact hp
 ·exact hk
theorem QW:∀(l:List Int) (h:Hp) (E:List Int),EX h E->(∀p∈l,0<(celD h p).count)->EX (l.foldl incS h) (l++E)/\KU h (l.foldl incS h)
 |[],h,E,X,_=>⟨X,KU.refl⟩
 |p::t,h,E,X,hl=>by obtain⟨a,b⟩:=DV X (hl p aT);obtain⟨c,d⟩:=QW t (incS h p) (p::E) a λq hq=>(b q (hl q (aP _ hq))).2.2;rw[bC];refine⟨c.perm λk=>?_,b.trans d⟩;simp only[bT,cX,cK];omega
theorem QV:∀(l:List Int) (h:Hp) (E:List Int),EX h E->(∀p∈l,0<(celD h p).count)->GD h->GD (l.foldl incS h)
 |[],h,E,X,_,G=>G
 |p::t,h,E,X,hl,G=>by have hp:=hl p aT;obtain⟨a,b⟩:=DV X hp;rw[bC];exact QV t (incS h p) (p::E) a (λq hq=>(b q (hl q (aP _ hq))).2.2) (PE X hp G)
theorem Rs (G:GD h) (hf:FP (gH h c).1 3 (gH h c).2):GD (gH h c).1:=λk hk=>by
 obtain⟨n,t1,t2,t3,t4,t5⟩:=qG h c;by_cases e:k=(n:Int)
 ·rw[e,<-t1];exact hf
 ·rw[t4,aH e]at hk;exact(qX (CP h c) (G k hk)).1
theorem Dr:∀(l:List Int) (i:Nat) (x k:Int) (hi:i<l.length),(l.set i x).count k+[l[i]].count k=l.count k+[x].count k
 |[],i,x,k,hi=>by simp at hi
 |c::t,0,x,k,hi=>by simp only[a_,cX,List.getElem_cons_zero,List.count_nil];omega
 |c::t,i+1,x,k,hi=>by have:=Dr t i x k (by simpa using hi);simp only[be,cX,List.getElem_cons_succ,List.count_nil]at this ⊢;omega
theorem Xo (hl:h.names.length=h.slots.length) (X:EX h (k::E)) (hd:∀y∈h.slots,FP h 3 y):
 EX (fd h s k) E/\KV h (fd h s k)/\(fd h s k).copies=h.copies/\((∃p:Nat,ix h.names s 0=(p:Int)/\p<h.slots.length/\(fd h s k).names=h.names/\(fd h s k).slots=h.slots.set p k)\/(ix h.names s 0<0/\(fd h s k).names=h.names++[s]/\(fd h s k).slots=h.slots++[k])):=by
 unfold fd;by_cases hi:0<=ix h.names s 0
 ·rw[aN hi];obtain⟨p,hp⟩:=bQ hi;have hg:=(pY h.names s 0).2;have mD:p<h.slots.length:=dP;have hs:slotD h s=h.slots[p]:=wi;rw[hp,aU,hs];have X2:EX {h with slots:=h.slots.set p k} (h.slots[p]::E):=by refine⟨λj=>?_,X.v,X.z⟩;have h1:=X.c j;have h2:=Dr h.slots p k j mD;show (celD h j).count=(((h.slots.set p k++h.cells.flatMap (·.parts)).count j+(h.slots[p]::E).count j:Nat):Int);rw[h1];show (((h.slots++h.cells.flatMap (·.parts)).count j+(k::E).count j:Nat):Int)=_;simp only[bT,cX,List.count_nil]at h2 ⊢;omega
  have hfp:=hd _ (dA mD);have QO:qU {h with slots:=h.slots.set p k} 3 h.slots[p]:=qJ (h:=h) ⟨rfl,λ_=> .inl rfl⟩ (OP hfp);obtain⟨r1,r2⟩:=Ph 5 3 _ _ E QO dP X2;obtain⟨n1,n2,n3⟩:=ug 5 {h with slots:=h.slots.set p k} h.slots[p];exact⟨r1,r2,n3,.inl ⟨p,rfl,mD,n1,n2⟩⟩
 ·rw[aH hi];refine⟨⟨λj=>?_,X.v,X.z⟩,KV.refl,rfl,.inr ⟨by omega,rfl,rfl⟩⟩;have h1:=X.c j;show (celD h j).count=((((h.slots++[k])++h.cells.flatMap (·.parts)).count j+E.count j:Nat):Int);rw[h1];show (((h.slots++h.cells.flatMap (·.parts)).count j+(k::E).count j:Nat):Int)=_;simp only[bT,cX,List.count_nil];omega
theorem qE (h:v.parts=[]):noParts v=v:=by obtain⟨a,b,c,d,e,f,g,i⟩:=v;simp only at h;subst h;rfl
theorem Ki {l:List Vec} (h:v.parts=l):{noParts v with parts:=l}=v:=by obtain⟨a,b,c,d,e,f,g,i⟩:=v;simp only at h;subst h;rfl
theorem Pl:∀(f d:Nat) (h:Hp) (v:Vec),okD d v=true->d<f->FP (fL f h v).1 d (fL f h v).2/\asm (fL f h v).1 d (fL f h v).2=v
 |0,d,h,v,_,hf=>by omega
 |f+1,d,h,v,hv,hf=>by
  obtain⟨hp,hp40⟩:=n7 hv;have F:=FV.of (jB hv);have iU:∀(d':Nat) (l:List Vec) (s:Hp × List Int) (dn:List Vec),(∀p∈l,okD d' p=true)->d'<f->(∀k∈s.2,FP s.1 d' k)->s.2.map (asm s.1 d')=dn->
   (∀k∈(l.foldl (js (fL f)) s).2,FP (l.foldl (js (fL f)) s).1 d' k)/\(l.foldl (js (fL f)) s).2.map (asm (l.foldl (js (fL f)) s).1 d')=dn++l:=by
   intro d' l
   induction l with
   |nil=>intro s dn _ _ a b;exact⟨a,by simpa using b⟩
   |cons p t ih=>
    intro s dn hl hd a b;obtain⟨q1,q2⟩:=Pl f d' s.1 p (hl p aT) hd;have K:=VG f s.1 p;rw[bC];obtain⟨i1,i2⟩:=ih (js (fL f) s p) (dn++[p]) (λq hq=>hl q (aP _ hq)) hd (λk hk=>by
     rcases aG.1 (show k∈s.2++[(fL f s.1 p).2] from hk) with hk|hk
     ·exact(qX K (a k hk)).1
     ·obtain rfl:k=(fL f s.1 p).2:=jg;exact q1) (by
     show (s.2++[(fL f s.1 p).2]).map (asm (fL f s.1 p).1 d')=dn++[p];rw[aI,br,bL,q2,<-b,cT λk hk=>(qX K (a k hk)).2])
    exact⟨i1,by rw[i2];simp⟩
  rw[fL];cases d with
  |zero=>
   have hz:v.parts=[]:=by rw[okD]at hv;simp only[ax,dh]at hv;exact hv.2
   rw[hz,dK];obtain⟨n,t1,t2,t3,t4,t5⟩:=qG h ⟨1,noParts v,[]⟩;have hn:celD (gH h ⟨1,noParts v,[]⟩).1 (n:Int)=⟨1,noParts v,[]⟩:=by rw[t4,aN rfl]
   simp only;rw[t1,FP,asm,hn];exact⟨⟨by show (0:Int)<1;omega,rfl⟩,Ki hz⟩
  |succ d=>
   obtain⟨k1,k2⟩:=iU d v.parts (h,[]) [] (λp Mb=>by obtain⟨d',e,hd'⟩:=hp p Mb;obtain rfl:d=d':=dP;exact hd') dP dR rfl;generalize v.parts.foldl (js (fL f)) (h,[])=s at k1 k2;rw[cJ]at k2;obtain⟨n,t1,t2,t3,t4,t5⟩:=qG s.1 ⟨1,noParts v,s.2⟩;have hn:celD (gH s.1 ⟨1,noParts v,s.2⟩).1 (n:Int)=⟨1,noParts v,s.2⟩:=by rw[t4,aN rfl]
   have K:=CP s.1 ⟨1,noParts v,s.2⟩;have gK:s.2.length=v.parts.length:=by rw[<-k2,au]
   rw[t1,FP,asm,hn];refine⟨⟨by show (0:Int)<1;omega,?_,λp Mb=>(qX K (k1 p Mb)).1⟩,?_⟩
   ·by_cases hz:s.2=[]
    ·exact .inl hz
    ·refine .inr ⟨F.np ?_,by show s.2.length<=40;omega⟩;have:0<s.2.length:=List.length_pos_iff.2 hz;omega
   ·refine Ki ?_;show v.parts=s.2.map (asm _ d);rw[cT λk hk=>(qX K (k1 k hk)).2,k2]
theorem VF:∀(f d:Nat) (h:Hp) (v:Vec),okD d v=true->d<f->d<=3->GD h->GD (fL f h v).1
 |0,d,h,v,_,hf,_,_=>by omega
 |f+1,d,h,v,hv,hf,h3,G=>by
  have hp:=(n7 hv).1;have iU:∀(l:List Vec) (s:Hp × List Int),(∀p∈l,p∈v.parts)->GD s.1->GD (l.foldl (js (fL f)) s).1:=by
   intro l
   induction l with
   |nil=>intro s _ Y;exact Y
   |cons p t ih=>
    intro s hl Y;rw[bC];obtain⟨d',e,hd'⟩:=hp p (hl p aT);exact ih _ (λq hq=>hl q (aP _ hq)) (VF f d' s.1 p hd' dP dP Y)
  have hf1:=(Pl (f+1) d h v hv hf).1;have up:∀(e:Nat),d+e=3->FP (fL (f+1) h v).1 3 (fL (f+1) h v).2:=by
   have:∀e,FP (fL (f+1) h v).1 (d+e) (fL (f+1) h v).2:=λe=>by
    induction e with
    |zero=>exact hf1
    |succ e ih=>exact Y7 ih
   intro e he;rw[<-he];exact this e
  have h4:=up (3 - d) dP;rw[fL]at h4 ⊢;exact Rs (iU v.parts (h,[]) (λp h=>h) G) h4
structure SL (h:Hp):Prop where
 l:h.names.length=h.slots.length
 n:∀(i:Nat) (s:Str),h.names[i]?=some s->isNm s=true/\(h.names.take i).contains s=false
 f:∀y∈h.slots,FP h 3 y/\isVec (asm h 3 y)=true
theorem SL.of (hk:fG h=true):SL h:=by
 obtain⟨h1,h2,h3⟩:=jc hk;refine⟨h1,λi s hs=>?_,λy hy=>?_⟩
 ·have h4:=iC.1 h3 i s hs;simp only[s7,ax,cQ]at h4;exact h4.1.1
 ·obtain⟨i,hi⟩:=dB.1 hy;have hil:=(ay.1 hi).1;have h4:=iC.1 h3 i _ (aw (by omega:i<h.names.length));simp only[hi,bV,s7,ax]at h4;exact⟨Kv.2 h4.1.2,h4.2⟩
theorem UU:Le zeroV=true:=by simp [Le,zeroV]
theorem rj (X:EX h []) (S:SL h) (hc:0<=h.copies):fG h=true:=by
 refine DF S.l hc ?_ ?_ ?_
 ·rw[aV];exact λk hk=>j7 (X.ref hk)
 ·refine iC.2 λi c hi=>?_;have hil:=(ay.1 hi).1;have h1:=X.c (i:Int);have h2:=X.v (i:Int);have h3:=X.z (i:Int);rw[iI hi]at h1 h2 h3;simp only[m9,ax,bX,aL];refine⟨⟨by rw[pM _ hil,h1];simp,by rw[h2];rfl⟩,?_⟩;by_cases h0:c.count=0
  ·obtain⟨a,b⟩:=h3 h0;exact .inr ⟨by rw[a];rfl,by rw[b];exact UU⟩
  ·exact .inl h0
 ·refine iC.2 λi s hi=>?_;have hil:=(ay.1 hi).1;have hl:=S.l;have e:h.slots[i]?=some h.slots[i]:=aw dP;obtain⟨a,b⟩:=S.n i s hi;obtain⟨c,d⟩:=S.f h.slots[i] (dA _);rw[e,bV];simp only[s7,ax,cQ];exact⟨⟨⟨a,b⟩,Kv.1 c⟩,d⟩
theorem SL.ku (S:SL h) (K:KU h g) (e1:g.names=h.names) (e2:g.slots=h.slots):SL g:=by refine⟨by rw[e1,e2];exact S.l,λi s=>by rw[e1];exact S.n i s,λy hy=>?_⟩;rw[e2]at hy;obtain⟨a,b⟩:=S.f y hy;obtain⟨c,d⟩:=qX K a;exact⟨c,by rw[d];exact b⟩
theorem LF (S:SL h) (X:EX h (k::E)) (hs:isNm s=true) (hf:FP h 3 k) (hv:isVec (asm h 3 k)=true):
 EX (fd h s k) E/\SL (fd h s k)/\KV h (fd h s k)/\(fd h s k).copies=h.copies/\((∃p:Nat,ix h.names s 0=(p:Int)/\p<h.slots.length/\(fd h s k).names=h.names/\(fd h s k).slots=h.slots.set p k)\/(ix h.names s 0<0/\(fd h s k).names=h.names++[s]/\(fd h s k).slots=h.slots++[k])):=by
 obtain⟨b1,b2,b3,b4⟩:=Xo S.l X (λy hy=>(S.f y hy).1);have hm:∀y∈(fd h s k).slots,y=k\/y∈h.slots:=λy hy=>by
  rcases b4 with ⟨p,-,-,-,e⟩|⟨-,-,e⟩
  ·rw[e]at hy;rcases List.mem_or_eq_of_mem_set hy with h1|h1
   ·exact .inr h1
   ·exact .inl h1
  ·rw[e]at hy;rcases aG.1 hy with h1|h1
   ·exact .inr h1
   ·exact .inl mt
 refine⟨b1,⟨?_,λi t ht=>?_,λy hy=>?_⟩,b2,b3,b4⟩
 ·have:=S.l;rcases b4 with ⟨p,-,-,e,e'⟩|⟨-,e,e'⟩<;>(rw[e,e'];simp;omega)
 ·rcases b4 with ⟨p,-,-,e,e'⟩|⟨hi,e,e'⟩
  ·rw[e]at ht ⊢;exact S.n i t ht
  ·rw[e]at ht ⊢;by_cases hil:i<h.names.length
   ·rw[cY hil]at ht;rw[List.take_append_of_le_length dP];exact S.n i t ht
   ·have hie:i=h.names.length:=by have:=(ay.1 ht).1;simp at this;omega
    subst hie;simp at ht;subst ht;refine⟨hs,?_⟩;rw[List.take_append_of_le_length (af _),cC,<-UW h.names s 0];simp;omega
 ·have hu:=b1.slot hy;rcases hm y hy with rfl|h1
  ·obtain⟨c,d⟩:=Dx b2 b1 hf hu;exact⟨c,by rw[d];exact hv⟩
  ·obtain⟨a,b⟩:=S.f y h1;obtain⟨c,d⟩:=Dx b2 b1 a hu;exact⟨c,by rw[d];exact b⟩
theorem RY (X:EX h E) (c:Int):EX {h with copies:=c} E:=⟨X.c,X.v,X.z⟩
theorem nY {h:Hp} (c:Int):∀{d:Nat} {k:Int},(FP {h with copies:=c} d k↔FP h d k)/\asm {h with copies:=c} d k=asm h d k
 |0,k=>⟨Iff.rfl,rfl⟩
 |d+1,k=>by
  have e:asm {h with copies:=c} d=asm h d:=funext λj=>(nY c).2;have e2:∀j,FP {h with copies:=c} d j↔FP h d j:=λj=>(nY c).1;rw[FP,FP,asm,asm,e];refine⟨?_,rfl⟩;constructor
  ·rintro⟨a,b,q⟩;exact⟨a,b,λp hp=>(e2 p).1 (q p hp)⟩
  ·rintro⟨a,b,q⟩;exact⟨a,b,λp hp=>(e2 p).2 (q p hp)⟩
theorem R2 (G:GD h) (c:Int):GD {h with copies:=c}:=λk hk=>(nY c).1.2 (G k hk)
theorem S8 (S:SL h) (c:Int):SL {h with copies:=c}:=⟨S.l,S.n,λy hy=>by obtain⟨a,b⟩:=S.f y hy;exact⟨(nY c).1.2 a,by rw[(nY c).2];exact b⟩⟩
theorem MC {x:Item} (h:itemOK k x=true):x.den=0↔eI x=true:=by
 constructor
 ·intro h0;unfold itemOK at h;rw[bX]at h;rcases h with h|h
  ·exact h
  ·split at h
   ·simp only[ax,beq_iff_eq]at h;omega
   ·split at h
    ·have:=vw h;omega
    ·split at h
     ·simp only[ax,beq_iff_eq]at h;omega
     ·cases h
 ·intro h0;obtain rfl:x=⟨0,0,[]⟩:=by simpa [eI]using h0
  rfl
theorem TW {frm:Int} {x:Item}:eI (gI frm k x)=true↔eI x=true:=by
 unfold gI;split
 ·exact Iff.rfl
 ·next hc=>
  have hm:¬eI x=true:=λe=>hc (.inl e);split
  ·simp [eI,sN]at hm ⊢;exact hm
  ·split<;>(simp [eI,sN]at hm ⊢;exact hm)
theorem abS {l:List Str} (h:∀x∈l,x.length<=60) (k:Nat):(ZT l k).length<=60:=by
 unfold ZT;cases hx:l[k]? with
 |none=>simp
 |some t=>exact h t (aA hx)
theorem xX (hx:isVec ⟨xk,[y],[],xn,xc,xl,0,0⟩=true) (h1:1<=xk) (h3:xk<=3):
 ∃(pk:Int) (py:Item),(1<=pk/\pk<=3)/\itemOK pk py=true/\SU ⟨xk,[y],[],xn,xc,xl,0,0⟩=⟨pk,[py],[],[],[],[],0,0⟩/\
  (∀(cx:List Value) (w:World),rep w w.heap.size (Vec.toD ⟨xk,[y],[],xn,xc,xl,0,0⟩) cx->Calls prog 109 #[av cx] w (gM (Vec.toD ⟨pk,[py],[],[],[],[],0,0⟩) 38 w))/\
  (∀(cx:List Value) (w:World),rep w w.heap.size (Vec.toD ⟨xk,[y],[],xn,xc,xl,0,0⟩) cx->Calls prog 121 #[av cx] w (gM (Vec.toD ⟨pk,[py],[],[],[],[],0,0⟩) 38 w)):=by
 have F:=jf hx;obtain⟨m1,m2,m3,m4,m5,m6⟩:=FV.more (jB (i6 hx).1);have hy:itemOK xk y=true:=F.it y dR;have ZM:=rU hy;have hz:szD (Vec.toD ⟨xk,[y],[],xn,xc,xl,0,0⟩)<=500000000000:=by have:=vz hx;omega
 have kQ:xl.length<=20:=F.lev.1;have ahp:∀s∈xl,s.length<=60:=F.lev.2;have ht:=abS ahp (y.num - 1).toNat;have htm:(ZT xl (y.num - 1).toNat).length<=maxLen:=eb;have hL:0<xl.length->eI y=false->∃q:Nat,y.num=(q:Int)+1/\xl[q]?=some (ZT xl (y.num - 1).toNat):=λh0 hm=>by
  have h6:xl.length=0\/eI y=true\/(y.den=1/\1<=y.num/\y.num<=xl.length):=m6 y dR;rcases h6 with h|h|h
  ·omega
  ·rw[h]at hm;cases hm
  ·refine⟨(y.num - 1).toNat,by omega,?_⟩;unfold ZT;rw[aw dP];rfl
 obtain⟨pk,py,Ma,Sn,e⟩:∃(pk:Int) (py:Item),(1<=pk/\pk<=3)/\itemOK pk py=true/\SU ⟨xk,[y],[],xn,xc,xl,0,0⟩=⟨pk,[py],[],[],[],[],0,0⟩:=by
  by_cases hl:xl=[]
  ·exact⟨xk,y,⟨h1,h3⟩,hy,by unfold SU;rw[aN hl]⟩
  ·refine⟨3,if eI y then y else sN (ZT xl (y.num - 1).toNat),by omega,?_,by unfold SU;rw[aH hl];rfl⟩;split
   ·next hm=>simp [itemOK,hm]
   ·exact DZ ht
 refine⟨pk,py,Ma,Sn,e,λcx w hr=>?_,λcx w hr=>?_⟩
 ·have:=abZ xk y xn xc xl _ htm dP hL cx w hr hz;rw[e]at this;exact this
 ·have:=Vd xk y xn xc xl _ htm dP ZM (λ_=>MC hy) hL cx w hr;rw[e]at this;exact this
theorem O8 (hx:isVec ⟨xk,[y],[],xn,xc,xl,0,0⟩=true) (h1:1<=xk) (h3:xk<=3) (lv:List Str) (hlb:lv.length<=20):
 ∃ly:Item,itemOK 2 ly=true/\
  (∀(A:Option Addr) (c:Nat) (cx:List Value) (w:World),rep w w.heap.size (Vec.toD ⟨xk,[y],[],xn,xc,xl,0,0⟩) cx->rep w w.heap.size (.sl (lv.map .s)) [.slice A lv.length c]->Calls prog 108 #[av cx,.slice A lv.length c] w (gM (Vec.toD ⟨2,[ly],[],[],[],[],0,0⟩) 38 w))/\
  (∀(A:Option Addr) (c:Nat) (cx:List Value) (w:World),rep w w.heap.size (Vec.toD ⟨xk,[y],[],xn,xc,xl,0,0⟩) cx->rep w w.heap.size (.sl (lv.map .s)) [.slice A lv.length c]->Calls prog 120 #[av cx,.slice A lv.length c] w (gM (Vec.toD ⟨2,[ly],[],[],[],[],0,0⟩) 38 w)):=by
 obtain⟨pk,py,Ma,Sn,e,PI,PS⟩:=xX hx h1 h3;have hy3:=JG Sn Ma.1 Ma.2 (Int.le_refl 3);have hlc:PM lv pk py=Eh lv (gI pk 3 py):=by
  unfold PM Eh;rw[Dh py Ma.1 Ma.2 (Int.le_refl 3)];have:(py.den=0\/ix lv (gI pk 3 py).text 0<0)↔(eI (gI pk 3 py)=true\/ix lv (gI pk 3 py).text 0<0):=by rw[MC Sn,TW]
  by_cases h:eI (gI pk 3 py)=true\/ix lv (gI pk 3 py).text 0<0
  ·rw[aN (this.2 h),aN h]
  ·rw[aH (λq=>h (this.1 q)),aH h]
 refine⟨Eh lv (gI pk 3 py),?_,λA c cx w hr hl=>?_,λA c cx w hr hl=>?_⟩
 ·unfold Eh;split
  ·simp [itemOK,eI]
  ·next h=>
   have:=(pY lv (gI pk 3 py).text 0).2;have hn:=JE (y:=ix lv (gI pk 3 py).text 0+1) dP dP;unfold itemOK;rw[aH dQ,aN rfl,hn,Bool.or_true]
 ·refine RI xk y (gI pk 3 py) xn xc xl lv A c cx w hr (λcx w hr=>?_) hl dP;exact V1 xk pk y py xn xc xl cx w hr e (λcx w hr=>by rw[e];exact PI cx w hr) dP Ma.2 (rU hy3)
 ·have:=SE xk pk y py xn xc xl lv A c cx w hr PS (λh=>QX (by rw[<-h];exact Sn)) hl dP;rw[hlc]at this;exact this
theorem Bt (hv:isVec v=true) (h0:v.kind<=k) (hk:k<=3):isVec ⟨k,v.items.map (gI v.kind k),[],v.names,[],[],0,0⟩=true/\(∀x∈v.items,itemOK k (gI v.kind k x)=true)/\
 ∀(cs:List Value) (w:World),rep w w.heap.size v.toD cs->Calls prog 122 #[av cs,k] w (eH (Vec.toD ⟨k,v.items.map (gI v.kind k),[],v.names,[],[],0,0⟩) 38 (.bool true) w):=by
 have F:=jf hv;obtain⟨m1,m2,m3,m4,m5,m6⟩:=FV.more (jB (i6 hv).1);have hk1:∀x∈v.items,1<=v.kind:=λx hx=>by have:=F.ni (List.length_pos_of_mem hx);unfold atomK at this;have:=cD this;exact this.1
 have hp:v.parts.length=0:=by
  rcases bz v.parts.length with e|e
  ·exact e
  ·have:=F.np e;omega
 have hi:∀x∈v.items,itemOK k (gI v.kind k x)=true:=λx hx=>JG (F.it x hx) (hk1 x hx) h0 hk;have hm:v.items.map (sI v.kind k)=v.items.map (gI v.kind k):=cT (λx hx=>Dh x (hk1 x hx) h0 hk);have hc:isVec ⟨k,v.items.map (gI v.kind k),[],v.names,[],[],0,0⟩=true:=by
  refine DW ⟨by have:=F.kind.1;omega,hk⟩ (λh=>?_) (by have:=F.len;simp;omega) ⟨?_,F.names⟩ (λx hx=>?_)
  ·have h:0<v.items.length:=lj;have:=hk1 _ (dA h);omega
  ·rcases m2 with e|⟨e,e'⟩
   ·exact .inl e
   ·refine .inr ⟨?_,e'⟩;rw[e];unfold lenV;rw[aH dP,hp];simp
  ·obtain⟨z,hz,rfl⟩:=List.mem_map.1 hx;exact hi z hz
 refine⟨hc,hi,λcs w hr=>?_⟩;have:=Xg v k cs w hr (by have:=F.len;omega) (pB F) F.kind.1 h0 dP (λx hx=>by rw[Dh x (hk1 x hx) h0 hk];exact rU (hi x hx)) (λx hx h=>QX (by rw[<-h];exact F.it x hx)) hv (eC hv) (by rw[hm];exact hc) (by rw[hm];exact eC hc);rw[hm]at this;exact this
theorem KX (h:(kG T).2=[]):isVec T=true/\(kG T).1=T:=by
 unfold kG at h ⊢;split
 ·next e=>exact⟨e,rfl⟩
 ·next e=>rw[aH e]at h;cases h
theorem LN (h:VB v B):VB (gZ v) B:=by
 unfold gZ;split
 ·exact⟨h.i,h.p,⟨by simp,by simp⟩,h.c,h.l⟩
 ·exact h
theorem Bf (v:Vec):(gZ v).kind=v.kind:=by unfold gZ;split<;>rfl
theorem uf {l:List α} {d y z:α} (h:z∈(eY l n d).set q y):z∈l\/z=d\/z=y:=by
 rcases List.mem_or_eq_of_mem_set h with h|h
 ·unfold eY at h;rcases aG.1 h with h|h
  ·exact .inl h
  ·exact .inr (.inl (List.eq_of_mem_replicate h))
 ·exact .inr (.inr h)
theorem ue {l:List α} {d y:α} (hl:l.length<=40) (hq:q<40):((eY l (q+1) d).set q y).length<=40:=by rw[da];unfold eY;simp;omega
theorem QJ {l:List Str} (hl:l.length<=40) (hq:q<40) (h:∀x∈l,x.length<=60):(gS l (q+1)).length<=41/\∀x∈gS l (q+1),x.length<=60:=by
 unfold gS;split
 ·simp
 ·unfold eY;refine⟨by simp;omega,λx hx=>?_⟩;rcases aG.1 hx with h1|h1
  ·exact h x h1
  ·rw[List.eq_of_mem_replicate h1];simp
theorem VB.big (h:VB v 740880000):bigV v:=by have:=h.sz;unfold bigV;omega
def wH (v x:Vec) (pt:Int) (rv:Vec) (rs:Str):Prop:=
 (∀(cv cs cx:List Value) (W:World),rep W W.heap.size v.toD cv->rep W W.heap.size (nU [pt]).toD cs->rep W W.heap.size x.toD cx->Calls prog 42 #[av cv,av cs,av cx] W (eH rv.toD 38 (sv rs) W))/\
 (∀(cv cs cx:List Value) (W:World),rep W W.heap.size v.toD cv->rep W W.heap.size (nU [pt]).toD cs->rep W W.heap.size x.toD cx->Calls prog 52 #[av cv,av cs,av cx] W (eH rv.toD 38 (sv rs) W))
theorem N9 (hv:isVec v=true) (hx:isVec ⟨xk,[y],[],xn,xc,xl,0,0⟩=true) (h1:1<=xk) (h3:xk<=3) (hq:q<40) (h4:v.kind=4):
 ∃T:Vec,T.kind=4/\wH v ⟨xk,[y],[],xn,xc,xl,0,0⟩ ((q+1:Nat):Int) (kG T).1 (kG T).2:=by
 have F:=jf hv;obtain⟨m1,m2,m3,m4,m5,m6⟩:=FV.more (jB (i6 hv).1);obtain⟨OC,hvb⟩:=rm hv h4;have Uu:v.items=[]:=by rw[OC]
 have kQ:v.levels=[]:=by rw[OC]
 have gK:=F.len;have hnn:=pB F;have hn5:¬v.kind=5:=dP;have ZB:lenV v=v.parts.length:=by unfold lenV;rw[aH hn5,Uu];simp
 have hnm:v.names=[]\/v.names.length=v.parts.length:=by
  rcases m2 with e|⟨e,e'⟩
  ·exact .inl (aR.1 e)
  ·exact .inr (by rw[e,ZB])
 have UC:=(i6 hv).1;have xy:∀z∈v.parts,okD 3 z=true/\szD z.toD<=740880000:=λz hz=>by have h:=UC;rw[okD]at h;simp only[ax,aV]at h;have h2:=Ew (h.2 z hz);exact⟨h2,AZ h2⟩
 obtain⟨pk,py,Ma,Sn,e,PI,PS⟩:=xX hx h1 h3;have hone:=JF Ma.1 Ma.2 Sn;have hwr:=PF Ma.1 Ma.2 Sn;have h1o:okD 3 (qw pk py)=true:=Ev dP (λ_=>Ma.1) dR dR (by simpa using Sn);have h1s:szD (qw pk py).toD<=740880000:=AZ h1o;have abA:VB (EE v.parts v.names v.cls v.levels q (qw pk py)) 740880000:=by
  refine⟨by simp [EE],⟨?_,λz hz=>?_⟩,QJ hnn hq F.names,⟨by have:=F.cls.1;show v.cls.length<=40;omega,F.cls.2⟩,⟨by have:=F.lev.1;show v.levels.length<=40;omega,F.lev.2⟩⟩
  ·have:=ue (l:=v.parts) (d:=zeroV) (y:=qw pk py) (q:=q) dP hq;show ((eY v.parts (q+1) zeroV).set q (qw pk py)).length<=41;omega
  ·rcases uf (show z∈(eY v.parts (q+1) zeroV).set q (qw pk py) from hz) with h|rfl|rfl
   ·exact(xy z h).2
   ·simp [zeroV,go,szD,gv]
   ·exact h1s
 have ga:=(LN abA).big;have ec:conv v 4=⟨4,[],v.parts,v.names,[],[],0,0⟩:=by unfold conv;rw[aN rfl,Uu];simp
 refine⟨gZ (EE v.parts v.names v.cls v.levels q (qw pk py)),by rw[Bf];rfl,?_,?_⟩
 ·intro cv cs cx W gF mP fE;obtain⟨sb,so,c1,A2,c2,A3,c3,A4,c4,A5,c5,rfl,-,-,-,-⟩:=kV mP;refine xr v _ _ xk pk y py py xn xc xl q hq cv _ cx W gF mP fE h1 h3 (λW a b c=>QB v _ cv cx _ W a c hv hx (eC hv) (eC hx) hn5 _ dP dP b) (λh=>by rw[kQ]at h;simp at h) (λ_ W r=>PI cx W r) (λh=>by rw[kQ]at h;simp at h) (λ_ pb pc cz W a b c d=>?_);exact VS v ⟨pk,[py],[],[],[],[],0,0⟩ (qw pk py) v.parts q pb 0 pc _ _ _ _ _ _ _ _ _ _ _ _ _ _ _ _ _ cv cz W a b c d hq (by rw[h4];show max 4 pk=4;omega) (by show ¬pk=5;omega) hnm dP r_ sn dP
   (λcs W r=>by have:=zn v cs W r dP dP hnn hn5 dP (by rw[Uu];simp) (λz hz=>by have:=(xy z hz).2;omega);rw[ec]at this;exact this)
   (λcs W r=>zn ⟨pk,[py],[],[],[],[],0,0⟩ cs W r dR dR dR (by show ¬pk=5;omega) (by show pk<=4;omega) (λz hz=>by obtain rfl:z=py:=ms;exact rU Sn) dR) ga
 ·intro cv cs cx W gF mP fE;refine N0 v xk pk y py (qw pk py) v.parts xn xc xl q hq cv cs cx W gF mP fE h1 h3 hv (eC hv) hx (eC hx) h4 dP hnm dP gK r_ sn h1o dP
   (λW r A c=>Ag (lenV v) (by rw[ZB];omega) A v.names.length c B7 _ dP dP cs W r) (λh=>by rw[kQ]at h;simp at h) (λ_ W r=>PS cx W r) (λcs W r=>?_) (λcs W r=>?_) ga
  ·rw[OC]at r;exact Cw v.parts v.names v.cls [] cs W r dP hnn (λz hz=>⟨(xy z hz).1,by have:=(xy z hz).2;omega⟩) (by rw[<-OC];exact hv) (by rw[<-OC];exact eC hv) hvb (eC hvb)
  ·exact Xh pk py [] [] [] cs W r dR Ma.1 Ma.2 (rU Sn) hone (eC hone) hwr (eC hwr)
theorem BH {zy:Item} (hv:isVec v=true) (hx:isVec ⟨xk,[y],[],xn,xc,xl,0,0⟩=true) (h1:1<=xk) (h3:xk<=3) (hq:q<40) (h4:v.kind<=3) (hzk:1<=zk/\zk<=3) (hzy:itemOK zk zy=true) (hz2:0<v.levels.length->zk=2)
 (LI:0<v.levels.length->∀(A:Option Addr) (c:Nat) (cx:List Value) (w:World),rep w w.heap.size (Vec.toD ⟨xk,[y],[],xn,xc,xl,0,0⟩) cx->rep w w.heap.size (.sl (v.levels.map .s)) [.slice A v.levels.length c]->Calls prog 108 #[av cx,.slice A v.levels.length c] w (gM (Vec.toD ⟨2,[zy],[],[],[],[],0,0⟩) 38 w))
 (LS:0<v.levels.length->∀(A:Option Addr) (c:Nat) (cx:List Value) (w:World),rep w w.heap.size (Vec.toD ⟨xk,[y],[],xn,xc,xl,0,0⟩) cx->rep w w.heap.size (.sl (v.levels.map .s)) [.slice A v.levels.length c]->Calls prog 120 #[av cx,.slice A v.levels.length c] w (gM (Vec.toD ⟨zk,[zy],[],[],[],[],0,0⟩) 38 w))
 (PI:v.levels.length=0->∀(cx:List Value) (w:World),rep w w.heap.size (Vec.toD ⟨xk,[y],[],xn,xc,xl,0,0⟩) cx->Calls prog 109 #[av cx] w (gM (Vec.toD ⟨zk,[zy],[],[],[],[],0,0⟩) 38 w))
 (PS:v.levels.length=0->∀(cx:List Value) (w:World),rep w w.heap.size (Vec.toD ⟨xk,[y],[],xn,xc,xl,0,0⟩) cx->Calls prog 121 #[av cx] w (gM (Vec.toD ⟨zk,[zy],[],[],[],[],0,0⟩) 38 w)):
 ∃T:Vec,T.kind<=3/\wH v ⟨xk,[y],[],xn,xc,xl,0,0⟩ ((q+1:Nat):Int) (kG T).1 (kG T).2:=by
 have F:=jf hv;obtain⟨m1,m2,m3,m4,m5,m6⟩:=FV.more (jB (i6 hv).1);have hn5:¬v.kind=5:=dP;have gK:=F.len;have hnn:=pB F;have hp:v.parts.length=0:=by
  rcases bz v.parts.length with e|e
  ·exact e
  ·have:=F.np e;omega
 have ZB:lenV v=v.items.length:=by unfold lenV;rw[aH hn5,hp];rfl
 have hnm:v.names=[]\/v.names.length=v.items.length:=by
  rcases m2 with e|⟨e,e'⟩
  ·exact .inl (aR.1 e)
  ·exact .inr (by rw[e,ZB])
 obtain⟨k,hk⟩:∃k,max v.kind zk=k:=⟨_,rfl⟩;have Sk:v.kind<=k/\zk<=k/\k<=3:=dP;obtain⟨c1,c2,c3⟩:=Bt hv Sk.1 Sk.2.2;have hone:=JF hzk.1 hzk.2 hzy;obtain⟨d1,d2,d3⟩:=Bt hone Sk.2.1 Sk.2.2;have hyk:itemOK k (gI zk k zy)=true:=d2 zy dR;have abA:VB (A_ k (v.items.map (gI v.kind k)) v.names v.cls v.levels q (gI zk k zy)) 740880000:=by
  refine⟨⟨?_,λz hz=>?_⟩,by simp [A_],QJ hnn hq F.names,⟨by have:=F.cls.1;show v.cls.length<=40;omega,F.cls.2⟩,⟨by have:=F.lev.1;show v.levels.length<=40;omega,F.lev.2⟩⟩
  ·have:=ue (l:=v.items.map (gI v.kind k)) (d:=(⟨0,0,[]⟩:Item)) (y:=gI zk k zy) (q:=q) dS hq;show ((eY (v.items.map (gI v.kind k)) (q+1) (⟨0,0,[]⟩:Item)).set q (gI zk k zy)).length<=41;omega
  ·rcases uf (show z∈(eY (v.items.map (gI v.kind k)) (q+1) (⟨0,0,[]⟩:Item)).set q (gI zk k zy) from hz) with h|rfl|rfl
   ·obtain⟨u,hu,rfl⟩:=List.mem_map.1 h;exact D5 (c2 u hu)
   ·simp
   ·exact D5 hyk
 have ga:=(LN abA).big;have HR:∀(B1 B2 B3 B4 B5:Option Addr) (m1 d1 m2 d2 m3 d3 m4 d4 m5 d5:Nat) (e1 e2:Int) (pb pc:Nat) (cv cz:List Value) (W:World),rep W W.heap.size v.toD cv->rep W W.heap.size (Vec.toD ⟨zk,[zy],[],[],[],[],0,0⟩) cz->pb<W.heap.size->W.cell? ⟨pb,0,none⟩=some (.int .i64 ((q+1:Nat):Int))->Calls prog 110 #[av cv,.slice (some ⟨pb,0,none⟩) 1 pc,.agg #[.int .i64 2,.slice B1 m1 d1,.slice B2 m2 d2,.slice B3 m3 d3,.slice B4 m4 d4,.slice B5 m5 d5,e1,e2],av cz,.int .i64 ((q+1:Nat):Int)] W
  (eH (kG (gZ (A_ k (v.items.map (gI v.kind k)) v.names v.cls v.levels q (gI zk k zy)))).1.toD 38 (sv (kG (gZ (A_ k (v.items.map (gI v.kind k)) v.names v.cls v.levels q (gI zk k zy)))).2) W):=
  λB1 B2 B3 B4 B5 m1 d1 m2 d2 m3 d3 m4 d4 m5 d5 e1 e2 pb pc cv cz W a b c d=>VP v ⟨zk,[zy],[],[],[],[],0,0⟩ zy q k pb 0 pc B1 B2 B3 B4 B5 m1 d1 m2 d2 m3 d3 m4 d4 m5 d5 e1 e2 cv cz W a b c d hq hk dP F.kind.1 (by show 0<=zk;omega) rfl dP hnm dR r_ sn (λz hz=>rU (c2 z hz)) (rU hyk) ga
 refine⟨gZ (A_ k (v.items.map (gI v.kind k)) v.names v.cls v.levels q (gI zk k zy)),by rw[Bf];exact Sk.2.2,?_,?_⟩
 ·intro cv cs cx W gF mP fE;obtain⟨sb,so,c1,A2,c2,A3,c3,A4,c4,A5,c5,rfl,-,-,-,-⟩:=kV mP;exact xr v _ _ xk zk y zy zy xn xc xl q hq cv _ cx W gF mP fE h1 h3 (λW a b c=>QB v _ cv cx _ W a c hv hx (eC hv) (eC hx) hn5 _ dP dP b) (λh A c W r1 r2=>LI h A c cx W r1 r2) (λh W r=>PI h cx W r)
   (λh pb pc cz W a b c d=>HR _ _ _ _ _ _ _ _ _ _ _ _ _ _ _ _ _ pb pc cv cz W a (by rw[hz2 h];exact b) c d) (λ_ pb pc cz W a b c d=>HR _ _ _ _ _ _ _ _ _ _ _ _ _ _ _ _ _ pb pc cv cz W a b c d)
 ·intro cv cs cx W gF mP fE;exact NW v xk zk k y zy (gI zk k zy) (v.items.map (gI v.kind k)) xn xc xl q hq cv cs cx W gF mP fE h1 h3 hv (eC hv) hx (eC hx) F.kind.1 dP hk dP (by simpa using hnm) dS gK r_ sn (rU hyk)
   (λW r A c=>Ag (lenV v) (by rw[ZB];omega) A v.names.length c B7 _ dP dP cs W r) (λh A c W r1 r2=>LS h A c cx W r1 r2) (λh W r=>PS h cx W r) c3 d3 ga
theorem N8 (hv:isVec v=true) (hx:isVec x=true) (hk:1<=x.kind/\x.kind<=3) (h1:x.items.length=1) (hp:1<=pt/\pt<=40) (h5:¬v.kind=5):
 ∃(rv:Vec) (rs:Str),wH v x pt rv rs/\(rs=[]->(rv.kind=4↔v.kind=4)/\isVec rv=true):=by
 obtain⟨xk,y,xn,xc,xl,rfl⟩:=Y3 hx hk h1;obtain⟨q,rfl⟩:∃q:Nat,pt=((q+1:Nat):Int):=⟨pt.toNat - 1,by omega⟩;have F:=jf hv;have hq:q<40:=dP;by_cases h4:v.kind=4
 ·obtain⟨T,hT,hB⟩:=N9 hv hx hk.1 hk.2 hq h4;refine⟨_,_,hB,λe=>?_⟩;obtain⟨e1,e2⟩:=KX e;rw[e2,hT,h4];exact⟨Iff.rfl,e1⟩
 ·have hv3:v.kind<=3:=by have:=F.kind.2;omega
  obtain⟨T,hT,hB⟩:∃T:Vec,T.kind<=3/\wH v ⟨xk,[y],[],xn,xc,xl,0,0⟩ ((q+1:Nat):Int) (kG T).1 (kG T).2:=by
   by_cases hl:v.levels.length=0
   ·obtain⟨pk,py,Ma,Sn,e,PI,PS⟩:=xX hx hk.1 hk.2;exact BH hv hx hk.1 hk.2 hq hv3 Ma Sn (λh=>by omega) (λh=>by omega) (λh=>by omega) (λ_=>PI) (λ_=>PS)
   ·obtain⟨ly,hly,LI,LS⟩:=O8 hx hk.1 hk.2 v.levels F.lev.1;exact BH hv hx hk.1 hk.2 hq hv3 dP hly (λ_=>rfl) (λ_=>LI) (λ_=>LS) (λh=>absurd h hl) (λh=>absurd h hl)
  refine⟨_,_,hB,λe=>?_⟩;obtain⟨e1,e2⟩:=KX e;rw[e2];exact⟨⟨λh=>by omega,λh=>absurd h h4⟩,e1⟩
def ElI (v x:Vec) (nm:Str) (rv:Vec) (rs:Str):Prop:=∀(cv cs cx:List Value) (W:World),rep W W.heap.size v.toD cv->rep W W.heap.size (iA [nm]).toD cs->rep W W.heap.size x.toD cx->Calls prog 112 #[av cv,av cs,av cx] W (eH rv.toD 38 (sv rs) W)
def ElS (v x:Vec) (nm:Str) (rv:Vec) (rs:Str):Prop:=∀(cv cs cx:List Value) (W:World),rep W W.heap.size v.toD cv->rep W W.heap.size (iA [nm]).toD cs->rep W W.heap.size x.toD cx->Calls prog 128 #[av cv,av cs,av cx] W (eH rv.toD 38 (sv rs) W)
def FiI (v x:Vec) (nm:Str) (rv:Vec) (rs:Str):Prop:=∀(cv cx:List Value) (W:World),rep W W.heap.size v.toD cv->rep W W.heap.size x.toD cx->Calls prog 45 #[av cv,sv nm,av cx] W (eH rv.toD 38 (sv rs) W)
def FiS (v x:Vec) (nm:Str) (rv:Vec) (rs:Str):Prop:=∀(cv cx:List Value) (W:World),rep W W.heap.size v.toD cv->rep W W.heap.size x.toD cx->Calls prog 57 #[av cv,sv nm,av cx] W (eH rv.toD 38 (sv rs) W)
theorem Dp {x:Vec}:∀{l:List Vec},x∈l->jF x<=ik l
 |[],h=>by simp at h
 |a::t,h=>by
  rw[ik];rcases aX.1 h with rfl|h
  ·omega
  ·have:=Dp h;omega
theorem PV (h4:T.kind=4) (h:isVec T=true) (hx:x∈T.parts):isVec ⟨4,[],[x],[],[],[],0,0⟩=true:=by
 obtain⟨h1,h2⟩:=i6 h;rw[okD]at h1;simp only[ax,aV]at h1;refine vy (tY dR (rr 3) dR (λz hz=>?_)) ?_
 ·obtain rfl:z=x:=ms;exact h1.2 z hx
 ·rw[jU]at h2 ⊢;have h3:=Dp hx;have h5:1<=lenV T:=by unfold lenV;rw[aH dP];have:=List.length_pos_of_mem hx;omega
  have h6:lenV ⟨4,[],[x],[],[],[],0,0⟩=1:=rfl;have h7:ik (Vec.parts ⟨4,[],[x],[],[],[],0,0⟩)=jF x:=by simp [ik]
  rw[h6,h7];omega
theorem NO {nf lv:List Str}:x∈(gZ (mV its nf cls lv q nm x)).parts:=by
 have h:(gZ (mV its nf cls lv q nm x)).parts=(eY its (q+1) zeroV).set q x:=by unfold gZ;split<;>rfl
 rw[h];refine aA (i:=q) ?_;rw[List.getElem?_set_self];unfold eY;simp;omega
theorem Jt (h:ns=[]\/ns.length=n):(gA ns n).length=n:=by
 unfold gA;split
 ·simp
 ·rcases h with h|h
  ·contradiction
  ·exact h
theorem Uj (h:∀s∈ns,s.length<=60):∀s∈gA ns n,s.length<=60:=by
 unfold gA;split
 ·intro s hs;rw[List.eq_of_mem_replicate hs];simp
 ·exact h
theorem E7 (hn:n<=40) (h:ns=[]\/ns.length=n):∃q:Nat,q<=n/\pu ns n nm=((q+1:Nat):Int)/\(ix ns nm 0<0->q=n)/\(∀j:Nat,ix ns nm 0=(j:Int)->q=j/\j<n/\ns.length=n):=by
 have hg:=pY ns nm 0;by_cases hi:ix ns nm 0<0
 ·exact⟨n,af _,by rw[tq hi];omega,λ_=>rfl,λj hj=>by omega⟩
 ·obtain⟨j,hj⟩:=bQ (show 0<=ix ns nm 0 by omega);have hl:ns.length=n:=by
   rcases h with rfl|h
   ·simp at hg;omega
   ·exact h
  exact⟨j,by omega,by rw[tt hi,hj];omega,λh=>absurd h hi,λi hij=>by omega⟩
structure LV (its:List Vec) (ns cls:List Str):Prop where
 v:isVec ⟨4,[],its,ns,cls,[],0,0⟩=true
 b:isVec ⟨4,[],its,ns,[],[],0,0⟩=true
 l:its.length<=40
 n:ns=[]\/ns.length=its.length
 n60:ns.length<=40/\∀s∈ns,s.length<=60
 c:cls.length<=3/\∀s∈cls,s.length<=60
 p:∀z∈its,okD 3 z=true/\szD z.toD<=740880000
theorem LV.of (hv:isVec ⟨4,[],its,ns,cls,[],0,0⟩=true):LV its ns cls:=by
 have F:=jf hv;obtain⟨m1,m2,m3,m4,m5,m6⟩:=FV.more (jB (i6 hv).1);have UC:=(i6 hv).1;have gK:([]:List Item).length+its.length<=40:=F.len;refine⟨hv,(rm hv rfl).2,by simpa using gK,?_,⟨pB F,F.names⟩,F.cls,λz hz=>?_⟩
 ·rcases m2 with e|⟨e,e'⟩
  ·exact .inl (aR.1 e)
  ·exact .inr (by have e:ns.length=_:=e;rw[e];unfold lenV;rw[aH qn];simp)
 ·rw[okD]at UC;simp only[ax,aV]at UC;have h2:=Ew (UC.2 z hz);exact⟨h2,AZ h2⟩
theorem LV.conv {its:List Vec} {ns cls:List Str} (L:LV its ns cls) (cs:List Value) (W:World) (r:rep W W.heap.size (Vec.toD ⟨4,[],its,ns,cls,[],0,0⟩) cs):Calls prog 160 #[av cs,.int .i64 4] W (eH (Vec.toD ⟨4,[],its,ns,[],[],0,0⟩) 38 (.bool true) W):=by
 have:=zn ⟨4,[],its,ns,cls,[],0,0⟩ cs W r dR L.l L.n60.1 qn (by show (4:Int)<=4;decide) dR (λz hz=>by have:=(L.p z hz).2;omega);have ec:Go.Proofs.YtekcpadlmfaihaaGreat.conv ⟨4,[],its,ns,cls,[],0,0⟩ 4=⟨4,[],its,ns,[],[],0,0⟩:=by unfold Go.Proofs.YtekcpadlmfaihaaGreat.conv;rw[aN rfl];simp
 rw[ec]at this;exact this
theorem LV.coer (L:LV its ns cls) (cs:List Value) (W:World) (r:rep W W.heap.size (Vec.toD ⟨4,[],its,ns,cls,[],0,0⟩) cs):Calls prog 122 #[av cs,.int .i64 4] W (eH (Vec.toD ⟨4,[],its,ns,[],[],0,0⟩) 38 (.bool true) W):=
 Cw its ns cls [] cs W r L.l L.n60.1 (λz hz=>⟨(L.p z hz).1,by have:=(L.p z hz).2;omega⟩) L.v (eC L.v) L.b (eC L.b)
theorem LV.res (L:LV its ns cls) (hn:1<=nm.length/\nm.length<=60) (hp:pu ns its.length nm=((q+1:Nat):Int)) (cs:List Value) (A:Option Addr) (c:Nat) (W:World) (r1:rep W W.heap.size (iA [nm]).toD cs) (r2:rep W W.heap.size (.sl (ns.map .s)) [.slice A ns.length c]):
 Calls prog 117 #[.int .i64 (its.length:Nat),.slice A ns.length c,av cs] W (jq [((q+1:Nat):Int)] [] W):=by
 have:=LH its.length L.l ns A c (by rcases L.n with h|h<;>first|exact .inl (by rw[h];rfl)|exact .inr h) nm eb hn.2 (by cases nm;simp at hn;rfl) cs W r2 r1;rw[hp]at this;exact this
theorem LV.asg (L:LV its ns cls) (hx:isVec x=true) (hn:1<=nm.length/\nm.length<=60) (hp:pu ns its.length nm=((q+1:Nat):Int)) (cv cs cx:List Value) (W:World) (a:rep W W.heap.size (Vec.toD ⟨4,[],its,ns,cls,[],0,0⟩) cv) (b:rep W W.heap.size (iA [nm]).toD cs) (c:rep W W.heap.size x.toD cx):
 Calls prog 105 #[av cv,av cs,av cx] W (jq [((q+1:Nat):Int)] [] W):=by
 have:=Xb ⟨4,[],its,ns,cls,[],0,0⟩ x cv cx cs W a c L.v hx (eC L.v) (eC hx) qn nm eb hn.2 (by cases nm;simp at hn;rfl) b;have e:lenV ⟨4,[],its,ns,cls,[],0,0⟩=its.length:=by unfold lenV;rw[aH qn];simp
 rw[e]at this;have e2:pu (Vec.names ⟨4,[],its,ns,cls,[],0,0⟩) its.length nm=((q+1:Nat):Int):=hp;rw[e2]at this;exact this
theorem We:szD zeroV.toD=0:=by simp [zeroV,go,szD,gv]
theorem YC (L:LV its ns cls) (hxs:szD x.toD<=740880000) (hn:nm.length<=60) (hq:q<40):VB (mV its (gA ns its.length) cls [] q nm x) 740880000:=by
 have hf:=Jt L.n;have hf6:=Uj (n:=its.length) L.n60.2;refine⟨by simp [mV],⟨?_,λz hz=>?_⟩,?_,⟨by have:=L.c.1;show cls.length<=40;omega,L.c.2⟩,by simp [mV]⟩
 ·have:=ue (l:=its) (d:=zeroV) (y:=x) (q:=q) L.l hq;show ((eY its (q+1) zeroV).set q x).length<=41;omega
 ·rcases uf (show z∈(eY its (q+1) zeroV).set q x from hz) with h|rfl|rfl
  ·exact(L.p z h).2
  ·rw[We];omega
  ·exact hxs
 ·show (if q<its.length then _ else _:List Str).length<=41/\∀s∈(if q<its.length then _ else _:List Str),s.length<=60;have hl:=L.l;split
  ·exact⟨by omega,hf6⟩
  ·refine⟨?_,λs hs=>?_⟩
   ·have:=ue (l:=gA ns its.length) (d:=([]:Str)) (y:=nm) (q:=q) dP hq;omega
   ·rcases uf hs with h|rfl|rfl
    ·exact hf6 s h
    ·simp
    ·exact hn
theorem Jp (L:LV its ns cls) (hx:isVec x=true) (hx0:¬x.kind=0) (hn:1<=nm.length/\nm.length<=60):
 ∃(rv:Vec) (rs:Str),ElI ⟨4,[],its,ns,cls,[],0,0⟩ x nm rv rs/\ElS ⟨4,[],its,ns,cls,[],0,0⟩ x nm rv rs/\(rs=[]->∃q:Nat,q<40/\pu ns its.length nm=((q+1:Nat):Int)/\rv=gZ (mV its (gA ns its.length) cls [] q nm x)/\isVec rv=true):=by
 obtain⟨q,Px,UG,-,-⟩:=E7 (nm:=nm) L.l L.n;have hl:=L.l;have UM:=(i6 hx).1;have hxs:=vz hx;have abr:nm.length<=maxLen:=eb;have hX1:bigV ⟨4,[],[x],[],[],[],0,0⟩:=by have:VB ⟨4,[],[x],[],[],[],0,0⟩ 740880000:=⟨by simp,⟨by simp,λz hz=>by obtain rfl:z=x:=ms;exact hxs⟩,by simp,by simp,by simp⟩;exact this.big
 have Ng:max (4:Int) 4=4:=dQ;have hxk:¬(4:Int)=5:=dQ;have CX:∀(cs:List Value) (W:World),rep W W.heap.size (Vec.toD ⟨4,[],[x],[],[],[],0,0⟩) cs->Calls prog 160 #[av cs,.int .i64 4] W (eH (Vec.toD ⟨4,[],[x],[],[],[],0,0⟩) 38 (.bool true) W):=λcs W r=>by
  have:=zn ⟨4,[],[x],[],[],[],0,0⟩ cs W r dR dR dR hxk (by show (4:Int)<=4;decide) dR (λz hz=>by obtain rfl:z=x:=ms;omega);have ec:conv ⟨4,[],[x],[],[],[],0,0⟩ 4=⟨4,[],[x],[],[],[],0,0⟩:=rfl
  rw[ec]at this;exact this
 by_cases hq:q<40
 ·have ga:=(LN (YC L hxs hn.2 hq)).big;refine⟨(kG (gZ (mV its (gA ns its.length) cls [] q nm x))).1,(kG (gZ (mV its (gA ns its.length) cls [] q nm x))).2,?_,?_,λe=>?_⟩
  ·intro cv cs cx W gF mP fE;refine uV _ x _ _ nm _ dP cv cs cx W gF mP fE rfl hx0 (λW a b c=>L.asg hx hn UG cv cs cx W a b c) (λpb pc cz W a b c d e=>?_);obtain⟨sb,so,c1,A2,c2,A3,c3,A4,c4,A5,c5,rfl,tV,-,-,e2⟩:=jX b;exact VT ⟨4,[],its,ns,cls,[],0,0⟩ ⟨4,[],[x],[],[],[],0,0⟩ x its q nm pb 0 pc sb so c1 _ _ _ _ _ _ _ _ _ _ _ _ _ _ cv cz W a c d e tV e2 hq abr Ng hxk L.n L.l (by have:=L.c.1;show cls.length<=40;omega) dR dP L.conv CX ga
  ·intro cv cs cx W gF mP fE;have iU:=λbx hb HS=>Af its ns cls x (kG (gZ (mV its (gA ns its.length) cls [] q nm x))).1 (kG (gZ (mV its (gA ns its.length) cls [] q nm x))).2 nm q dP cv cs cx W gF mP fE L.v (eC L.v) hx (eC hx) L.l hx0 (L.res hn UG cs) bx hb hX1 UM dP HS;cases hb:isVec ⟨4,[],[x],[],[],[],0,0⟩ with
   |true=>
    exact iU true hb λ_ cz W a b c=>N6 its ns cls x nm q hq cv cs cz W a b c abr L.v (eC L.v) hb (eC hb) L.n L.l (by have:=L.c.1;omega) UM dP (L.res hn UG cs) L.coer
     (λcs W r=>Cw [x] [] [] [] cs W r dR dR (λz hz=>by obtain rfl:z=x:=ms;exact⟨UM,by omega⟩) hb (eC hb) hb (eC hb)) ga
   |false=>
    have:=iU false hb (λh=>by cases h);have hT:isVec (gZ (mV its (gA ns its.length) cls [] q nm x))=false:=by
     cases hT:isVec (gZ (mV its (gA ns its.length) cls [] q nm x)) with
     |false=>rfl
     |true=>
      have:=PV (by rw[Bf];rfl) hT NO;rw[hb]at this;cases this
    have e1:kG (gZ (mV its (gA ns its.length) cls [] q nm x))=(zeroV,E_):=by unfold kG;rw[hT];rfl
    rw[e1];exact this
  ·obtain⟨e1,e2⟩:=KX e;rw[e2];exact⟨q,hq,UG,rfl,e1⟩
 ·obtain rfl:q=40:=dP;refine⟨zeroV,E_,?_,?_,λe=>by cases e⟩
  ·intro cv cs cx W gF mP fE;refine uV _ x _ _ nm _ dP cv cs cx W gF mP fE rfl hx0 (λW a b c=>L.asg hx hn UG cv cs cx W a b c) (λpb pc cz W a b c d e=>?_);obtain⟨sb,so,c1,A2,c2,A3,c3,A4,c4,A5,c5,rfl,tV,-,-,e2⟩:=jX b;exact VQ ⟨4,[],its,ns,cls,[],0,0⟩ ⟨4,[],[x],[],[],[],0,0⟩ pb 0 pc sb so c1 _ _ _ _ _ _ _ _ _ _ _ _ _ _ cv cz W a c Ng hxk
  ·intro cv cs cx W gF mP fE;have iU:=λbx hb HS=>Af its ns cls x zeroV E_ nm 40 dP cv cs cx W gF mP fE L.v (eC L.v) hx (eC hx) L.l hx0 (L.res hn UG cs) bx hb hX1 UM dP HS;cases hb:isVec ⟨4,[],[x],[],[],[],0,0⟩ with
   |true=>
    exact iU true hb λ_ cz W a b c=>NY its ns cls x nm cv cs cz W a b c abr L.v (eC L.v) hb (eC hb) L.n L.l (by have:=L.c.1;omega) (L.res hn UG cs) L.coer
     (λcs W r=>Cw [x] [] [] [] cs W r dR dR (λz hz=>by obtain rfl:z=x:=ms;exact⟨UM,by omega⟩) hb (eC hb) hb (eC hb))
   |false=>exact iU false hb (λh=>by cases h)
theorem Jq (L:LV its ns cls) (hx:isVec x=true) (hx0:x.kind=0) (hn:1<=nm.length/\nm.length<=60):
 ∃rI rS:Vec,ElI ⟨4,[],its,ns,cls,[],0,0⟩ x nm rI []/\ElS ⟨4,[],its,ns,cls,[],0,0⟩ x nm rS []:=by
 obtain⟨q,Px,UG,-,-⟩:=E7 (nm:=nm) L.l L.n;have hl:=L.l;have hF:=(jf hx).len;refine⟨PN ⟨4,[],its,ns,cls,[],0,0⟩ q,Xk its ns cls q,?_,?_⟩
 ·intro cv cs cx W gF mP fE;exact Di _ x _ nm _ dP cv cs cx W gF mP fE rfl hx0 (λW a b c=>L.asg hx hn UG cv cs cx W a b c) (λpb pc W a d e=>SK ⟨4,[],its,ns,cls,[],0,0⟩ q pb pc dP cv W a d e (by unfold lenV;rw[aH qn];simp) L.l dR L.n (by have:=L.c.1;show cls.length<=40;omega) (λz hz=>by have:=(L.p z hz).2;omega))
 ·intro cv cs cx W gF mP fE;exact LG its ns cls x _ [] nm q dP cv cs cx W gF mP fE L.v (eC L.v) hx (eC hx) L.l hx0 (L.res hn UG cs)
   (λW a b c=>N5 its ns cls x _ nm q dP cv cs cx W a b c L.v (eC L.v) hx (eC hx) L.l hx0 hF (L.res hn UG cs) (λpb pc W a d e=>PH its ns cls q pb pc dP cv W a d e L.l L.n (by have:=L.c.1;omega) (λz hz=>⟨(L.p z hz).1,by have:=(L.p z hz).2;omega⟩)))
theorem Pi (hv:isVec v=true) (hx:isVec x=true) (hn:1<=nm.length/\nm.length<=60):
 ∃(rI rS:Vec) (rs:Str),FiI v x nm rI rs/\FiS v x nm rS rs/\(rs=[]->v.kind=4->¬x.kind=0->∃q:Nat,q<40/\pu v.names v.parts.length nm=((q+1:Nat):Int)/\rS=gZ (mV v.parts (gA v.names v.parts.length) v.cls [] q nm x)/\isVec rS=true):=by
 have hb:=eC hv;have qo:=eC hx;by_cases h4:v.kind=4
 ·obtain⟨OC,-⟩:=rm hv h4;have L:LV v.parts v.names v.cls:=LV.of (by rw[<-OC];exact hv);by_cases hx0:x.kind=0
  ·obtain⟨rI,rS,a,b⟩:=Jq L hx hx0 hn;rw[<-OC]at a b;exact⟨rI,rS,[],λcv cx W r1 r2=>ze v x rI [] nm cv cx W r1 r2 hv hx hb qo hn.1 hn.2 h4 a,λcv cx W r1 r2=>EY v x rS [] nm cv cx W r1 r2 hv hx hb qo hn.1 hn.2 h4 b,λ_ _ h=>absurd hx0 h⟩
  ·obtain⟨rv,rs,a,b,c⟩:=Jp L hx hx0 hn;rw[<-OC]at a b;exact⟨rv,rv,rs,λcv cx W r1 r2=>ze v x rv rs nm cv cx W r1 r2 hv hx hb qo hn.1 hn.2 h4 a,λcv cx W r1 r2=>EY v x rv rs nm cv cx W r1 r2 hv hx hb qo hn.1 hn.2 h4 b,λe _ _=>c e⟩
 ·by_cases h0:v.kind=0
  ·have L:LV [] [] []:=LV.of (vy (tY (d:=2) dR (rr 3) dR dR) (by rw[jU];simp [ik,lenV]));by_cases hx0:x.kind=0
   ·obtain⟨rI,rS,a,b⟩:=Jq L hx hx0 hn;exact⟨rI,rS,[],λcv cx W r1 r2=>zh v x rI [] nm cv cx W r1 r2 hv hx hb qo hn.1 hn.2 h0 a,λcv cx W r1 r2=>EZ v x rS [] nm cv cx W r1 r2 hv hx hb qo hn.1 hn.2 h0 b,λ_ h=>absurd h h4⟩
   ·obtain⟨rv,rs,a,b,c⟩:=Jp L hx hx0 hn;exact⟨rv,rv,rs,λcv cx W r1 r2=>zh v x rv rs nm cv cx W r1 r2 hv hx hb qo hn.1 hn.2 h0 a,λcv cx W r1 r2=>EZ v x rv rs nm cv cx W r1 r2 hv hx hb qo hn.1 hn.2 h0 b,λ_ h=>absurd h h4⟩
  ·exact⟨zeroV,zeroV,_,λcv cx W r1 r2=>KE v x nm cv cx W r1 r2 hv hx hb qo h4 h0,λcv cx W r1 r2=>P9 v x nm cv cx W r1 r2 hv hx hb qo h4 h0,λe=>by cases e⟩
theorem ZN:∀(l:List Str) (iU:Str) (i:Nat),ix l iU i= -1\/(i:Int)<=ix l iU i
 |[],iU,i=>by rw[ix];omega
 |e::t,iU,i=>by
  rw[ix];split
  ·omega
  ·have:=ZN t iU (i+1);omega
theorem Nr:∀{l:List Str} {iU:Str} {i j:Nat},ix l iU i=((i+j:Nat):Int)->l[j]?=some iU
 |[],iU,i,j,h=>by rw[ix]at h;omega
 |e::t,iU,i,j,h=>by
  rw[ix]at h;split at h
  ·next he=>
   have:j=0:=dP;subst this;simp [he]
  ·have hg:=pY t iU (i+1);cases j with
   |zero=>
    have h1:=ZN t iU (i+1);omega
   |succ j=>rw[ag];exact Nr (i:=i+1) (by rw[h];congr 1;omega)
theorem S6 {k:Nat} {x:Cel} (hx:h.cells[k]?=some x):eG h k x=h:=by obtain⟨hk,e⟩:=ay.1 hx;unfold eG;rw[<-e,List.set_getElem_self hk]
theorem Z2 (h:v.kind=4):(⟨4,v.items,v.parts,v.names,v.cls,v.levels,v.code,v.env⟩:Vec)=v:=by obtain⟨a,b,c,d,e,f,g,i⟩:=v;simp only at h;subst h;rfl
theorem J_ (hn:ns=[]\/ns.length=its.length) (hnm:1<=nm.length) (hq:pu ns its.length nm=((q+1:Nat):Int)):
 (ix ns nm 0<0->(gZ (mV its (gA ns its.length) cls [] q nm x)).names=gA ns its.length++[nm])/\(0<=ix ns nm 0->(gZ (mV its (gA ns its.length) cls [] q nm x)).names=ns):=by
 have jC:¬nm=[]:=by rintro rfl;simp at hnm
 have hf:=Jt hn;refine⟨λhi=>?_,λhi=>?_⟩
 ·rw[tq hi]at hq;have e:q=its.length:=dP;subst e;have e1:(mV its (gA ns its.length) cls [] its.length nm x).names=gA ns its.length++[nm]:=by
   show (if its.length<its.length then gA ns its.length else (eY (gA ns its.length) (its.length+1) []).set its.length nm)=_;rw[aH dP];unfold eY;rw[hf,show its.length+1 - its.length=1 by omega,show List.replicate 1 ([]:Str)=[[]] from rfl];have h2:∀(l:List Str) (a b:Str),(l++[a]).set l.length b=l++[b]:=λl a b=>by simp
   have h3:=h2 (gA ns its.length) [] nm;rw[hf]at h3;exact h3
  have e2:lR (gA ns its.length++[nm])=false:=KC (j:=(gA ns its.length).length) dR jC;unfold gZ;rw[e1,e2,aH dQ,e1]
 ·have hg:=pY ns nm 0;rw[tt dP]at hq;have hq':ix ns nm 0=((0+q:Nat):Int):=dP;have hx:=Nr hq';have hl:ns.length=its.length:=by
   rcases hn with rfl|h
   ·simp at hx
   ·exact h
  have Px:=(ay.1 hx).1;have hf2:gA ns its.length=ns:=by unfold gA;rw[aH (by rintro rfl;simp at hx)]
  have e1:(mV its (gA ns its.length) cls [] q nm x).names=ns:=by show (if q<its.length then gA ns its.length else _)=_;rw[aN dP,hf2]
  have e2:lR ns=false:=KC hx jC;unfold gZ;rw[e1,e2,aH dQ,e1]
theorem VE (hn:ns=[]\/ns.length=its.length) (hnm:1<=nm.length) (hq:pu ns its.length nm=((q+1:Nat):Int)):
 (ix ns nm 0<0->gZ (mV its (gA ns its.length) cls [] q nm x)=⟨4,[],its++[x],gA ns its.length++[nm],cls,[],0,0⟩)/\(∀m:Nat,ix ns nm 0=(m:Int)->m<its.length/\gZ (mV its (gA ns its.length) cls [] q nm x)=⟨4,[],its.set m x,ns,cls,[],0,0⟩):=by
 obtain⟨p1,p2⟩:=J_ (cls:=cls) (x:=x) hn hnm hq;have iU:∀(T:Vec) (P:List Vec),T.kind=4->T.items=[]->T.cls=cls->T.levels=[]->T.code=0->T.env=0->T.parts=P->T=⟨4,[],P,T.names,cls,[],0,0⟩:=by rintro⟨a,b,c,d,e,f,g,i⟩ P h1 h2 h3 h4 h5 h6 h7;simp only at h1 h2 h3 h4 h5 h6 h7;subst h1 h2 h3 h4 h5 h6 h7;rfl
 have hT:∀P,(eY its (q+1) zeroV).set q x=P->gZ (mV its (gA ns its.length) cls [] q nm x)=⟨4,[],P,(gZ (mV its (gA ns its.length) cls [] q nm x)).names,cls,[],0,0⟩:=λP hP=>by refine iU _ P ?_ ?_ ?_ ?_ ?_ ?_ ?_<;>(unfold gZ;split<;>first|rfl|exact hP)
 refine⟨λhi=>?_,λm hm=>?_⟩
 ·rw[tq hi]at hq;have e:q=its.length:=dP;subst e;have e2:(eY its (its.length+1) zeroV).set its.length x=its++[x]:=by unfold eY;rw[show its.length+1 - its.length=1 by omega,show List.replicate 1 zeroV=[zeroV] from rfl];simp
  rw[hT _ e2,p1 hi]
 ·have hg:=(pY ns nm 0).2;rw[tt dP]at hq;have e:q=m:=dP;subst e;have hl:ns.length=its.length:=by
   rcases hn with rfl|h
   ·simp at hg;omega
   ·exact h
  have e2:(eY its (q+1) zeroV).set q x=its.set q x:=by rw[pE dP]
  exact⟨by omega,by rw[hT _ e2,p2 dP]⟩
theorem Ug (hp:p∈(celD h k).parts):p∈h.cells.flatMap (·.parts):=by
 unfold celD at hp;split at hp
 ·cases hc:h.cells[k.toNat]? with
  |none=>rw[hc]at hp;simp at hp
  |some c=>
   rw[hc]at hp;exact dM.2 ⟨c,aA hc,hp⟩
 ·simp at hp
theorem aeV (X:EX h E) (h1:(celD h k).count=1) (hk:k∈h.slots):(∀c,k ∉ (celD h c).parts)/\k ∉ E:=by
 have h2:=X.c k;rw[h1]at h2;have h3:(refs h).count k=h.slots.count k+(h.cells.flatMap (·.parts)).count k:=bT;have h4:=List.count_pos_iff.2 hk;refine⟨λc hc=>?_,λhe=>?_⟩
 ·have:=List.count_pos_iff.2 (Ug hc);omega
 ·have:=List.count_pos_iff.2 he;omega
theorem ve {h:Hp} {k:Nat} {x:Cel} (hk:k<h.cells.length) (hn:∀c,(k:Int) ∉ (celD h c).parts):∀{d:Nat} {y:Int},¬y=(k:Int)->FP h d y->FP (eG h k x) d y/\asm (eG h k x) d y=asm h d y
 |0,y,hy,e=>by
  have hc:celD (eG h k x) y=celD h y:=by rw[fQ hk,aH hy]
  rw[FP]at e;rw[FP,asm,asm,hc];exact⟨e,rfl⟩
 |d+1,y,hy,e=>by
  have hc:celD (eG h k x) y=celD h y:=by rw[fQ hk,aH hy]
  rw[FP]at e;have iU:∀p∈(celD h y).parts,FP (eG h k x) d p/\asm (eG h k x) d p=asm h d p:=λp hp=>ve hk hn (λe1=>hn y (e1 ▸ hp)) (e.2.2 p hp);rw[FP,asm,asm,hc];refine⟨⟨e.1,e.2.1,λp hp=>(iU p hp).1⟩,?_⟩;rw[cT λp hp=>(iU p hp).2]
theorem Ui {h:Hp} {E:List Int} (X:EX h E):∀{d e:Nat} {k:Int},FP h e k->okD d (asm h e k)=true->d<=e->FP h d k/\asm h d k=asm h e k
 |0,e,k,hf,ho,_=>by
  have hz:(asm h e k).parts=[]:=by rw[okD]at ho;simp only[ax,dh]at ho;exact ho.2
  cases e with
  |zero=>exact⟨hf,rfl⟩
  |succ e=>
   have hp:(celD h k).parts=[]:=by rw[asm]at hz;simpa using hz
   rw[FP,asm,asm,hp];exact⟨⟨aao hf,rfl⟩,(qE (X.v k)).symm⟩
 |d+1,e,k,hf,ho,hle=>by
  obtain⟨e,rfl⟩:∃e',e=e'+1:=⟨e - 1,by omega⟩;have ZC:=(n7 ho).1;rw[FP]at hf;have iU:∀p∈(celD h k).parts,FP h d p/\asm h d p=asm h e p:=λp hp=>by obtain⟨d',e1,h1⟩:=ZC (asm h e p) (by rw[asm];exact dt hp);obtain rfl:d=d':=dP;exact Ui X (hf.2.2 p hp) h1 dP
  rw[FP,asm,asm];refine⟨⟨hf.1,hf.2.1,λp hp=>(iU p hp).1⟩,?_⟩;rw[cT λp hp=>(iU p hp).2]
theorem Vy (S:SL h) (X:EX h E) (hs:hasN h s=true) (hnm:isNm s=true):
 EX (iz h s).1 E/\SL (iz h s).1/\(iz h s).2∈(iz h s).1.slots/\(iz h s).1.names=h.names/\asm (iz h s).1 3 (iz h s).2=asm h 3 (slotD h s)/\((iz h s).1.copies=h.copies\/(iz h s).1.copies=wrap64 (h.copies+1))/\
  (∀(d:Nat) (y:Int),FP h d y->0<(celD (iz h s).1 y).count->FP (iz h s).1 d y/\asm (iz h s).1 d y=asm h d y)/\(GD h->GD (iz h s).1):=by
 have hi:0<=ix h.names s 0:=by simpa [hasN]using hs
 obtain⟨p,hp⟩:=bQ hi;have hg:=(pY h.names s 0).2;have hl:=S.l;have mD:p<h.slots.length:=dP;have X4:slotD h s=h.slots[p]:=wi;have XT:slotD h s∈h.slots:=by rw[X4];exact dA _
 obtain⟨hF,hV⟩:=S.f _ XT;by_cases h1:(celD h (slotD h s)).count=1
 ·have e:iz h s=(h,slotD h s):=by unfold iz;rw[aN h1]
  rw[e];exact⟨X,S,XT,rfl,rfl,.inl rfl,λd y hy _=>⟨hy,rfl⟩,λG=>G⟩
 ·have e:iz h s=({fd (ownH h s).1 s (ownH h s).2 with copies:=wrap64 (h.copies+1)},(ownH h s).2):=by unfold iz;rw[aH h1]
  rw[e];obtain⟨i1,i2⟩:=QW (celD h (slotD h s)).parts h E X (λq hq=>X.part hq);have X1:EX (ownH h s).1 ((ownH h s).2::E):=QI (c:=⟨1,(celD h (slotD h s)).value,(celD h (slotD h s)).parts⟩) i1 rfl (X.v _);have K1:KU h (ownH h s).1:=i2.trans (CP _ _);obtain⟨n,t1,t2,t3,t4,t5⟩:=qG ((celD h (slotD h s)).parts.foldl incS h) ⟨1,(celD h (slotD h s)).value,(celD h (slotD h s)).parts⟩;have m1:=nX tX (celD h (slotD h s)).parts h;have m2:=qd ((celD h (slotD h s)).parts.foldl incS h) ⟨1,(celD h (slotD h s)).value,(celD h (slotD h s)).parts⟩;have e1:(ownH h s).1.names=h.names:=m2.1.trans m1.1;have e2:(ownH h s).1.slots=h.slots:=m2.2.1.trans m1.2.1;have S1:SL (ownH h s).1:=S.ku K1 e1 e2;have hcn:celD (ownH h s).1 (ownH h s).2=⟨1,(celD h (slotD h s)).value,(celD h (slotD h s)).parts⟩:=by have:=t4 (n:Int);rw[aN rfl]at this;rw[show (ownH h s).2=(n:Int) from t1];exact this
  have hFA:FP (ownH h s).1 3 (ownH h s).2/\asm (ownH h s).1 3 (ownH h s).2=asm h 3 (slotD h s):=by rw[FP]at hF;rw[FP,asm,asm,hcn];refine⟨⟨by show (0:Int)<1;omega,hF.2.1,λq hq=>(qX K1 (hF.2.2 q hq)).1⟩,?_⟩;show ({(celD h (slotD h s)).value with parts:=(celD h (slotD h s)).parts.map (asm (ownH h s).1 2)}:Vec)=_;rw[cT λq hq=>(qX K1 (hF.2.2 q hq)).2]
  obtain⟨b1,b2,b3,b4,b5⟩:=LF S1 X1 hnm hFA.1 (by rw[hFA.2];exact hV);have hin:(ownH h s).2∈(fd (ownH h s).1 s (ownH h s).2).slots/\(fd (ownH h s).1 s (ownH h s).2).names=h.names:=by
   rcases b5 with ⟨p',q1,q2,q3,q4⟩|⟨q1,q2,q3⟩
   ·exact⟨by rw[q4];exact dB.2 ⟨p',by rw[List.getElem?_set_self q2]⟩,q3.trans e1⟩
   ·rw[e1]at q1;omega
  have hu:=b1.slot hin.1;have hA:=Dx b3 b1 hFA.1 hu;refine⟨RY b1 _,S8 b2 _,hin.1,hin.2,?_,.inr rfl,λd y hy hc=>?_,λG=>R2 (GD.kv (Rs (QV _ h E X (λq hq=>X.part hq) G) hFA.1) b3 b1) _⟩
  ·exact(nY _).2.trans (hA.2.trans hFA.2)
  ·obtain⟨r1,r2⟩:=qX K1 hy;obtain⟨r3,r4⟩:=Dx b3 b1 r1 hc;exact⟨(nY _).1.2 r3,(nY _).2.trans (r4.trans r2)⟩
theorem Jl {c:Int} (h0:0<=h.copies) (h1:h.copies<=1000) (e:c=h.copies\/c=wrap64 (h.copies+1)):0<=c/\c<=h.copies+1:=by
 rcases e with e|e
 ·omega
 ·rw[e];unfold wrap64;omega
theorem P8 {k:Nat} {x:Cel} (S:SL g) (hk:k<g.cells.length) (hn:∀c,(k:Int) ∉ (celD g c).parts) (hf:FP (eG g k x) 3 (k:Int)) (hv:isVec (asm (eG g k x) 3 (k:Int))=true):SL (eG g k x):=by
 refine⟨S.l,S.n,λy hy=>?_⟩;by_cases e:y=(k:Int)
 ·rw[e];exact⟨hf,hv⟩
 ·obtain⟨a,b⟩:=S.f y hy;obtain⟨c,d⟩:=ve (x:=x) hk hn e a;exact⟨c,by rw[d];exact b⟩
theorem DE (hk:fG h=true):0<=h.copies:=yI
theorem TZ {h1:Hp} (hk:fG h=true) (hz:szD h.toD<=4194304) (hnm:isNm nm=true) (hv:isVec v=true) (e:fL 4 h v=(h1,k)):fG (fd h1 nm k)=true/\(fd h1 nm k).copies=h.copies/\(GD h->GD (fd h1 nm k)):=by have ZJ:=(i6 hv).1;obtain⟨f1,f2,f3,f4,f5⟩:=EC 4 h v (Bz hk hz);have X:=Uc 4 3 h v [] ZJ dP (EX.of hk);have S:=(SL.of hk).ku (VG 4 h v) f3 f4;obtain⟨a,b⟩:=Pl 4 3 h v ZJ dP;have P:=VF 4 3 h v ZJ dP dP;rw[e]at X S a b f5 P;obtain⟨b1,b2,b3,b4,b5⟩:=LF S X hnm a (by rw[b];exact hv);have b4':(fd h1 nm k).copies=h.copies:=b4.trans f5;exact⟨rj b1 b2 (by rw[b4'];exact DE hk),b4',λG=>GD.kv (P G) b3 b1⟩
theorem S7 {y:Cel} (hk:fG h=true) (hnm:isNm nm=true) (hj:h.cells[j]?=some y) (Wz:(j:Int)∈h.slots):fG (fd (eG h j (gE y)) nm (j:Int))=true/\(fd (eG h j (gE y)) nm (j:Int)).copies=h.copies/\(GD h->GD (fd (eG h j (gE y)) nm (j:Int))):=by
 have S0:=SL.of hk;have X0:=EX.of hk;have hcj:celD h (j:Int)=y:=iI hj;have Pr:eG h j (gE y)=incS h (j:Int):=by unfold incS;rw[hcj,aU]
 obtain⟨X1,K1⟩:=DV X0 (X0.slot Wz);have P:=PE X0 (X0.slot Wz);rw[<-Pr]at X1 K1 P;obtain⟨a,b⟩:=S0.f _ Wz;obtain⟨c,d⟩:=qX K1 a;obtain⟨b1,b2,b3,b4,b5⟩:=LF (S0.ku K1 rfl rfl) X1 hnm c (by rw[d];exact b);have b4':(fd (eG h j (gE y)) nm (j:Int)).copies=h.copies:=b4;exact⟨rj b1 b2 (by rw[b4'];exact DE hk),b4',λG=>GD.kv (P G) b3 b1⟩
theorem Pm {k:Nat} {x:Cel} (G:GD g) (hk:k<g.cells.length) (hn:∀c,(k:Int) ∉ (celD g c).parts) (hf:FP (eG g k x) 3 (k:Int)):GD (eG g k x):=λy hy=>by
 by_cases e:y=(k:Int)
 ·rw[e];exact hf
 ·rw[fQ hk,aH e]at hy;exact(ve hk hn e (G y hy)).1
theorem Y0 {rv:Vec} {k:Nat} (hk:fG h=true) (hn:hasN h nm=true) (hnm:isNm nm=true) (o1:(iz h nm).2=(k:Int)) (o2:(iz h nm).1.cells[k]?=some x2) (o3:x2.count=1) (hp:x2.parts=[]) (hv:isVec rv=true) (xR:rv.parts=[]) (hc:h.copies<=1000):
 fG (eG (iz h nm).1 k (⟨x2.count,rv,x2.parts⟩:Cel))=true/\(eG (iz h nm).1 k (⟨x2.count,rv,x2.parts⟩:Cel)).copies<=h.copies+1/\(GD h->GD (eG (iz h nm).1 k (⟨x2.count,rv,x2.parts⟩:Cel))):=by
 have h0:0<=h.copies:=yI;obtain⟨w1,w2,w3,w4,w5,w6,w7,w8⟩:=Vy (SL.of hk) (EX.of hk) hn hnm;obtain⟨c1,c2⟩:=Jl h0 hc w6;have Ch:=(ay.1 o2).1;have ld:=iI o2;rw[o1]at w3;obtain⟨s1,s2⟩:=aeV w1 (by rw[ld];exact o3) w3;have L9:celD (eG (iz h nm).1 k (⟨x2.count,rv,x2.parts⟩:Cel)) (k:Int)=⟨x2.count,rv,x2.parts⟩:=wE;have Zs:FP (eG (iz h nm).1 k (⟨x2.count,rv,x2.parts⟩:Cel)) 3 (k:Int):=by rw[FP,L9];exact⟨by show 0<x2.count;omega,.inl hp,λp Mb=>by rw[show (⟨x2.count,rv,x2.parts⟩:Cel).parts=[] from hp]at Mb;simp at Mb⟩
 refine⟨rj (AO w1 Ch (λj=>?_) xR (λe=>?_)) (P8 w2 Ch s1 Zs ?_) c1,c2,λG=>Pm (w8 G) Ch s1 Zs⟩
 ·rw[ld];simp
 ·have e:x2.count=0:=e;omega
 ·rw[asm,L9];show isVec {rv with parts:=x2.parts.map _}=true;rw[hp,bL];have:noParts rv=rv:=qE xR;exact this ▸ hv
theorem YD {fr:Str}{k:Nat}{y':Cel} {va:Vec} (hk:fG h=true) (hn:hasN h nm=true) (hnm:isNm nm=true) (hj:h.cells[j]?=some y') (Wz:(j:Int)∈h.slots) (hva:asm h 3 (slotD h nm)=va) (h4:va.kind=4) (Tw:1<=fr.length)
 (o1:(iz (eG h j (gE y')) nm).2=(k:Int)) (o2:(iz (eG h j (gE y')) nm).1.cells[k]?=some x2) (o3:x2.count=1) (hq:pu va.names va.parts.length fr=((q+1:Nat):Int)) (hv:isVec (gZ (mV va.parts (gA va.names va.parts.length) va.cls [] q fr (asm h 3 (j:Int))))=true) (hc:h.copies<=1000):
 fG (if 0<=ix x2.value.names fr 0 then iD 5 (eG (iz (eG h j (gE y')) nm).1 k (tb x2 (ix x2.value.names fr 0).toNat (j:Int))) ((x2.parts[(ix x2.value.names fr 0).toNat]?).getD 0) else eG (iz (eG h j (gE y')) nm).1 k (qb x2 fr (j:Int)))=true/\
  (if 0<=ix x2.value.names fr 0 then iD 5 (eG (iz (eG h j (gE y')) nm).1 k (tb x2 (ix x2.value.names fr 0).toNat (j:Int))) ((x2.parts[(ix x2.value.names fr 0).toNat]?).getD 0) else eG (iz (eG h j (gE y')) nm).1 k (qb x2 fr (j:Int))).copies<=h.copies+1/\
  (GD h->GD (if 0<=ix x2.value.names fr 0 then iD 5 (eG (iz (eG h j (gE y')) nm).1 k (tb x2 (ix x2.value.names fr 0).toNat (j:Int))) ((x2.parts[(ix x2.value.names fr 0).toNat]?).getD 0) else eG (iz (eG h j (gE y')) nm).1 k (qb x2 fr (j:Int)))):=by
 have h0:0<=h.copies:=yI;have S0:=SL.of hk;have X0:=EX.of hk;have hcj:celD h (j:Int)=y':=iI hj;have Pr:eG h j (gE y')=incS h (j:Int):=by unfold incS;rw[hcj,aU]
 obtain⟨X1,K1⟩:=DV X0 (X0.slot Wz);have P:=PE X0 (X0.slot Wz);rw[<-Pr]at X1 K1 P;have S1:SL (eG h j (gE y')):=S0.ku K1 rfl rfl;have X4:slotD (eG h j (gE y')) nm=slotD h nm:=rfl;obtain⟨w1,w2,w3,w4,w5,w6,w7,w8⟩:=Vy S1 X1 (show hasN (eG h j (gE y')) nm=true from hn) hnm;obtain⟨c1,c2⟩:=Jl (h:=eG h j (gE y')) h0 hc w6;replace c2:(iz (eG h j (gE y')) nm).1.copies<=h.copies+1:=c2;have XT:slotD h nm∈h.slots:=by
  have hi:0<=ix h.names nm 0:=by simpa [hasN]using hn
  obtain⟨p,hp⟩:=bQ hi;have hg:=(pY h.names nm 0).2;have hl:=S0.l;have mD:p<h.slots.length:=dP;have:slotD h nm=h.slots[p]:=wi;rw[this];exact dA _
 have UL:asm (iz (eG h j (gE y')) nm).1 3 (k:Int)=va:=by rw[<-o1,w5,X4,(qX K1 (S0.f _ XT).1).2,hva]
 have Ch:=(ay.1 o2).1;have ld:=iI o2;rw[o1]at w3;obtain⟨s1,s2⟩:=aeV w1 (by rw[ld];exact o3) w3;have hjk:¬(j:Int)=(k:Int):=λe=>s2 (by rw[<-e];exact aT);have hFj:=w7 3 (j:Int) (qX K1 (S0.f _ Wz).1).1 (w1.out aT);rw[(qX K1 (S0.f _ Wz).1).2]at hFj;have hF:=(w2.f _ w3).1;have w9:GD h->GD (iz (eG h j (gE y')) nm).1:=λG=>w8 (P G);clear w8 P;generalize (iz (eG h j (gE y')) nm).1=g at*;have jV:=(i6 hv).1;have XW:okD 2 (asm h 3 (j:Int))=true:=by obtain⟨d',e1,e2⟩:=(n7 jV).1 (asm h 3 (j:Int)) NO;obtain rfl:d'=2:=dP;exact e2
 have hJ:=Ui w1 (d:=2) hFj.1 (by rw[hFj.2];exact XW) dP;rw[hFj.2]at hJ;have hF':=hF;rw[FP,ld]at hF';have ea:({x2.value with parts:=x2.parts.map (asm g 2)}:Vec)=va:=by rw[<-UL,asm,ld]
 have hvV:isVec va=true:=by rw[<-UL];exact(w2.f _ w3).2
 obtain⟨OC,-⟩:=rm hvV h4;have f1:va.parts=x2.parts.map (asm g 2):=by rw[<-ea]
 have f2:va.names=x2.value.names:=by rw[<-ea]
 have f3:va.cls=x2.value.cls:=by rw[<-ea]
 have f4:x2.value.items=[]:=by have:va.items=x2.value.items:=(by rw[<-ea]);rw[<-this,OC]
 have f5:x2.value.levels=[]:=by have:va.levels=x2.value.levels:=(by rw[<-ea]);rw[<-this,OC]
 have f6:x2.value.code=0/\x2.value.env=0:=by
  have a:va.code=x2.value.code:=by rw[<-ea]
  have b:va.env=x2.value.env:=by rw[<-ea]
  rw[<-a,<-b,OC];exact⟨rfl,rfl⟩
 have f7:va.parts.length=x2.parts.length:=by rw[f1,au]
 have f8:x2.value.parts=[]:=by have:=w1.v (k:Int);rw[ld]at this;exact this
 have f9:x2.value.kind=4:=by have:va.kind=x2.value.kind:=(by rw[<-ea]);rw[<-this];exact h4
 have L:LV va.parts va.names va.cls:=LV.of (by rw[<-OC];exact hvV);obtain⟨p1,p2⟩:=VE (cls:=va.cls) (x:=asm h 3 (j:Int)) L.n Tw hq;have hO:∀(x:Cel) (p:Int),p∈x2.parts->FP (eG g k x) 2 p/\asm (eG g k x) 2 p=asm g 2 p:=λx p hp=>ve Ch s1 (λe=>s1 (k:Int) (by rw[ld];exact e ▸ hp)) (hF'.2.2 p hp);have hOj:∀x:Cel,FP (eG g k x) 2 (j:Int)/\asm (eG g k x) 2 (j:Int)=asm h 3 (j:Int):=λx=>by obtain⟨a,b⟩:=ve (x:=x) Ch s1 hjk hJ.1;exact⟨a,b.trans hJ.2⟩
 have F:=jf hv;by_cases hi:0<=ix x2.value.names fr 0
 ·obtain⟨m,hm⟩:=bQ hi;rw[aN hi,hm,aU];obtain⟨m1,m2⟩:=p2 m (by rw[f2];exact hm);rw[m2]at hv F;have hml:m<x2.parts.length:=dP;rw[aw hml,bV];have xy:tb x2 m (j:Int)=(⟨x2.count,x2.value,x2.parts.set m (j:Int)⟩:Cel):=by unfold tb;rw[Z2 f9]
  rw[xy];have L9:celD (eG g k (⟨x2.count,x2.value,x2.parts.set m (j:Int)⟩:Cel)) (k:Int)=⟨x2.count,x2.value,x2.parts.set m (j:Int)⟩:=wE;have hch:∀p∈x2.parts.set m (j:Int),FP (eG g k (⟨x2.count,x2.value,x2.parts.set m (j:Int)⟩:Cel)) 2 p:=λp hp=>by
   rcases List.mem_or_eq_of_mem_set hp with h1|h1
   ·exact(hO _ p h1).1
   ·rw[h1];exact(hOj _).1
  have Y:EX (eG g k (⟨x2.count,x2.value,x2.parts.set m (j:Int)⟩:Cel)) [x2.parts[m]]:=AO w1 Ch (λi=>by have:=Dr x2.parts m (j:Int) i hml;rw[ld];show (if i=(k:Int) then x2.count - x2.count else 0)+((x2.parts.count i+[(j:Int)].count i:Nat):Int)=(((x2.parts.set m (j:Int)).count i+[x2.parts[m]].count i:Nat):Int);split<;>omega) f8 (λe=>by have e:x2.count=0:=e;omega)
  have Zs:FP (eG g k (⟨x2.count,x2.value,x2.parts.set m (j:Int)⟩:Cel)) 3 (k:Int):=by rw[FP,L9];exact⟨by show 0<x2.count;omega,.inr ⟨f9,by show (x2.parts.set m _).length<=40;rw[da,<-f7];exact L.l⟩,hch⟩
  have T:SL (eG g k (⟨x2.count,x2.value,x2.parts.set m (j:Int)⟩:Cel)):=by
   refine P8 w2 Ch s1 Zs ?_
   ·rw[asm,L9];have e1:(x2.parts.set m (j:Int)).map (asm (eG g k (⟨x2.count,x2.value,x2.parts.set m (j:Int)⟩:Cel)) 2)=va.parts.set m (asm h 3 (j:Int)):=by rw[dH,(hOj _).2,f1,cT λp hp=>(hO _ p hp).2]
    show isVec ⟨x2.value.kind,x2.value.items,(x2.parts.set m (j:Int)).map _,x2.value.names,x2.value.cls,x2.value.levels,x2.value.code,x2.value.env⟩=true;rw[e1,f4,f5,f6.1,f6.2,f9,<-f2,<-f3];exact hv
  have QO:=OP (hO (⟨x2.count,x2.value,x2.parts.set m (j:Int)⟩:Cel) x2.parts[m] (dA hml)).1;obtain⟨r1,r2⟩:=Ph 5 2 _ _ [] QO dP Y;obtain⟨n1,n2,n3⟩:=ug 5 (eG g k (⟨x2.count,x2.value,x2.parts.set m (j:Int)⟩:Cel)) x2.parts[m];refine⟨rj r1 ⟨by rw[n1,n2];exact T.l,λi s=>by rw[n1];exact T.n i s,λy hy=>?_⟩ (by rw[n3];exact c1),by rw[n3];exact c2,λG=>GD.kv (Pm (w9 G) Ch s1 Zs) r2 r1⟩;have hu:=r1.slot hy;rw[n2]at hy;obtain⟨a,b⟩:=T.f y hy;obtain⟨c,d⟩:=Dx r2 r1 a hu;exact⟨c,by rw[d];exact b⟩
 ·rw[aH hi];have m2:=p1 (by rw[f2];omega);rw[m2]at hv F;have L9:celD (eG g k (qb x2 fr (j:Int))) (k:Int)=qb x2 fr (j:Int):=wE;have e0:(qb x2 fr (j:Int)).parts=x2.parts++[(j:Int)]:=rfl;have Zs:FP (eG g k (qb x2 fr (j:Int))) 3 (k:Int):=by
   rw[FP,L9,e0];have hl:=F.len;simp only[bf,aY,bt]at hl;refine⟨by show 0<x2.count;omega,.inr ⟨rfl,by rw[aY,bt];omega⟩,λp hp=>?_⟩;rcases aG.1 hp with h1|h1
   ·exact(hO _ p h1).1
   ·obtain rfl:p=(j:Int):=mt;exact(hOj _).1
  refine⟨rj (AO w1 Ch (λi=>?_) f8 (λe=>?_)) (P8 w2 Ch s1 Zs ?_) c1,c2,λG=>Pm (w9 G) Ch s1 Zs⟩
  ·rw[ld,e0,bT];show (if i=(k:Int) then x2.count - x2.count else 0)+_=_;simp
  ·have e:x2.count=0:=e;omega
  ·rw[asm,L9,e0];have e1:(x2.parts++[(j:Int)]).map (asm (eG g k (qb x2 fr (j:Int))) 2)=va.parts++[asm h 3 (j:Int)]:=by rw[aI,br,bL,(hOj _).2,f1,cT λp hp=>(hO _ p hp).2]
   rw[e1];show isVec ⟨4,x2.value.items,va.parts++[asm h 3 (j:Int)],gA x2.value.names x2.parts.length++[fr],x2.value.cls,x2.value.levels,x2.value.code,x2.value.env⟩=true;rw[f4,f5,f6.1,f6.2,<-f2,<-f3,<-f7];exact hv
theorem Mem.zeroHeap (M:Mem prog w0 X w R):Mem prog w0 X w (.ow (Hp.toD ⟨[],[],[],0⟩) 28 [(),(),(),.int .i64 0]::R):=
 Mem.joinHeap (h:=⟨[],[],[],0⟩) (((M.nil (t:=26) underlying26).nil (t:=25) underlying25).nil (t:=24) underlying24) le
def Q5:Str:=[110,111,116,32,97,32,118,101,99,116,111,114,32,111,102,32,101,108,101,109,101,110,116,115]
def QD:Str:=[105,110,118,97,108,105,100,32,111,112,101,114,97,116,105,111,110]
theorem Xa (v x:Vec) (pt:Int) (cv cs cx:List Value) (w:World) (gF:rep w w.heap.size v.toD cv) (mP:rep w w.heap.size (nU [pt]).toD cs) (fE:rep w w.heap.size x.toD cx) (jI:isVec v=true) (jJ:isVec x=true) (gf:bigV v) (jH:bigV x) (h5:v.kind=5):
 Calls prog 105 #[av cv,av cs,av cx] w λe w'=>e= .returned (.tuple #[(),sv Q5])/\Below w.heap.size w w':=by
 have tx:=aa jI;have qM:=aa jJ;have lJ:=aa gf;have qo:=aa jH;have q1:(v.kind==5)=true:=by simp [h5]
 obtain⟨sb,so,c1,A2,c2,A3,c3,A4,c4,A5,c5,rfl,tV,e0,e1,e2⟩:=kV mP;obtain⟨Ai,ci,Ap,cp,An,cn,Ac,cc,Al,cl,rfl,wk,ri,rp,rn,rc,rl,wc,we⟩:=d_ gF;obtain⟨w_,xd,yQ,yU,yP,yT,yN,yR,yO,yS,rfl,CR,CK,CN,CM,CH,CL,AC,CQ⟩:=d_ fE;clear jI jJ gf jH h5 e0 e1 e2;have M:Mem prog w [] w []:=Mem.start;go_enter func105,ntmps105;refine Sq (Sa M (λJ1 wv M=>?_));refine Sa M (λJ2 wv M=>?_);refine Sa M (λJ3 wv M=>?_);refine Sb M [] 2 (Sz (ae (Sq ?_)));refine Sb M [2] 1 ?_;refine Sc (aF (ff v _ _ (M.arg gF) lJ.out) ?_);rintro e w' ⟨rfl,hb⟩;rw[tx.out];replace M:=M.next hb;refine Sp ?_;refine Sb M [0] 3 ?_;refine Sc (aF (ff x _ _ (M.arg fE) qo.out) ?_);rintro e w' ⟨rfl,hb⟩;rw[qM.out];replace M:=M.next hb;refine Sp ?_;refine Sb M [] 2 (Sz ?_);refine gk (ae ?_);refine Ra M [2] ?_;refine ct ?_;refine Ra M [] (aO (fI ?_));refine vQ results105 ?_;exact⟨rfl,M.bel⟩
theorem YT (v x:Vec) (pt:Int) (cv cs cx:List Value) (w:World) (gF:rep w w.heap.size v.toD cv) (mP:rep w w.heap.size (nU [pt]).toD cs) (fE:rep w w.heap.size x.toD cx) (jI:isVec v=true) (jJ:isVec x=true) (gf:bigV v) (jH:bigV x) (h5:v.kind=5):
 Calls prog 42 #[av cv,av cs,av cx] w (eH zeroV.toD 38 (sv Q5) w):=by
 have HAP:=aa (λ(W:World) a b c=>Xa v x pt cv cs cx W a b c jI jJ gf jH h5);obtain⟨sb,so,c1,A2,c2,A3,c3,A4,c4,A5,c5,rfl,tV,e0,e1,e2⟩:=kV mP;obtain⟨Ai,ci,Ap,cp,An,cn,Ac,cc,Al,cl,rfl,wk,ri,rp,rn,rc,rl,wc,we⟩:=d_ gF;obtain⟨w_,xd,yQ,yU,yP,yT,yN,yR,yO,yS,rfl,CR,CK,CN,CM,CH,CL,AC,CQ⟩:=d_ fE;clear jI jJ gf jH h5 e0 e1 e2;have M:Mem prog w [] w []:=Mem.start;go_enter func42,ntmps42;refine Sq (Sa M (λJ1 wv M=>?_));refine Sa M (λJ2 wv M=>?_);refine Sa M (λJ3 wv M=>?_);refine Sa M (λJ4 wv M=>?_);refine Sb M [] 1 (Sz (Sq ?_));refine Sb M [1,2,3] 3 ?_;refine Sc (f_ (HAP.out _ (M.arg gF) (M.arg mP) (M.arg fE)) M λJ5 wv M=>Sp ?_);refine Sb M [] 5 (Sz (ae ?_));refine Ra M [] ?_;refine ct (Sq ?_);refine Sb M [] 2 ?_;refine Ss M 0 (λwv M=>?_);refine Sb M [] 1 (Sz (aO (fI ?_)));refine kN results42 M 0 ?_;exact(M.zeroVec).retTwo
theorem NZ (v x:Vec) (pt:Int) (cv cs cx:List Value) (w:World) (gF:rep w w.heap.size v.toD cv) (mP:rep w w.heap.size (nU [pt]).toD cs) (fE:rep w w.heap.size x.toD cx) (jI:isVec v=true) (jJ:isVec x=true) (gf:bigV v) (jH:bigV x) (h5:v.kind=5):
 Calls prog 52 #[av cv,av cs,av cx] w (eH zeroV.toD 38 (sv Q5) w):=by
 have tx:=aa jI;have qM:=aa jJ;have lJ:=aa gf;have qo:=aa jH;have q1:(v.kind==5)=true:=by simp [h5]
 obtain⟨sb,so,c1,A2,c2,A3,c3,A4,c4,A5,c5,rfl,tV,e0,e1,e2⟩:=kV mP;obtain⟨Ai,ci,Ap,cp,An,cn,Ac,cc,Al,cl,rfl,wk,ri,rp,rn,rc,rl,wc,we⟩:=d_ gF;obtain⟨w_,xd,yQ,yU,yP,yT,yN,yR,yO,yS,rfl,CR,CK,CN,CM,CH,CL,AC,CQ⟩:=d_ fE;clear jI jJ gf jH h5 e0 e1 e2;have M:Mem prog w [] w []:=Mem.start;go_enter func52,ntmps52;refine Sq (Sa M (λJ1 wv M=>?_));refine Sa M (λJ2 wv M=>?_);refine Sa M (λJ3 wv M=>?_);refine Sa M (λJ4 wv M=>?_);refine Sb M [] 1 (Sz (ae (Sq ?_)));refine Sb M [3] 1 ?_;refine Sc (aF (ew v _ _ (M.arg gF) lJ.out) ?_);rintro e w' ⟨rfl,hb⟩;rw[tx.out];replace M:=M.next hb;refine Sp ?_;refine Sb M [1] 3 ?_;refine Sc (aF (ew x _ _ (M.arg fE) qo.out) ?_);rintro e w' ⟨rfl,hb⟩;rw[qM.out];replace M:=M.next hb;refine Sp ?_;refine Sb M [] 2 (Sz ?_);refine gk (ae ?_);refine Ra M [3] ?_;refine ct (Sq ?_);refine Sb M [] 1 ?_;refine Ss M 0 (λwv M=>?_);refine Sb M [] 1 (Sz (aO (fI ?_)));refine kN results52 M 0 ?_;exact(M.zeroVec).retTwo
theorem Qb (hv:isVec v=true) (hx:isVec x=true) (h5:v.kind=5):wH v x pt zeroV Q5:=
 ⟨λcv cs cx W a b c=>YT v x pt cv cs cx W a b c hv hx (eC hv) (eC hx) h5,λcv cs cx W a b c=>NZ v x pt cv cs cx W a b c hv hx (eC hv) (eC hx) h5⟩
theorem PC (h:Hp) (kd pt:Int) (nm fr:Str) (v:Vec) (hz:szD h.toD<=4194304) (l7:fG h=true) (oU:je ⟨kd,nm,fr,pt,v⟩=false) (gf:bigV v) (cs cx:List Value) (w:World) (oD:rep w w.heap.size h.toD cs) (fE:rep w w.heap.size (Hop.toD ⟨kd,nm,fr,pt,v⟩) cx):
 Calls prog 10 #[av cs,av cx] w (eH (Hp.toD ⟨[],[],[],0⟩) 28 (sv QD) w):=by
 have jV:=aa l7;have lJ:=aa gf;have wS:=aa oU;obtain⟨Ah,ch,An,cn,Ak,ck,rfl,rc,rn,ER,wc⟩:=gV oD;obtain⟨Ai,ci,Ap,cp,OL,O7,Ac,cc,Al,cl,rfl,wn,wf,wa,gF⟩:=gQ fE;clear l7 gf oU rc rn ER wc;have M:Mem prog w [] w []:=Mem.start;go_enter func10,ntmps10;refine Sq (Sa M (λJ1 wv M=>?_));refine Sa M (λJ2 wv M=>?_);refine Sa M (λJ3 wv M=>?_);refine Sb M [] 1 (Sz (ae (Sq ?_)));refine Sb M [2] 1 ?_;refine Sc (aF (kT h hz _ _ (M.arg oD)) ?_);rintro e w' ⟨rfl,hb⟩;rw[jV.out];replace M:=M.next hb;refine Sp ?_;refine Sb M [1] 3 ?_;refine Sc (aF (kS _ _ _ (M.arg fE) lJ.out) ?_);rintro e w' ⟨rfl,hb⟩;rw[wS.out];replace M:=M.next hb;refine Sp ?_;refine Sb M [] 2 (Sz ?_);refine ct (Sq ?_);refine Sb M [] 1 ?_;refine Ss M 0 (λwv M=>?_);refine Sb M [] 1 (Sz (aO (fI ?_)));refine kN results10 M 0 ?_;exact(M.zeroHeap).retTwo
theorem Qa (h:Hp) (kd pt:Int) (nm fr:Str) (v:Vec) (hz:szD h.toD<=4194304) (l7:fG h=true) (oU:je ⟨kd,nm,fr,pt,v⟩=false) (gf:bigV v) (cs cx:List Value) (w:World) (oD:rep w w.heap.size h.toD cs) (fE:rep w w.heap.size (Hop.toD ⟨kd,nm,fr,pt,v⟩) cx):
 Calls prog 11 #[av cs,av cx] w (eH (Hp.toD ⟨[],[],[],0⟩) 28 (sv QD) w):=by
 have jV:=aa l7;have lJ:=aa gf;have wS:=aa oU;obtain⟨Ah,ch,An,cn,Ak,ck,rfl,rc,rn,ER,wc⟩:=gV oD;obtain⟨Ai,ci,Ap,cp,OL,O7,Ac,cc,Al,cl,rfl,wn,wf,wa,gF⟩:=gQ fE;clear l7 gf oU rc rn ER wc;have M:Mem prog w [] w []:=Mem.start;go_enter func11,ntmps11;refine Sq (Sa M (λJ1 wv M=>?_));refine Sa M (λJ2 wv M=>?_);refine Sa M (λJ3 wv M=>?_);refine Sb M [] 1 (Sz (ae (Sq ?_)));refine Sb M [2] 1 ?_;refine Sc (aF (k9 h hz _ _ (M.arg oD)) ?_);rintro e w' ⟨rfl,hb⟩;rw[jV.out];replace M:=M.next hb;refine Sp ?_;refine Sb M [1] 3 ?_;refine Sc (aF (kZ _ _ _ (M.arg fE) lJ.out) ?_);rintro e w' ⟨rfl,hb⟩;rw[wS.out];replace M:=M.next hb;refine Sp ?_;refine Sb M [] 2 (Sz ?_);refine ct (Sq ?_);refine Sb M [] 1 ?_;refine Ss M 0 (λwv M=>?_);refine Sb M [] 1 (Sz (aO (fI ?_)));refine kN results11 M 0 ?_;exact(M.zeroHeap).retTwo
theorem aaZ {d:D} {t:TypeId} (h:rK prog d t) (ht:t=49) (hr:rep w B d cs):∃(l:List Hop) (cs':List Value),cs=cs'/\rep w B (.sl (l.map Hop.toD)) cs':=by subst ht;obtain⟨xs,rfl,h2⟩:=mM underlying49 h;obtain⟨l,rfl⟩:=pg (λd hd=>OT hd) h2;exact⟨l,cs,rfl,hr⟩
end Go.Proofs.YtekcpadlmfaihaaGreat
