/- Making one's own, changing a cell and putting a part keep a heap right, plainly. -/
import Derived.Test.YtekcpadlmfaihaaGreatWNss
import Derived.Test.YtekcpadlmfaihaaGreatWQe
import Derived.Test.YtekcpadlmfaihaaGreatWNb
import Derived.Test.YtekcpadlmfaihaaGreatWHe
import Derived.Test.YtekcpadlmfaihaaGreatWMeg
import Derived.Test.YtekcpadlmfaihaaGreatWNa
import Derived.Test.YtekcpadlmfaihaaGreatWNsw
namespace Go.Proofs.YtekcpadlmfaihaaGreat
open Go.RowKit Proofs.Tryz
set_option maxHeartbeats 8000000
set_option maxRecDepth 100000
set_option linter.unusedSimpArgs false
set_option linter.unusedVariables false
variable {x x2:Cel} {g h:Hp} {E:List Int} {cls ns:List Str} {its:List Vec} {j k q:Nat} {nm:Str} {v:Vec}
theorem ZN:∀(l:List Str) (iU:Str) (i:Nat),ix l iU i= -1\/(i:Int)<=ix l iU i
 |[],iU,i=>by rw[ix];omega
 |e::t,iU,i=>by
  rw[ix];split
  ·omega
  ·have:=ZN t iU (i+1);omega
theorem Nr:∀{l:List Str} {iU:Str} {i j:Nat},ix l iU i=((i+j:Nat):Int)->l[j]?=some iU
 |[],iU,i,j,h=>by rw[ix]at h;omega
 |e::t,iU,i,j,h=>by
  rw[ix]at h;split at h
  ·next he=>
   have:j=0:=dP;subst this;simp [he]
  ·have hg:=pY t iU (i+1);cases j with
   |zero=>
    have h1:=ZN t iU (i+1);omega
   |succ j=>rw[ag];exact Nr (i:=i+1) (by rw[h];congr 1;omega)
theorem S6 (hx:h.cells[k]?=some x):eG h k x=h:=by obtain⟨hk,e⟩:=ay.1 hx;unfold eG;rw[<-e,List.set_getElem_self hk]
theorem Z2 (h:v.kind=4):(⟨4,v.items,v.parts,v.names,v.cls,v.levels,v.code,v.env⟩:Vec)=v:=by obtain⟨a,b,c,d,e,f,g,i⟩:=v;simp only at h;subst h;rfl
theorem J_ {x:Vec} (hn:ns=[]\/ns.length=its.length) (hnm:1<=nm.length) (hq:pu ns its.length nm=((q+1:Nat):Int)):
 (ix ns nm 0<0->(gZ (mV its (gA ns its.length) cls [] q nm x)).names=gA ns its.length++[nm])/\(0<=ix ns nm 0->(gZ (mV its (gA ns its.length) cls [] q nm x)).names=ns):=by
 have jC:¬nm=[]:=by rintro rfl;simp at hnm
 have hf:=Jt hn;refine⟨λhi=>?_,λhi=>?_⟩
 ·rw[tq hi]at hq;have e:q=its.length:=dP;subst e;have e1:(mV its (gA ns its.length) cls [] its.length nm x).names=gA ns its.length++[nm]:=by
   show (if its.length<its.length then gA ns its.length else (eY (gA ns its.length) (its.length+1) []).set its.length nm)=_;rw[aH dP];unfold eY;rw[hf,show its.length+1 - its.length=1 by omega,show List.replicate 1 ([]:Str)=[[]] from rfl];have h2:∀(l:List Str) (a b:Str),(l++[a]).set l.length b=l++[b]:=λl a b=>by simp
   have h3:=h2 (gA ns its.length) [] nm;rw[hf]at h3;exact h3
  have e2:lR (gA ns its.length++[nm])=false:=KC (j:=(gA ns its.length).length) dR jC;unfold gZ;rw[e1,e2,aH dQ,e1]
 ·have hg:=pY ns nm 0;rw[tt dP]at hq;have hq':ix ns nm 0=((0+q:Nat):Int):=dP;have hx:=Nr hq';have hl:ns.length=its.length:=by
   rcases hn with rfl|h
   ·simp at hx
   ·exact h
  have Px:=(ay.1 hx).1;have hf2:gA ns its.length=ns:=by unfold gA;rw[aH (by rintro rfl;simp at hx)]
  have e1:(mV its (gA ns its.length) cls [] q nm x).names=ns:=by show (if q<its.length then gA ns its.length else _)=_;rw[aN dP,hf2]
  have e2:lR ns=false:=KC hx jC;unfold gZ;rw[e1,e2,aH dQ,e1]
theorem VE {x:Vec} (hn:ns=[]\/ns.length=its.length) (hnm:1<=nm.length) (hq:pu ns its.length nm=((q+1:Nat):Int)):
 (ix ns nm 0<0->gZ (mV its (gA ns its.length) cls [] q nm x)=⟨4,[],its++[x],gA ns its.length++[nm],cls,[],0,0⟩)/\(∀m:Nat,ix ns nm 0=(m:Int)->m<its.length/\gZ (mV its (gA ns its.length) cls [] q nm x)=⟨4,[],its.set m x,ns,cls,[],0,0⟩):=by
 obtain⟨p1,p2⟩:=J_ (cls:=cls) (x:=x) hn hnm hq;have iU:∀(T:Vec) (P:List Vec),T.kind=4->T.items=[]->T.cls=cls->T.levels=[]->T.code=0->T.env=0->T.parts=P->T=⟨4,[],P,T.names,cls,[],0,0⟩:=by rintro⟨a,b,c,d,e,f,g,i⟩ P h1 h2 h3 h4 h5 h6 h7;simp only at h1 h2 h3 h4 h5 h6 h7;subst h1 h2 h3 h4 h5 h6 h7;rfl
 have hT:∀P,(eY its (q+1) zeroV).set q x=P->gZ (mV its (gA ns its.length) cls [] q nm x)=⟨4,[],P,(gZ (mV its (gA ns its.length) cls [] q nm x)).names,cls,[],0,0⟩:=λP hP=>by refine iU _ P ?_ ?_ ?_ ?_ ?_ ?_ ?_<;>(unfold gZ;split<;>first|rfl|exact hP)
 refine⟨λhi=>?_,λm hm=>?_⟩
 ·rw[tq hi]at hq;have e:q=its.length:=dP;subst e;have e2:(eY its (its.length+1) zeroV).set its.length x=its++[x]:=by unfold eY;rw[show its.length+1 - its.length=1 by omega,show List.replicate 1 zeroV=[zeroV] from rfl];simp
  rw[hT _ e2,p1 hi]
 ·have hg:=(pY ns nm 0).2;rw[tt dP]at hq;have e:q=m:=dP;subst e;have hl:ns.length=its.length:=by
   rcases hn with rfl|h
   ·simp at hg;omega
   ·exact h
  have e2:(eY its (q+1) zeroV).set q x=its.set q x:=by rw[pE dP]
  exact⟨by omega,by rw[hT _ e2,p2 dP]⟩
theorem Ug {k p:Int} (hp:p∈(celD h k).parts):p∈h.cells.flatMap (·.parts):=by
 unfold celD at hp;split at hp
 ·cases hc:h.cells[k.toNat]? with
  |none=>rw[hc]at hp;simp at hp
  |some c=>
   rw[hc]at hp;exact dM.2 ⟨c,aA hc,hp⟩
 ·simp at hp
theorem aeV {k:Int} (X:EX h E) (h1:(celD h k).count=1) (hk:k∈h.slots):(∀c,k ∉ (celD h c).parts)/\k ∉ E:=by
 have h2:=X.c k;rw[h1]at h2;have h3:(refs h).count k=h.slots.count k+(h.cells.flatMap (·.parts)).count k:=bT;have h4:=eo.2 hk;refine⟨λc hc=>?_,λhe=>?_⟩
 ·have:=eo.2 (Ug hc);omega
 ·have:=eo.2 he;omega
theorem ve {h:Hp} {k:Nat} {x:Cel} (hk:k<h.cells.length) (hn:∀c,(k:Int) ∉ (celD h c).parts):∀{d:Nat} {y:Int},¬y=(k:Int)->FP h d y->FP (eG h k x) d y/\asm (eG h k x) d y=asm h d y
 |0,y,hy,e=>by
  have hc:celD (eG h k x) y=celD h y:=by rw[fQ hk,aH hy]
  rw[FP]at e;rw[FP,asm,asm,hc];exact⟨e,rfl⟩
 |d+1,y,hy,e=>by
  have hc:celD (eG h k x) y=celD h y:=by rw[fQ hk,aH hy]
  rw[FP]at e;have iU:∀p∈(celD h y).parts,FP (eG h k x) d p/\asm (eG h k x) d p=asm h d p:=λp hp=>ve hk hn (λe1=>hn y (e1 ▸ hp)) (e.2.2 p hp);rw[FP,asm,asm,hc];refine⟨⟨e.1,e.2.1,λp hp=>(iU p hp).1⟩,?_⟩;rw[cT λp hp=>(iU p hp).2]
theorem Ui {h:Hp} {E:List Int} (X:EX h E):∀{d e:Nat} {k:Int},FP h e k->okD d (asm h e k)=true->d<=e->FP h d k/\asm h d k=asm h e k
 |0,e,k,hf,ho,_=>by
  have hz:(asm h e k).parts=[]:=by rw[okD]at ho;simp only[ax,dh]at ho;exact ho.2
  cases e with
  |zero=>exact⟨hf,rfl⟩
  |succ e=>
   have hp:(celD h k).parts=[]:=by rw[asm]at hz;simpa using hz
   rw[FP,asm,asm,hp];exact⟨⟨aao hf,rfl⟩,(qE (X.v k)).symm⟩
 |d+1,e,k,hf,ho,E3=>by
  obtain⟨e,rfl⟩:∃e',e=e'+1:=⟨e - 1,by omega⟩;have ZC:=(n7 ho).1;rw[FP]at hf;have iU:∀p∈(celD h k).parts,FP h d p/\asm h d p=asm h e p:=λp hp=>by obtain⟨d',e1,h1⟩:=ZC (asm h e p) (by rw[asm];exact dt hp);obtain rfl:d=d':=dP;exact Ui X (hf.2.2 p hp) h1 dP
  rw[FP,asm,asm];refine⟨⟨hf.1,hf.2.1,λp hp=>(iU p hp).1⟩,?_⟩;rw[cT λp hp=>(iU p hp).2]
theorem Vy {s:Str} (S:SL h) (X:EX h E) (hs:hasN h s=true) (hnm:isNm s=true):
 EX (iz h s).1 E/\SL (iz h s).1/\(iz h s).2∈(iz h s).1.slots/\(iz h s).1.names=h.names/\asm (iz h s).1 3 (iz h s).2=asm h 3 (slotD h s)/\((iz h s).1.copies=h.copies\/(iz h s).1.copies=wrap64 (h.copies+1))/\
  (∀(d:Nat) (y:Int),FP h d y->0<(celD (iz h s).1 y).count->FP (iz h s).1 d y/\asm (iz h s).1 d y=asm h d y)/\(GD h->GD (iz h s).1):=by
 have hi:0<=ix h.names s 0:=by simpa [hasN]using hs
 obtain⟨p,hp⟩:=bQ hi;have hg:=(pY h.names s 0).2;have hl:=S.l;have mD:p<h.slots.length:=dP;have X4:slotD h s=h.slots[p]:=wi;have XT:slotD h s∈h.slots:=by rw[X4];exact dA _
 obtain⟨hF,hV⟩:=S.f _ XT;by_cases h1:(celD h (slotD h s)).count=1
 ·have e:iz h s=(h,slotD h s):=by unfold iz;rw[aN h1]
  rw[e];exact⟨X,S,XT,rfl,rfl,.inl rfl,λd y hy _=>⟨hy,rfl⟩,λG=>G⟩
 ·have e:iz h s=({fd (ownH h s).1 s (ownH h s).2 with copies:=wrap64 (h.copies+1)},(ownH h s).2):=by unfold iz;rw[aH h1]
  rw[e];obtain⟨i1,i2⟩:=QW (celD h (slotD h s)).parts h E X (λq hq=>X.part hq);have X1:EX (ownH h s).1 ((ownH h s).2::E):=QI (c:=⟨1,(celD h (slotD h s)).value,(celD h (slotD h s)).parts⟩) i1 rfl (X.v _);have K1:KU h (ownH h s).1:=i2.trans (CP _ _);obtain⟨n,t1,t2,t3,t4,t5⟩:=qG ((celD h (slotD h s)).parts.foldl incS h) ⟨1,(celD h (slotD h s)).value,(celD h (slotD h s)).parts⟩;have m1:=nX tX (celD h (slotD h s)).parts h;have m2:=qd ((celD h (slotD h s)).parts.foldl incS h) ⟨1,(celD h (slotD h s)).value,(celD h (slotD h s)).parts⟩;have e1:(ownH h s).1.names=h.names:=m2.1.trans m1.1;have e2:(ownH h s).1.slots=h.slots:=m2.2.1.trans m1.2.1;have S1:SL (ownH h s).1:=S.ku K1 e1 e2;have hcn:celD (ownH h s).1 (ownH h s).2=⟨1,(celD h (slotD h s)).value,(celD h (slotD h s)).parts⟩:=by have:=t4 (n:Int);rw[aN rfl]at this;rw[show (ownH h s).2=(n:Int) from t1];exact this
  have hFA:FP (ownH h s).1 3 (ownH h s).2/\asm (ownH h s).1 3 (ownH h s).2=asm h 3 (slotD h s):=by rw[FP]at hF;rw[FP,asm,asm,hcn];refine⟨⟨by show (0:Int)<1;omega,hF.2.1,λq hq=>(qX K1 (hF.2.2 q hq)).1⟩,?_⟩;show ({(celD h (slotD h s)).value with parts:=(celD h (slotD h s)).parts.map (asm (ownH h s).1 2)}:Vec)=_;rw[cT λq hq=>(qX K1 (hF.2.2 q hq)).2]
  obtain⟨b1,b2,b3,b4,b5⟩:=LF S1 X1 hnm hFA.1 (by rw[hFA.2];exact hV);have hin:(ownH h s).2∈(fd (ownH h s).1 s (ownH h s).2).slots/\(fd (ownH h s).1 s (ownH h s).2).names=h.names:=by
   rcases b5 with ⟨p',q1,q2,q3,q4⟩|⟨q1,q2,q3⟩
   ·exact⟨by rw[q4];exact dB.2 ⟨p',by rw[List.getElem?_set_self q2]⟩,q3.trans e1⟩
   ·rw[e1]at q1;omega
  have hu:=b1.slot hin.1;have hA:=Dx b3 b1 hFA.1 hu;refine⟨RY b1 _,S8 b2 _,hin.1,hin.2,?_,.inr rfl,λd y hy hc=>?_,λG=>R2 (GD.kv (Rs (QV _ h E X (λq hq=>X.part hq) G) hFA.1) b3 b1) _⟩
  ·exact(nY _).2.trans (hA.2.trans hFA.2)
  ·obtain⟨r1,r2⟩:=qX K1 hy;obtain⟨r3,r4⟩:=Dx b3 b1 r1 hc;exact⟨(nY _).1.2 r3,(nY _).2.trans (r4.trans r2)⟩
theorem Jl {c:Int} (h0:0<=h.copies) (h1:h.copies<=1000) (e:c=h.copies\/c=wrap64 (h.copies+1)):0<=c/\c<=h.copies+1:=by
 rcases e with e|e
 ·omega
 ·rw[e];unfold wrap64;omega
theorem P8 (S:SL g) (hk:k<g.cells.length) (hn:∀c,(k:Int) ∉ (celD g c).parts) (hf:FP (eG g k x) 3 (k:Int)) (hv:isVec (asm (eG g k x) 3 (k:Int))=true):SL (eG g k x):=by
 refine⟨S.l,S.n,λy hy=>?_⟩;by_cases e:y=(k:Int)
 ·rw[e];exact⟨hf,hv⟩
 ·obtain⟨a,b⟩:=S.f y hy;obtain⟨c,d⟩:=ve (x:=x) hk hn e a;exact⟨c,by rw[d];exact b⟩
theorem DE (hk:fG h=true):0<=h.copies:=yI
theorem TZ {h1:Hp} {k:Int} (hk:fG h=true) (hz:szD h.toD<=4194304) (hnm:isNm nm=true) (hv:isVec v=true) (e:fL 4 h v=(h1,k)):fG (fd h1 nm k)=true/\(fd h1 nm k).copies=h.copies/\(GD h->GD (fd h1 nm k)):=by have ZJ:=(i6 hv).1;obtain⟨f1,f2,f3,f4,f5⟩:=EC 4 h v (Bz hk hz);have X:=Uc 4 3 h v [] ZJ dP (EX.of hk);have S:=(SL.of hk).ku (VG 4 h v) f3 f4;obtain⟨a,b⟩:=Pl 4 3 h v ZJ dP;have P:=VF 4 3 h v ZJ dP dP;rw[e]at X S a b f5 P;obtain⟨b1,b2,b3,b4,b5⟩:=LF S X hnm a (by rw[b];exact hv);have b4':(fd h1 nm k).copies=h.copies:=b4.trans f5;exact⟨rj b1 b2 (by rw[b4'];exact DE hk),b4',λG=>GD.kv (P G) b3 b1⟩
theorem S7 {y:Cel} (hk:fG h=true) (hnm:isNm nm=true) (hj:h.cells[j]?=some y) (Wz:(j:Int)∈h.slots):fG (fd (eG h j (gE y)) nm (j:Int))=true/\(fd (eG h j (gE y)) nm (j:Int)).copies=h.copies/\(GD h->GD (fd (eG h j (gE y)) nm (j:Int))):=by
 have S0:=SL.of hk;have X0:=EX.of hk;have hcj:celD h (j:Int)=y:=iI hj;have Pr:eG h j (gE y)=incS h (j:Int):=by unfold incS;rw[hcj,aU]
 obtain⟨X1,K1⟩:=DV9 X0 (X0.slot Wz);have P:=PE X0 (X0.slot Wz);rw[<-Pr]at X1 K1 P;obtain⟨a,b⟩:=S0.f _ Wz;obtain⟨c,d⟩:=qX K1 a;obtain⟨b1,b2,b3,b4,b5⟩:=LF (S0.ku K1 rfl rfl) X1 hnm c (by rw[d];exact b);have b4':(fd (eG h j (gE y)) nm (j:Int)).copies=h.copies:=b4;exact⟨rj b1 b2 (by rw[b4'];exact DE hk),b4',λG=>GD.kv (P G) b3 b1⟩
theorem Pm (G:GD g) (hk:k<g.cells.length) (hn:∀c,(k:Int) ∉ (celD g c).parts) (hf:FP (eG g k x) 3 (k:Int)):GD (eG g k x):=λy hy=>by
 by_cases e:y=(k:Int)
 ·rw[e];exact hf
 ·rw[fQ hk,aH e]at hy;exact(ve hk hn e (G y hy)).1
theorem Y0 {rv:Vec} (hk:fG h=true) (hn:hasN h nm=true) (hnm:isNm nm=true) (o1:(iz h nm).2=(k:Int)) (o2:(iz h nm).1.cells[k]?=some x2) (o3:x2.count=1) (hp:x2.parts=[]) (hv:isVec rv=true) (xR:rv.parts=[]) (hc:h.copies<=1000):
 fG (eG (iz h nm).1 k (⟨x2.count,rv,x2.parts⟩:Cel))=true/\(eG (iz h nm).1 k (⟨x2.count,rv,x2.parts⟩:Cel)).copies<=h.copies+1/\(GD h->GD (eG (iz h nm).1 k (⟨x2.count,rv,x2.parts⟩:Cel))):=by
 have h0:0<=h.copies:=yI;obtain⟨w1,w2,w3,w4,w5,w6,w7,w8⟩:=Vy (SL.of hk) (EX.of hk) hn hnm;obtain⟨c1,c2⟩:=Jl h0 hc w6;have Ch:=(ay.1 o2).1;have ld:=iI o2;rw[o1]at w3;obtain⟨s1,s2⟩:=aeV w1 (by rw[ld];exact o3) w3;have L9:celD (eG (iz h nm).1 k (⟨x2.count,rv,x2.parts⟩:Cel)) (k:Int)=⟨x2.count,rv,x2.parts⟩:=wE;have Zs:FP (eG (iz h nm).1 k (⟨x2.count,rv,x2.parts⟩:Cel)) 3 (k:Int):=by rw[FP,L9];exact⟨by show 0<x2.count;omega,.inl hp,λp Mb=>by rw[show (⟨x2.count,rv,x2.parts⟩:Cel).parts=[] from hp]at Mb;simp at Mb⟩
 refine⟨rj (AO w1 Ch (λj=>?_) xR (λe=>?_)) (P8 w2 Ch s1 Zs ?_) c1,c2,λG=>Pm (w8 G) Ch s1 Zs⟩
 ·rw[ld];simp
 ·have e:x2.count=0:=e;omega
 ·rw[asm,L9];show isVec {rv with parts:=x2.parts.map _}=true;rw[hp,bL];have:noParts rv=rv:=qE xR;exact this ▸ hv
theorem YD {fr:Str}{y':Cel} {va:Vec} (hk:fG h=true) (hn:hasN h nm=true) (hnm:isNm nm=true) (hj:h.cells[j]?=some y') (Wz:(j:Int)∈h.slots) (hva:asm h 3 (slotD h nm)=va) (h4:va.kind=4) (Tw:1<=fr.length)
 (o1:(iz (eG h j (gE y')) nm).2=(k:Int)) (o2:(iz (eG h j (gE y')) nm).1.cells[k]?=some x2) (o3:x2.count=1) (hq:pu va.names va.parts.length fr=((q+1:Nat):Int)) (hv:isVec (gZ (mV va.parts (gA va.names va.parts.length) va.cls [] q fr (asm h 3 (j:Int))))=true) (hc:h.copies<=1000):
 fG (if 0<=ix x2.value.names fr 0 then iD 5 (eG (iz (eG h j (gE y')) nm).1 k (tb x2 (ix x2.value.names fr 0).toNat (j:Int))) ((x2.parts[(ix x2.value.names fr 0).toNat]?).getD 0) else eG (iz (eG h j (gE y')) nm).1 k (qb x2 fr (j:Int)))=true/\
  (if 0<=ix x2.value.names fr 0 then iD 5 (eG (iz (eG h j (gE y')) nm).1 k (tb x2 (ix x2.value.names fr 0).toNat (j:Int))) ((x2.parts[(ix x2.value.names fr 0).toNat]?).getD 0) else eG (iz (eG h j (gE y')) nm).1 k (qb x2 fr (j:Int))).copies<=h.copies+1/\
  (GD h->GD (if 0<=ix x2.value.names fr 0 then iD 5 (eG (iz (eG h j (gE y')) nm).1 k (tb x2 (ix x2.value.names fr 0).toNat (j:Int))) ((x2.parts[(ix x2.value.names fr 0).toNat]?).getD 0) else eG (iz (eG h j (gE y')) nm).1 k (qb x2 fr (j:Int)))):=by
 have h0:0<=h.copies:=yI;have S0:=SL.of hk;have X0:=EX.of hk;have hcj:celD h (j:Int)=y':=iI hj;have Pr:eG h j (gE y')=incS h (j:Int):=by unfold incS;rw[hcj,aU]
 obtain⟨X1,K1⟩:=DV9 X0 (X0.slot Wz);have P:=PE X0 (X0.slot Wz);rw[<-Pr]at X1 K1 P;have S1:SL (eG h j (gE y')):=S0.ku K1 rfl rfl;have X4:slotD (eG h j (gE y')) nm=slotD h nm:=rfl;obtain⟨w1,w2,w3,w4,w5,w6,w7,w8⟩:=Vy S1 X1 (show hasN (eG h j (gE y')) nm=true from hn) hnm;obtain⟨c1,c2⟩:=Jl (h:=eG h j (gE y')) h0 hc w6;replace c2:(iz (eG h j (gE y')) nm).1.copies<=h.copies+1:=c2;have XT:slotD h nm∈h.slots:=by
  have hi:0<=ix h.names nm 0:=by simpa [hasN]using hn
  obtain⟨p,hp⟩:=bQ hi;have hg:=(pY h.names nm 0).2;have hl:=S0.l;have mD:p<h.slots.length:=dP;have:slotD h nm=h.slots[p]:=wi;rw[this];exact dA _
 have UL:asm (iz (eG h j (gE y')) nm).1 3 (k:Int)=va:=by rw[<-o1,w5,X4,(qX K1 (S0.f _ XT).1).2,hva]
 have Ch:=(ay.1 o2).1;have ld:=iI o2;rw[o1]at w3;obtain⟨s1,s2⟩:=aeV w1 (by rw[ld];exact o3) w3;have hjk:¬(j:Int)=(k:Int):=λe=>s2 (by rw[<-e];exact aT);have hFj:=w7 3 (j:Int) (qX K1 (S0.f _ Wz).1).1 (w1.out aT);rw[(qX K1 (S0.f _ Wz).1).2]at hFj;have hF:=(w2.f _ w3).1;have w9:GD h->GD (iz (eG h j (gE y')) nm).1:=λG=>w8 (P G);clear w8 P;generalize (iz (eG h j (gE y')) nm).1=g at*;have jV:=(i6 hv).1;have XW:okD 2 (asm h 3 (j:Int))=true:=by obtain⟨d',e1,e2⟩:=(n7 jV).1 (asm h 3 (j:Int)) NO;obtain rfl:d'=2:=dP;exact e2
 have hJ:=Ui w1 (d:=2) hFj.1 (by rw[hFj.2];exact XW) dP;rw[hFj.2]at hJ;have hF':=hF;rw[FP,ld]at hF';have ea:({x2.value with parts:=x2.parts.map (asm g 2)}:Vec)=va:=by rw[<-UL,asm,ld]
 have hvV:isVec va=true:=by rw[<-UL];exact(w2.f _ w3).2
 obtain⟨OC,-⟩:=rm hvV h4;have f1:va.parts=x2.parts.map (asm g 2):=by rw[<-ea]
 have f2:va.names=x2.value.names:=by rw[<-ea]
 have f3:va.cls=x2.value.cls:=by rw[<-ea]
 have f4:x2.value.items=[]:=by have:va.items=x2.value.items:=(by rw[<-ea]);rw[<-this,OC]
 have f5:x2.value.levels=[]:=by have:va.levels=x2.value.levels:=(by rw[<-ea]);rw[<-this,OC]
 have f6:x2.value.code=0/\x2.value.env=0:=by
  have a:va.code=x2.value.code:=by rw[<-ea]
  have b:va.env=x2.value.env:=by rw[<-ea]
  rw[<-a,<-b,OC];exact⟨rfl,rfl⟩
 have f7:va.parts.length=x2.parts.length:=by rw[f1,au]
 have f8:x2.value.parts=[]:=by have:=w1.v (k:Int);rw[ld]at this;exact this
 have f9:x2.value.kind=4:=by have:va.kind=x2.value.kind:=(by rw[<-ea]);rw[<-this];exact h4
 have L:LV va.parts va.names va.cls:=LV.of (by rw[<-OC];exact hvV);obtain⟨p1,p2⟩:=VE (cls:=va.cls) (x:=asm h 3 (j:Int)) L.n Tw hq;have hO:∀(x:Cel) (p:Int),p∈x2.parts->FP (eG g k x) 2 p/\asm (eG g k x) 2 p=asm g 2 p:=λx p hp=>ve Ch s1 (λe=>s1 (k:Int) (by rw[ld];exact e ▸ hp)) (hF'.2.2 p hp);have hOj:∀x:Cel,FP (eG g k x) 2 (j:Int)/\asm (eG g k x) 2 (j:Int)=asm h 3 (j:Int):=λx=>by obtain⟨a,b⟩:=ve (x:=x) Ch s1 hjk hJ.1;exact⟨a,b.trans hJ.2⟩
 have F:=jf hv;by_cases hi:0<=ix x2.value.names fr 0
 ·obtain⟨m,hm⟩:=bQ hi;rw[aN hi,hm,aU];obtain⟨m1,m2⟩:=p2 m (by rw[f2];exact hm);rw[m2]at hv F;have hml:m<x2.parts.length:=dP;rw[aw hml,bV];have xy:tb x2 m (j:Int)=(⟨x2.count,x2.value,x2.parts.set m (j:Int)⟩:Cel):=by unfold tb;rw[Z2 f9]
  rw[xy];have L9:celD (eG g k (⟨x2.count,x2.value,x2.parts.set m (j:Int)⟩:Cel)) (k:Int)=⟨x2.count,x2.value,x2.parts.set m (j:Int)⟩:=wE;have hch:∀p∈x2.parts.set m (j:Int),FP (eG g k (⟨x2.count,x2.value,x2.parts.set m (j:Int)⟩:Cel)) 2 p:=λp hp=>by
   rcases List.mem_or_eq_of_mem_set hp with h1|h1
   ·exact(hO _ p h1).1
   ·rw[h1];exact(hOj _).1
  have Y:EX (eG g k (⟨x2.count,x2.value,x2.parts.set m (j:Int)⟩:Cel)) [x2.parts[m]]:=AO w1 Ch (λi=>by have:=Dr x2.parts m (j:Int) i hml;rw[ld];show (if i=(k:Int) then x2.count - x2.count else 0)+((x2.parts.count i+[(j:Int)].count i:Nat):Int)=(((x2.parts.set m (j:Int)).count i+[x2.parts[m]].count i:Nat):Int);split<;>omega) f8 (λe=>by have e:x2.count=0:=e;omega)
  have Zs:FP (eG g k (⟨x2.count,x2.value,x2.parts.set m (j:Int)⟩:Cel)) 3 (k:Int):=by rw[FP,L9];exact⟨by show 0<x2.count;omega,.inr ⟨f9,by show (x2.parts.set m _).length<=40;rw[da,<-f7];exact L.l⟩,hch⟩
  have T:SL (eG g k (⟨x2.count,x2.value,x2.parts.set m (j:Int)⟩:Cel)):=by
   refine P8 w2 Ch s1 Zs ?_
   ·rw[asm,L9];have e1:(x2.parts.set m (j:Int)).map (asm (eG g k (⟨x2.count,x2.value,x2.parts.set m (j:Int)⟩:Cel)) 2)=va.parts.set m (asm h 3 (j:Int)):=by rw[dH,(hOj _).2,f1,cT λp hp=>(hO _ p hp).2]
    show isVec ⟨x2.value.kind,x2.value.items,(x2.parts.set m (j:Int)).map _,x2.value.names,x2.value.cls,x2.value.levels,x2.value.code,x2.value.env⟩=true;rw[e1,f4,f5,f6.1,f6.2,f9,<-f2,<-f3];exact hv
  have QO:=OP (hO (⟨x2.count,x2.value,x2.parts.set m (j:Int)⟩:Cel) x2.parts[m] (dA hml)).1;obtain⟨r1,r2⟩:=Ph 5 2 _ _ [] QO dP Y;obtain⟨n1,n2,n3⟩:=ug 5 (eG g k (⟨x2.count,x2.value,x2.parts.set m (j:Int)⟩:Cel)) x2.parts[m];refine⟨rj r1 ⟨by rw[n1,n2];exact T.l,λi s=>by rw[n1];exact T.n i s,λy hy=>?_⟩ (by rw[n3];exact c1),by rw[n3];exact c2,λG=>GD.kv (Pm (w9 G) Ch s1 Zs) r2 r1⟩;have hu:=r1.slot hy;rw[n2]at hy;obtain⟨a,b⟩:=T.f y hy;obtain⟨c,d⟩:=Dx r2 r1 a hu;exact⟨c,by rw[d];exact b⟩
 ·rw[aH hi];have m2:=p1 (by rw[f2];omega);rw[m2]at hv F;have L9:celD (eG g k (qb x2 fr (j:Int))) (k:Int)=qb x2 fr (j:Int):=wE;have e0:(qb x2 fr (j:Int)).parts=x2.parts++[(j:Int)]:=rfl;have Zs:FP (eG g k (qb x2 fr (j:Int))) 3 (k:Int):=by
   rw[FP,L9,e0];have hl:=F.len;simp only[bf,aY,bt]at hl;refine⟨by show 0<x2.count;omega,.inr ⟨rfl,by rw[aY,bt];omega⟩,λp hp=>?_⟩;rcases aG.1 hp with h1|h1
   ·exact(hO _ p h1).1
   ·obtain rfl:p=(j:Int):=mt;exact(hOj _).1
  refine⟨rj (AO w1 Ch (λi=>?_) f8 (λe=>?_)) (P8 w2 Ch s1 Zs ?_) c1,c2,λG=>Pm (w9 G) Ch s1 Zs⟩
  ·rw[ld,e0,bT];show (if i=(k:Int) then x2.count - x2.count else 0)+_=_;simp
  ·have e:x2.count=0:=e;omega
  ·rw[asm,L9,e0];have e1:(x2.parts++[(j:Int)]).map (asm (eG g k (qb x2 fr (j:Int))) 2)=va.parts++[asm h 3 (j:Int)]:=by rw[aI,br,bL,(hOj _).2,f1,cT λp hp=>(hO _ p hp).2]
   rw[e1];show isVec ⟨4,x2.value.items,va.parts++[asm h 3 (j:Int)],gA x2.value.names x2.parts.length++[fr],x2.value.cls,x2.value.levels,x2.value.code,x2.value.env⟩=true;rw[f4,f5,f6.1,f6.2,<-f2,<-f3,<-f7];exact hv
theorem Mem.zeroHeap {w0 w:World} {X:List Nat} {R:List As} (M:Mem prog w0 X w R):Mem prog w0 X w (.ow (Hp.toD ⟨[],[],[],0⟩) 28 [(),(),(),.int .i64 0]::R):=
 Mem.joinHeap (h:=⟨[],[],[],0⟩) (((M.nil (t:=26) underlying26).nil (t:=25) underlying25).nil (t:=24) underlying24) le
def Q5:Str:=[110,111,116,32,97,32,118,101,99,116,111,114,32,111,102,32,101,108,101,109,101,110,116,115]
def QD:Str:=[105,110,118,97,108,105,100,32,111,112,101,114,97,116,105,111,110]
theorem Xa (v x:Vec) (pt:Int) (cv cs cx:List Value) (w:World) (gF:rep w w.heap.size v.toD cv) (mP:rep w w.heap.size (nU [pt]).toD cs) (fE:rep w w.heap.size x.toD cx) (jI:isVec v=true) (jJ:isVec x=true) (gf:bigV v) (jH:bigV x) (h5:v.kind=5):
 Calls prog 105 #[av cv,av cs,av cx] w λe w'=>e= .returned (.tuple #[(),sv Q5])/\Below w.heap.size w w':=by
 have tx:=aa jI;have qM:=aa jJ;have lJ:=aa gf;have qo:=aa jH;have q1:(v.kind==5)=true:=by simp [h5]
 obtain⟨sb,so,c1,A2,c2,A3,c3,A4,c4,A5,c5,rfl,tV,e0,e1,e2⟩:=kV mP;obtain⟨Ai,ci,Ap,cp,An,cn,Ac,cc,Al,cl,rfl,wk,ri,rp,rn,rc,rl,wc,we⟩:=d_ gF;obtain⟨w_,xd,yQ,yU,yP,yT,yN,yR,yO,yS,rfl,CR,CK,CN,CM,CH,CL,AC,CQ⟩:=d_ fE;clear jI jJ gf jH h5 e0 e1 e2;have M:Mem prog w [] w []:=Mem.start;go_enter func105,ntmps105;refine Sq (Sa M (λJ1 wv M=>?_));refine Sa M (λJ2 wv M=>?_);refine Sa M (λJ3 wv M=>?_);refine Sb M [] 2 (Sz (ae (Sq ?_)));refine Sb M [2] 1 ?_;refine Sc (aF (ff v _ _ (M.arg gF) lJ.out) ?_);rintro e w' ⟨rfl,hb⟩;rw[tx.out];replace M:=M.next hb;refine Sp ?_;refine Sb M [0] 3 ?_;refine Sc (aF (ff x _ _ (M.arg fE) qo.out) ?_);rintro e w' ⟨rfl,hb⟩;rw[qM.out];replace M:=M.next hb;refine Sp ?_;refine Sb M [] 2 (Sz ?_);refine gk (ae ?_);refine Ra M [2] ?_;refine ct ?_;refine Ra M [] (aO (fI ?_));refine vQ results105 ?_;exact⟨rfl,M.bel⟩
theorem YT (v x:Vec) (pt:Int) (cv cs cx:List Value) (w:World) (gF:rep w w.heap.size v.toD cv) (mP:rep w w.heap.size (nU [pt]).toD cs) (fE:rep w w.heap.size x.toD cx) (jI:isVec v=true) (jJ:isVec x=true) (gf:bigV v) (jH:bigV x) (h5:v.kind=5):
 Calls prog 42 #[av cv,av cs,av cx] w (eH zeroV.toD 38 (sv Q5) w):=by
 have HAP:=aa (λ(W:World) a b c=>Xa v x pt cv cs cx W a b c jI jJ gf jH h5);obtain⟨sb,so,c1,A2,c2,A3,c3,A4,c4,A5,c5,rfl,tV,e0,e1,e2⟩:=kV mP;obtain⟨Ai,ci,Ap,cp,An,cn,Ac,cc,Al,cl,rfl,wk,ri,rp,rn,rc,rl,wc,we⟩:=d_ gF;obtain⟨w_,xd,yQ,yU,yP,yT,yN,yR,yO,yS,rfl,CR,CK,CN,CM,CH,CL,AC,CQ⟩:=d_ fE;clear jI jJ gf jH h5 e0 e1 e2;have M:Mem prog w [] w []:=Mem.start;go_enter func42,ntmps42;refine Sq (Sa M (λJ1 wv M=>?_));refine Sa M (λJ2 wv M=>?_);refine Sa M (λJ3 wv M=>?_);refine Sa M (λJ4 wv M=>?_);refine Sb M [] 1 (Sz (Sq ?_));refine Sb M [1,2,3] 3 ?_;refine Sc (f_ (HAP.out _ (M.arg gF) (M.arg mP) (M.arg fE)) M λJ5 wv M=>Sp ?_);refine Sb M [] 5 (Sz (ae ?_));refine Ra M [] ?_;refine ct (Sq ?_);refine Sb M [] 2 ?_;refine Ss M 0 (λwv M=>?_);refine Sb M [] 1 (Sz (aO (fI ?_)));refine kN results42 M 0 ?_;exact(M.zeroVec).retTwo
theorem NZ (v x:Vec) (pt:Int) (cv cs cx:List Value) (w:World) (gF:rep w w.heap.size v.toD cv) (mP:rep w w.heap.size (nU [pt]).toD cs) (fE:rep w w.heap.size x.toD cx) (jI:isVec v=true) (jJ:isVec x=true) (gf:bigV v) (jH:bigV x) (h5:v.kind=5):
 Calls prog 52 #[av cv,av cs,av cx] w (eH zeroV.toD 38 (sv Q5) w):=by
 have tx:=aa jI;have qM:=aa jJ;have lJ:=aa gf;have qo:=aa jH;have q1:(v.kind==5)=true:=by simp [h5]
 obtain⟨sb,so,c1,A2,c2,A3,c3,A4,c4,A5,c5,rfl,tV,e0,e1,e2⟩:=kV mP;obtain⟨Ai,ci,Ap,cp,An,cn,Ac,cc,Al,cl,rfl,wk,ri,rp,rn,rc,rl,wc,we⟩:=d_ gF;obtain⟨w_,xd,yQ,yU,yP,yT,yN,yR,yO,yS,rfl,CR,CK,CN,CM,CH,CL,AC,CQ⟩:=d_ fE;clear jI jJ gf jH h5 e0 e1 e2;have M:Mem prog w [] w []:=Mem.start;go_enter func52,ntmps52;refine Sq (Sa M (λJ1 wv M=>?_));refine Sa M (λJ2 wv M=>?_);refine Sa M (λJ3 wv M=>?_);refine Sa M (λJ4 wv M=>?_);refine Sb M [] 1 (Sz (ae (Sq ?_)));refine Sb M [3] 1 ?_;refine Sc (aF (ew v _ _ (M.arg gF) lJ.out) ?_);rintro e w' ⟨rfl,hb⟩;rw[tx.out];replace M:=M.next hb;refine Sp ?_;refine Sb M [1] 3 ?_;refine Sc (aF (ew x _ _ (M.arg fE) qo.out) ?_);rintro e w' ⟨rfl,hb⟩;rw[qM.out];replace M:=M.next hb;refine Sp ?_;refine Sb M [] 2 (Sz ?_);refine gk (ae ?_);refine Ra M [3] ?_;refine ct (Sq ?_);refine Sb M [] 1 ?_;refine Ss M 0 (λwv M=>?_);refine Sb M [] 1 (Sz (aO (fI ?_)));refine kN results52 M 0 ?_;exact(M.zeroVec).retTwo
theorem Qb {x:Vec} {pt:Int} (hv:isVec v=true) (hx:isVec x=true) (h5:v.kind=5):wH v x pt zeroV Q5:=
 ⟨λcv cs cx W a b c=>YT v x pt cv cs cx W a b c hv hx (eC hv) (eC hx) h5,λcv cs cx W a b c=>NZ v x pt cv cs cx W a b c hv hx (eC hv) (eC hx) h5⟩
theorem PC (h:Hp) (kd pt:Int) (nm fr:Str) (v:Vec) (hz:szD h.toD<=4194304) (l7:fG h=true) (oU:je ⟨kd,nm,fr,pt,v⟩=false) (gf:bigV v) (cs cx:List Value) (w:World) (oD:rep w w.heap.size h.toD cs) (fE:rep w w.heap.size (Hop.toD ⟨kd,nm,fr,pt,v⟩) cx):
 Calls prog 10 #[av cs,av cx] w (eH (Hp.toD ⟨[],[],[],0⟩) 28 (sv QD) w):=by
 have jV:=aa l7;have lJ:=aa gf;have wS:=aa oU;obtain⟨Ah,ch,An,cn,Ak,ck,rfl,rc,rn,ER,wc⟩:=gV oD;obtain⟨Ai,ci,Ap,cp,OL,O7,Ac,cc,Al,cl,rfl,wn,wf,wa,gF⟩:=gQ fE;clear l7 gf oU rc rn ER wc;have M:Mem prog w [] w []:=Mem.start;go_enter func10,ntmps10;refine Sq (Sa M (λJ1 wv M=>?_));refine Sa M (λJ2 wv M=>?_);refine Sa M (λJ3 wv M=>?_);refine Sb M [] 1 (Sz (ae (Sq ?_)));refine Sb M [2] 1 ?_;refine Sc (aF (kT h hz _ _ (M.arg oD)) ?_);rintro e w' ⟨rfl,hb⟩;rw[jV.out];replace M:=M.next hb;refine Sp ?_;refine Sb M [1] 3 ?_;refine Sc (aF (kS _ _ _ (M.arg fE) lJ.out) ?_);rintro e w' ⟨rfl,hb⟩;rw[wS.out];replace M:=M.next hb;refine Sp ?_;refine Sb M [] 2 (Sz ?_);refine ct (Sq ?_);refine Sb M [] 1 ?_;refine Ss M 0 (λwv M=>?_);refine Sb M [] 1 (Sz (aO (fI ?_)));refine kN results10 M 0 ?_;exact(M.zeroHeap).retTwo
theorem Qa (h:Hp) (kd pt:Int) (nm fr:Str) (v:Vec) (hz:szD h.toD<=4194304) (l7:fG h=true) (oU:je ⟨kd,nm,fr,pt,v⟩=false) (gf:bigV v) (cs cx:List Value) (w:World) (oD:rep w w.heap.size h.toD cs) (fE:rep w w.heap.size (Hop.toD ⟨kd,nm,fr,pt,v⟩) cx):
 Calls prog 11 #[av cs,av cx] w (eH (Hp.toD ⟨[],[],[],0⟩) 28 (sv QD) w):=by
 have jV:=aa l7;have lJ:=aa gf;have wS:=aa oU;obtain⟨Ah,ch,An,cn,Ak,ck,rfl,rc,rn,ER,wc⟩:=gV oD;obtain⟨Ai,ci,Ap,cp,OL,O7,Ac,cc,Al,cl,rfl,wn,wf,wa,gF⟩:=gQ fE;clear l7 gf oU rc rn ER wc;have M:Mem prog w [] w []:=Mem.start;go_enter func11,ntmps11;refine Sq (Sa M (λJ1 wv M=>?_));refine Sa M (λJ2 wv M=>?_);refine Sa M (λJ3 wv M=>?_);refine Sb M [] 1 (Sz (ae (Sq ?_)));refine Sb M [2] 1 ?_;refine Sc (aF (k9 h hz _ _ (M.arg oD)) ?_);rintro e w' ⟨rfl,hb⟩;rw[jV.out];replace M:=M.next hb;refine Sp ?_;refine Sb M [1] 3 ?_;refine Sc (aF (kZ _ _ _ (M.arg fE) lJ.out) ?_);rintro e w' ⟨rfl,hb⟩;rw[wS.out];replace M:=M.next hb;refine Sp ?_;refine Sb M [] 2 (Sz ?_);refine ct (Sq ?_);refine Sb M [] 1 ?_;refine Ss M 0 (λwv M=>?_);refine Sb M [] 1 (Sz (aO (fI ?_)));refine kN results11 M 0 ?_;exact(M.zeroHeap).retTwo
theorem I0 (h:Hp) (nm fr:Str) (pt:Int) (v:Vec) (a b:Int) (h1:Hp) (k:Int) (hz:szD h.toD<=4194304) (l7:fG h=true) (jP:h.names.length=h.slots.length) (UA:(h.names.length:Int)<=1073741824) (DS:∀x∈h.cells,x.value.parts=[]) (oU:je ⟨0,nm,fr,pt,v⟩=true) (gf:bigV v) (C5:ix h.names nm 0=a) (C6:ix h.names fr 0=b) (cs cx:List Value) (w:World) (oD:rep w w.heap.size h.toD cs) (fE:rep w w.heap.size (Hop.toD ⟨0,nm,fr,pt,v⟩) cx)
 (HP':fL 4 h v=(h1,k)) (UE:rX 4 h v) (aem:okD 3 v=true) (hwk:(Lit.int .i64 k).wf=true) (Uv:h1.names.length=h1.slots.length) (hn1:(h1.names.length:Int)<=1073741824) (TP:hasN h1 nm=true->relOK 5 {h1 with slots:=h1.slots.set (ix h1.names nm 0).toNat k} (slotD h1 nm)):
 Calls prog 11 #[av cs,av cx] w (eH (fd h1 nm k).toD 28 (sv []) w):=by
 have jV:=aa l7;have gK:=aa jP;have rk:=aa DS;have wS:=aa oU;have lJ:=aa gf;have HA:=aa C5;have Tr:=aa C6;have HP:=aa HP';have xy:=aa UE;have ZJ:=aa aem;have AR:=aa Uv;have HR:=aa TP;obtain⟨Ah,ch,An,cn,Ak,cs,rfl,rc,rn,ER,wc⟩:=gV oD;obtain⟨Ai,ci,Ap,cp,OL,O7,Ac,cc,Al,cl,rfl,wn,wf,wa,gF⟩:=gQ fE;clear l7 jP oU gf C5 C6 DS rc rn ER HP' UE aem Uv TP;have M:Mem prog w [] w []:=Mem.start;go_enter func11,ntmps11;refine Sq (Sa M (λJ1 wv M=>?_));refine Sa M (λJ2 wv M=>?_);refine Sa M (λJ3 wv M=>?_);refine Sb M [] 1 (Sz (ae (Sq ?_)));refine Sb M [2] 1 ?_;refine Sc (aF (k9 h hz _ _ (M.arg oD)) ?_);rintro e w' ⟨rfl,hb⟩;rw[jV.out];replace M:=M.next hb;refine Sp ?_;refine Sb M [1] 3 ?_;refine Sc (aF (kZ _ _ _ (M.arg fE) lJ.out) ?_);rintro e w' ⟨rfl,hb⟩;rw[wS.out];replace M:=M.next hb;refine Sp ?_;refine Sb M [] 2 (Sz ?_);refine gk (Sq ?_);refine Sb M [2] 1 ?_;refine Sc (L6 (lF h hz rk.out _ _ (M.arg oD)) M λJ6 wv M=>Sp ?_);refine Sa M (λJ7 wv M=>?_);refine Ss M 0 (λwv M=>Sz ?_);replace M:=M.up [1];replace M:=Mem.openHeapL (h:=h) M;generalize J7.b=g at M ⊢;refine Sq (Sb M [3,5] 4 ?_);replace M:=M.up [1];refine Sc (aF (gG _ _ _ h.names nm _ (pd (M.rp 0 rfl)) eb) ?_);rintro e w' ⟨rfl,rfl⟩;rw[HA.out];refine Sp ?_;refine Sb M [] 1 (Sz (Sq ?_));refine Sb M [3,5] 4 ?_;refine Sc (aF (gG _ _ _ h.names fr _ (pd (M.rp 0 rfl)) eb) ?_);rintro e w' ⟨rfl,rfl⟩;rw[Tr.out];refine Sp ?_;refine Sb M [] 1 (Sz (ae ?_));refine Ra M [5] ?_;refine ct ?_;replace M:=M.up [1];replace M:=Mem.bxShut ((Mem.joinHeap (h:=h) M wc).pull 1 rfl);replace M:=M.up [];refine mL (M.sel [0,2,1,3] dQ) [some 4,none] [.o (J2.b) 1,.l 1 1,.o (J2.b) 4,.v (.c (.agg #[v.kind,.slice Ai v.items.length ci,.slice Ap v.parts.length cp,.slice OL v.names.length O7,.slice Ac v.cls.length cc,.slice Al v.levels.length cl,v.code,v.env])),.i (k),.v (.c (.tuple #[]))] [.e 4 (some 5) (.c (.bx (g) (Hp.toD h1) 28)),.e 5 none (.c (.bx (g) (Hp.toD (fd h1 nm k)) 28))] [[],[1],[],[1],[],[]] [] ?_ ?_
 ·show ∀i,i<6->_;refine On ?_ (tn [2] [3] [] (h:=λγ wv R K M hK=>by go_simp;go_at_call 50;exact M.heapCall (λF HF _=>vC h1 nm k g F _ HF wn hwk AR.out hn1 HR.out) (λw' M'=>hK (mA 0) w' M')))
  refine On ?_ (tn [0] [2] [] (h:=λγ wv R K M hK=>by go_simp;go_at_call 51;exact M.heapCall (h':=h1) (v:= .int .i64 k) (λF HF hX=>by have hq:=Ee 4 h v g F w.heap.size _ _ HF (fF gF M.bel) M.mod.size (λy hy=>(hX y hy).resolve_left dR) xy.out ZJ.out;rw[HP.out]at hq;exact hq.mono λe w' z=>⟨z.1,z.2.2⟩) (λw' M'=>hK (mA 0) w' M')))
  refine On ?_ (mW [1] (h:=λγ wv K M hK=>ur));exact On (On (On Oz eh) (e_ [1] 1)) eh
 intro i7 wv M;replace M:Mem _ _ _ _ [_,_,_,_]:=M;replace M:=M.up [1];obtain⟨Il,M⟩:=M.bxOpen;obtain⟨Wi,Wu,Wk,Wv,Wj,Bu,rfl,uj,M⟩:=Mem.openHeap (h:=(fd h1 nm k)) (M.pull 1 rfl);replace M:=M.up [];refine Sq (Sb M [3] 1 ?_);refine Ss M 5 (λwv M=>?_);refine Sb M [] 1 (Sz (aO (fI ?_)));refine kN results11 M 5 ?_;exact((M.sel [0,1,2] dQ).joinHeap (h:=(fd h1 nm k)) uj).retTwo
end Go.Proofs.YtekcpadlmfaihaaGreat
