/- Draws of heap operations, further. -/
import Derived.Test.YtekcpadlmfaihaaGreatWDvc
import Derived.Test.YtekcpadlmfaihaaGreatWQf
import Derived.Test.YtekcpadlmfaihaaGreatWQg
import Derived.Test.YtekcpadlmfaihaaGreatWHi
namespace Go.Proofs.YtekcpadlmfaihaaGreat
open Go.RowKit Proofs.Tryz
set_option maxHeartbeats 8000000
set_option maxRecDepth 100000
set_option linter.unusedSimpArgs false
set_option linter.unusedVariables false
variable {h:Hp} {c i n:Nat} {A:Option Addr}
theorem ab4 (g:Nat) (w:World) (hc:CuA A n c w g):Calls prog 35 #[.pointer (some ⟨g,0,none⟩)] w λe w'=>DO 175000 A n c w g e w':=by
 obtain⟨V0,V1,yi,M0⟩:=Mem.inCur hc;have hC:=aa yi;clear yi hc;have M:=M0.up [];go_enter func35,ntmps35;refine Sq (Sa M (λJ1 wv M=>Sz (Sq ?_)));refine Sb M [] 1 ?_;replace M:=M.up [2,2];refine Sc (ac_ hC.out M (λhc=>abI g _ hc) λJ2 wv M=>Sp ?_);refine Sa M (λJ3 wv M=>?_);refine Ss M 0 (λwv M=>Sz ?_);have hzo:=M.pr 3 rfl;rw[wG]at hzo;replace M:=M.up [4];obtain⟨wk,wn,wf,wa,wvk,wvc,wve,M⟩:=Mem.openHop M;replace M:=M.up [];refine ae (Sq (Sb M [] 1 ?_));replace M:=M.up [3,3];refine Sc (v5 hC.out M (λhc=>ne g 12 _ hc dP dP) λJ4 wv acG M=>Sp (Sz (aJ ?_)));refine Ra M [] ?_;refine lW (λh8=>?_) (λh8=>?_)
 ·rw[h8];replace h8:=aa h8;refine Sg (Sb M [] 1 ?_);refine Sc (v5 hC.out M (λhc=>ne g 6 _ hc dP dP) λJ5 wv hcJ5 M=>Sp ?_);refine Sb M [] 2 ?_;refine Ss M 3 (λwv M=>Sy (fA (dV (Sq ?_))));refine Sb M [3] 1 ?_;refine Ss M 5 (λwv M=>Sz (aO ?_));refine kN results35 M 5 ?_;have MZ:=M.sel [2,0,1] dQ;simp only[lH,bH,bY,ah,ag]at MZ;have MZ:=Mem.joinHop (x:=⟨(((J5.c:Nat):Int) - 1),(J2.O).name,(J2.O).frm,(J2.O).at_,(J2.O).value⟩) MZ (kP.2 tc) wn wf wa;exact Mem.outHop hC.out (MZ.up [2,2]) v1
 ·rw[h8];replace h8:=aa h8;refine Ra M [] ?_;refine lW (λh14=>?_) (λh14=>?_)
  ·rw[h14];replace h14:=aa h14;refine Sg (Sb M [] 1 ?_);refine Sa M (λJ6 wv M=>?_);replace M:=M.up [2,2];refine Sc (Hn (l:=[0,41,40,(-1)]) hC.out M rfl rfl dQ dQ λJ7 wv M=>Sp ?_);refine Sb M [] 1 ?_;refine Ss M 4 (λwv M=>Sy (fA (dV (Sq ?_))));refine Sb M [4] 1 ?_;refine Ss M 6 (λwv M=>Sz (aO ?_));refine kN results35 M 6 ?_;have Nc:=M.pr 2 rfl;simp only[aX,df,ce]at Nc;have MZ:=M.sel [3,0,1] dQ;simp only[lH,bH,bY,ah,ag]at MZ;have MZ:=Mem.joinHop (x:=⟨(J2.O).kind,(J2.O).name,(J2.O).frm,(J7.Z),(J2.O).value⟩) MZ wk wn wf (kP.2 tc);exact Mem.outHop hC.out (MZ.up [2,2]) v1
  ·rw[h14];replace h14:=aa h14;refine Ra M [] ?_;refine lW (λh20=>?_) (λh20=>?_)
   ·rw[h20];replace h20:=aa h20;refine Sg (Sb M [] 1 ?_);refine Sa M (λJ8 wv M=>?_);replace M:=M.up [2,2];refine Sc (abP (l:=[[],[120],[113]]) hC.out M rfl rfl dQ dQ λJ9 wv M=>Sp ?_);refine Sb M [] 1 ?_;refine Ss M 4 (λwv M=>Sy (fA (dV (Sq ?_))));refine Sb M [4] 1 ?_;refine Ss M 6 (λwv M=>Sz (aO ?_));refine kN results35 M 6 ?_;have ag0:=M.pr 2 rfl;have alI:J9.S.length<=1:=by simp only[aX,df,ce]at ag0;rcases ag0 with h|h|h<;>rw[h]<;>decide
    have MZ:=M.sel [3,0,1] dQ;simp only[lH,bH,bY,ah,ag]at MZ;have MZ:=Mem.joinHop (x:=⟨(J2.O).kind,(J2.O).name,(J9.S),(J2.O).at_,(J2.O).value⟩) MZ wk wn u9 wa;exact Mem.outHop hC.out (MZ.up [2,2]) v1
   ·rw[h20];replace h20:=aa h20;refine Ra M [] ?_;refine lW (λQM=>?_) (λQM=>?_)
    ·rw[QM];replace QM:=aa QM;refine Sg (Sb M [] 1 ?_);refine Sc (Hs hC.out M (λhc=>acN g _ hc) λmO wv M=>Sp ?_);refine Sb M [] 1 ?_;refine Ss M 5 (λwv M=>Sy (fA (dV (Sq ?_))));refine Sb M [5] 1 ?_;refine Ss M 7 (λwv M=>Sz (aO ?_));refine kN results35 M 7 ?_;have hzw:=M.pr 2 rfl;have MZ:=M.sel [3,0,1] dQ;simp only[lH,bH,bY,ah,ag]at MZ;have MZ:=Mem.joinHop (x:=⟨(J2.O).kind,(J2.O).name,(J2.O).frm,(J2.O).at_,(mO.V)⟩) MZ wk wn wf wa;exact Mem.outHop hC.out (MZ.up [2,2]) v1
    ·rw[QM];replace QM:=aa QM;refine bd (fA (dV (Sq (Sb M [3] 1 ?_))));refine Ss M 5 (λwv M=>Sz (aO ?_));refine kN results35 M 5 ?_;have MZ:=M.sel [2,0,1] dQ;simp only[lH,bH,bY,ah,ag]at MZ;have MZ:=Mem.joinHop (x:=⟨(J2.O).kind,(J2.O).name,(J2.O).frm,(J2.O).at_,(J2.O).value⟩) MZ wk wn wf wa;exact Mem.outHop hC.out (MZ.up [2,2]) v1
def acg (w:World) (e:Ending) (w':World):Prop:=∃l:List Hop,l.length<=14/\gv (l.map Hop.toD)<=200000/\oK (l.map Hop.toD) 31 w e w'
theorem Ns {bs:List UInt8} (w:World) (hr:Reads zq 1 w w.heap.size A n bs) (hn:n<=1048576):Calls prog 9 #[.slice A n c] w λe w'=>acg w e w':=by
 have M0:Mem prog w [] w []:=Mem.start;have M:=M0.up [];go_enter func9,ntmps9;refine Ra M [] (Sq ?_);refine Sb M [] 1 ?_;refine Sc (agk hr (af _) (λx hx=>absurd hx df) hn M λJ1 wv M=>Sp ?_);refine Sb M [] 1 (Sz ?_);have hC:=aa (M.pr 2 rfl);generalize J1.b=g at M hC ⊢;refine ae (Sq (Sb M [] 1 ?_));refine Sc (acl hC.out M (λhc=>x6 g 3 _ hc dP dP) λJ2 wv M=>Sp (Sz ?_));refine lW (λh7=>?_) (λh7=>?_)
 ·rw[h7];replace h7:=aa h7;refine Sq (Sb M [] 1 ?_);refine Sc (agj hC.out M (λhc=>aba g 6 dP dP _ hc) λJ3 wv M=>Sp ?_);refine Sb M [] 1 ?_;refine Sc (ac_ hC.out M (λhc=>ab4 g _ hc) λJ4 wv M=>Sp ?_);refine Sa M (λJ5 wv M=>?_);replace M:=M.up [5,1,5,6];have hy0:=M.pr 3 rfl;have hyl:=hy0.1;replace M:=M.up [2,2,2];refine nQ M acY (λJ6 wv M=>Sw ?_);refine Sb M [] 1 (Sz (aO (fI ?_)));refine vQ results9 ?_;have hy:=M.pr 2 rfl;obtain⟨WF,Ya⟩:=hy;have hz:=M.pr 5 rfl;have e1:((J3.P)++[(J4.O)]).map Hop.toD=(((J3.P).map Hop.toD)++[(Hop.toD (J4.O))]):=by rw[aI];rfl
  refine⟨(J3.P)++[(J4.O)],by simp only[aY,bU,bf];omega,by rw[e1,Aj];simp only[gv];omega,?_⟩;rw[e1];exact(M.sel [0] dQ).retSl
 ·rw[h7];replace h7:=aa h7;refine bd (dV (Sq (Sb M [] 1 ?_)));refine Sc (agj hC.out M (λhc=>aba g 14 dP dP _ hc) λJ7 wv M=>Sp ?_);refine Sb M [] 1 (Sz (aO ?_));refine vQ results9 ?_;have hy:=M.pr 2 rfl;obtain⟨WF,Ya⟩:=hy;exact⟨(J7.P),by omega,by omega,(M.sel [3] dQ).retSl⟩
theorem Jr:szD (Hp.toD ⟨[],[],[],0⟩)=0:=by rw[kD];simp [gv]
theorem YR {x:Hop} (hk:fG h=true) (hz:szD h.toD<=4194304) (hx:je x=true):∃(R:Hp) (r:Str),StI h x R r/\StS h x R r/\Gr h x.value R:=by
 obtain⟨kd,nm,fr,pt,v⟩:=x;obtain⟨-,-,h4,-,-⟩:=sX hx;rcases h4 with rfl|rfl|rfl|rfl
 ·exact RK hk hz hx
 ·exact P7 hk hz hx
 ·exact Oo hk hz hx
 ·exact VD hk hz hx
theorem acX:∀{l:List Str} {s:Str} {i j:Nat},l[j]?=some s->ix l s i<=((i+j:Nat):Int)
 |[],s,i,j,h=>by simp at h
 |e::t,s,i,j,h=>by
  rw[ix];split
  ·omega
  ·next he=>
   cases j with
   |zero=>simp at h;exact absurd h he
   |succ j=>
    have:=acX (i:=i+1) (show t[j]?=some s by simpa using h);omega
theorem abG (S:SL h) {s:Str} (hs:h.names[i]?=some s):ix h.names s 0=(i:Int):=by have h1:=acX (i:=0) hs;have h2:=aew hs;have h3:=(S.n i s hs).2;unfold R6 at h2;rw[h3]at h2;simp at h2;omega
def ZB (h:Hp) (i:Nat):Prop:=∀(t:Nat) (y:Int),t<i->h.slots[t]?=some y->(celD h y).parts=[]/\(celD h y).count=1
theorem zt:isVec zeroV=true:=by refine vy (Ev (k:=0) (its:=[]) (ns:=[]) dP dR dR dR dR) ?_;rw[jU];simp [ik,lenV,zeroV]
theorem acx (f:Nat) (h:Hp) (v:Vec):∀k:Int,0<(celD h k).count->celD (fL f h v).1 k=celD h k:=
 ED (λg=>∀k:Int,0<(celD h k).count->celD g k=celD h k) (λg c _ e k hk=>by obtain⟨n,_,_,_,h4,h5⟩:=qG g c;have h6:=e k hk;rw[h4 k,aH (by rintro rfl;rw[h6]at h5;omega),h6]) f h v (λ_ _=>rfl)
theorem acQ {h1:Hp} {nm:Str} {k:Int} (hk:fG h=true) (hz:szD h.toD<=4194304) (hn:h.names[i]?=some nm) (Z:ZB h i) (e:fL 4 h zeroV=(h1,k)):(fd h1 nm k).names=h.names/\ZB (fd h1 nm k) (i+1):=by
 have ZJ:=(i6 zt).1;obtain⟨f1,f2,f3,f4,f5⟩:=EC 4 h zeroV (Bz hk hz);have X:=Uc 4 3 h zeroV [] ZJ dP (EX.of hk);have S:=(SL.of hk).ku (VG 4 h zeroV) f3 f4;have P:=acx 4 h zeroV;obtain⟨a,b⟩:=Pl 4 3 h zeroV ZJ dP;have hkc:celD (fL 4 h zeroV).1 (fL 4 h zeroV).2=⟨1,noParts zeroV,[]⟩:=by rw[fL];obtain⟨n,t1,t2,t3,t4,t5⟩:=qG h ⟨1,noParts zeroV,[]⟩;show celD (gH h ⟨1,noParts zeroV,[]⟩).1 (gH h ⟨1,noParts zeroV,[]⟩).2=_;rw[t1,t4,aN rfl]
 have hnm:=((SL.of hk).n i nm hn).1;rw[e]at X S a b f3 f4 f5 P hkc;simp only at X S a b f3 f4 f5 P hkc;obtain⟨b1,b2,b3,b4,b5⟩:=LF S X hnm a (by rw[b];exact zt);have mT:=abG S (show h1.names[i]?=some nm by rw[f3];exact hn);rcases b5 with ⟨p,q1,q2,q3,q4⟩|⟨q1,-,-⟩
 ·have hpi:p=i:=dP;subst hpi;refine⟨q3.trans f3,λt y ht hy=>?_⟩;have hu:=b1.slot (aA hy);rw[q4,List.getElem?_set]at hy;obtain⟨k1,k2⟩:=b3 y;by_cases ht2:p=t
  ·rw[aN ht2]at hy;subst ht2;rw[aN q2]at hy;injection hy with hy;subst hy;rw[hkc]at k1 k2;exact⟨(k2 hu).2,by have:(1:Int)=(⟨1,noParts zeroV,[]⟩:Cel).count:=rfl;omega⟩
  ·rw[aH ht2]at hy;have hy':h.slots[t]?=some y:=by rw[<-f4];exact hy
   obtain⟨z1,z2⟩:=Z t y dP hy';rw[P y dP]at k1 k2;exact⟨(k2 hu).2.trans z1,by omega⟩
 ·omega
theorem He:∀(n:Nat) (l:List Int),(∀y∈l,0<=y/\y<(n:Int))->((List.range n).map λ(i:Nat)=>l.count (i:Int)).sum=l.length
 |n,[],_=>by
  have:∀m:Nat,((List.range m).map λ(i:Nat)=>([]:List Int).count (i:Int)).sum=0:=λm=>by
   induction m with
   |zero=>rfl
   |succ m ih=>rw[List.range_succ,aI,List.sum_append,ih];rfl
  exact this n
 |n,y::t,h=>by
  have h1:=He n t λz hz=>h z (aP _ hz);obtain⟨h2,h3⟩:=h y aT;obtain⟨j,rfl⟩:=bQ h2;have iU:∀(m:Nat),((List.range m).map λ(i:Nat)=>((j:Int)::t).count (i:Int)).sum=((List.range m).map λ(i:Nat)=>t.count (i:Int)).sum+if j<m then 1 else 0:=by
   intro m
   induction m with
   |zero=>simp
   |succ m ih=>
    rw[List.range_succ,aI,aI,List.sum_append,List.sum_append,ih];simp only[br,bL,List.sum_cons,List.sum_nil,cX];by_cases hj:j=m
    ·subst hj;have e1:((j:Int)==(j:Int))=true:=dR;rw[e1,aN rfl,aH (Nat.lt_irrefl j),aN (Nat.lt_succ_self j)];omega
    ·have e1:((j:Int)==(m:Int))=false:=dS;rw[e1];by_cases h4:j<m
     ·have h5:j<m+1:=Nat.lt_succ_of_lt h4;rw[aN h4,aN h5];simp;omega
     ·have h5:¬j<m+1:=λh6=>by omega
      rw[aH h4,aH h5];simp
  rw[iU n,aN dP,h1,bU]
theorem abK:∀(l:List Cel),(∀c∈l,c.count=0\/c.count=1)->(((l.filter λc=>decide (0<c.count)).length:Nat):Int)=(l.map (·.count)).sum
 |[],_=>by simp
 |c::t,h=>by
  have h1:=abK t λz hz=>h z (aP _ hz);rw[List.filter_cons,br,List.sum_cons,<-h1];rcases h c aT with e|e
  ·rw[aH mr,e];omega
  ·rw[aN mr,e,bU];omega
theorem abf:∀(l:List Nat),((l.map λ(i:Nat)=>(i:Int)).sum:Int)=((l.sum:Nat):Int)
 |[]=>by simp
 |a::t=>by rw[br,List.sum_cons,List.sum_cons,abf t];omega
theorem abD (hk:fG h=true) (G:GD h) (Z:ZB h h.slots.length):(h.cells.filter λc=>decide (0<c.count)).length=h.names.length:=by
 have X:=EX.of hk;have S:=SL.of hk;have hz:∀y∈h.slots,(celD h y).parts=[]/\(celD h y).count=1:=λy hy=>by obtain⟨i,hi⟩:=dB.1 hy;exact Z i y (ay.1 hi).1 hi
 have up:∀k:Int,0<(celD h k).count->k ∉ h.slots->∃c,k∈(celD h c).parts/\0<(celD h c).count/\c ∉ h.slots:=λk Nn hk2=>by
  have h1:=X.c k;have h2:(refs h).count k=h.slots.count k+(h.cells.flatMap (·.parts)).count k:=bT;rw[List.count_eq_zero.2 hk2]at h2;have h3:k∈h.cells.flatMap (·.parts):=eo.1 (by simp at h1;omega);obtain⟨c,hc,hkc⟩:=dM.1 h3;obtain⟨i,hi⟩:=dB.1 hc;have ld:=iI hi;refine⟨(i:Int),by rw[ld];exact hkc,?_,λhm=>?_⟩
  ·have h4:=X.nn (i:Int);by_cases h5:(celD h (i:Int)).count=0
   ·have:=(X.z _ h5).1;rw[ld]at this;rw[this]at hkc;simp at hkc
   ·omega
  ·have:=(hz _ hm).1;rw[ld]at this;rw[this]at hkc;simp at hkc
 have all:∀k:Int,0<(celD h k).count->k∈h.slots:=λk Nn=>by apply Classical.byContradiction;intro hk2;obtain⟨a,a1,a2,a3⟩:=up k Nn hk2;obtain⟨b,b1,b2,b3⟩:=up a a2 a3;obtain⟨c,c1,c2,c3⟩:=up b b2 b3;obtain⟨d,d1,d2,d3⟩:=up c c2 c3;have f:=G d d2;rw[FP]at f;have f1:=f.2.2 c d1;rw[FP]at f1;have f2:=f1.2.2 b c1;rw[FP]at f2;have f3:=f2.2.2 a b1;rw[FP]at f3;rw[f3.2]at a1;simp at a1
 have zd:∀(i:Nat) (c:Cel),h.cells[i]?=some c->c.count=((h.slots.count (i:Int):Nat):Int)/\(c.count=0\/c.count=1):=λi c hi=>by
  have ld:=iI hi;by_cases h0:0<c.count
  ·have hm:=all (i:Int) (by rw[ld];exact h0);have h1:=(hz _ hm).2;rw[ld]at h1;have h2:=X.c (i:Int);have h3:(refs h).count (i:Int)=h.slots.count (i:Int)+(h.cells.flatMap (·.parts)).count (i:Int):=bT;have h4:=eo.2 hm;rw[ld]at h2;simp at h2;exact⟨by omega,.inr h1⟩
  ·have h1:=X.nn (i:Int);rw[ld]at h1;have h5:c.count=0:=dP;refine⟨?_,.inl h5⟩;have h2:=X.c (i:Int);have h3:(refs h).count (i:Int)=h.slots.count (i:Int)+(h.cells.flatMap (·.parts)).count (i:Int):=bT;rw[ld]at h2;simp at h2;omega
 have e1:h.cells.map (·.count)=((List.range h.cells.length).map λ(i:Nat)=>h.slots.count (i:Int)).map λ(i:Nat)=>(i:Int):=by
  apply et;intro i;by_cases hi:i<h.cells.length
  ·have hc:=aw hi;rw[cg,cg,cg,hc,List.getElem?_range hi];simp only[l5,cE];exact(zd i _ hc).1
  ·rw[b_ dS,b_ dS]
 have e2:=abK h.cells λc hc=>by obtain⟨i,hi⟩:=dB.1 hc;exact(zd i c hi).2
 rw[e1,abf,He h.cells.length h.slots λy hy=>by have:=j7 (X.slot hy);simpa [inR]using this]at e2
 have:=S.l;omega
end Go.Proofs.YtekcpadlmfaihaaGreat
