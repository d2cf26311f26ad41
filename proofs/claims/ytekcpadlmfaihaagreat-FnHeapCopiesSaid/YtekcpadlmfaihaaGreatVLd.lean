/- Small functions over vectors: fits, tidyNames and their like. -/
import Derived.Test.YtekcpadlmfaihaaGreatVVi
import Derived.Test.YtekcpadlmfaihaaGreatVHf
import Derived.Test.YtekcpadlmfaihaaGreatVReg
import Derived.Test.YtekcpadlmfaihaaGreatVNu
import Derived.Test.YtekcpadlmfaihaaGreatVFb
import Derived.Test.YtekcpadlmfaihaaGreatVCp
namespace Go.Proofs.YtekcpadlmfaihaaGreat
open Go.RowKit Proofs.Tryz
set_option maxHeartbeats 8000000
set_option maxRecDepth 100000
set_option linter.unusedSimpArgs false
set_option linter.unusedVariables false
variable {d:D} {h h':Hp} {frm tk y:Int} {x:Item} {R:List As} {F X:List Nat} {l:List Str} {cs:List Value} {B c g j k m n:Nat} {P:Program} {p:Str} {α:Type} {e t:TypeId} {w w' w0:World}
def zV8:List Value:=[.int .i64 0,.slice none 0 0,.slice none 0 0,.slice none 0 0,.slice none 0 0,.slice none 0 0,.int .i64 0,.int .i64 0]
def E_:Str:=[114,101,115,117,108,116,32,105,115,32,116,111,111,32,108,97,114,103,101]
theorem Ue (v:Vec) (cs:List Value) (w:World) (h:rep w w.heap.size v.toD cs) (ga:bigV v):
 Calls prog 161 #[.agg cs.toArray] w λe w'=>e= .returned (.tuple #[.agg (if isVec v=true then cs else zV8).toArray,sv (if isVec v=true then[] else E_)])/\Below w.heap.size w w':=by
 have h0:=h;obtain⟨Ai,ni,ci,Ap,np,cp,An,nn,cn,Ac,nc,cc,Al,nl,cl,rfl,wk,ri,rp,rn,rc,rl,wc,we⟩:=fw h;have q0:Below w.heap.size w ((w.alloc (.cells #[v.kind,.slice Ai ni ci,.slice Ap np cp,.slice An nn cn,.slice Ac nc cc,.slice Al nl cl,v.code,v.env] 38)).alloc (.cells #[.int .i64 0,(),(),(),(),(),.int .i64 0,.int .i64 0] 38)):=((Below.refl _ _).alloc (af _) _).alloc dR _;have k1:Blk ((w.alloc (.cells #[v.kind,.slice Ai ni ci,.slice Ap np cp,.slice An nn cn,.slice Ac nc cc,.slice Al nl cl,v.code,v.env] 38)).alloc (.cells #[.int .i64 0,(),(),(),(),(),.int .i64 0,.int .i64 0] 38)) w.heap.size 38 [v.kind,.slice Ai ni ci,.slice Ap np cp,.slice An nn cn,.slice Ac nc cc,.slice Al nl cl,v.code,v.env]:=(Blk.new' (l:=[.int .i64 v.kind,.slice Ai ni ci,.slice Ap np cp,.slice An nn cn,.slice Ac nc cc,.slice Al nl cl,.int .i64 v.code,.int .i64 v.env])).al;have k2:Blk ((w.alloc (.cells #[v.kind,.slice Ai ni ci,.slice Ap np cp,.slice An nn cn,.slice Ac nc cc,.slice Al nl cl,v.code,v.env] 38)).alloc (.cells #[.int .i64 0,(),(),(),(),(),.int .i64 0,.int .i64 0] 38)) (w.heap.size+1) 38 [.int .i64 0,(),(),(),(),(),.int .i64 0,.int .i64 0]:=ya;have Xw:=ff v _ _ (fb h0 q0 q0.size) ga;cases hv:isVec v with
 |true=>
  rw[hv]at Xw;go_enter func161,ntmps161;go_wp2_with fail;refine Xw.mono ?_;rintro e w1 ⟨rfl,hb1⟩;have D6:=k1.next hb1;have D8:=k2.next hb1;obtain⟨a0,a1,a2,a3,a4,a5,a6,a7⟩:=D6.c8;obtain⟨r0,r1,r2,r3,r4,r5,r6,r7⟩:=D8.c8;have zr:=λi=>D8.frozen i;have Tq:=zr 0;have zr1:=zr 1;have zr2:=zr 2;have zr3:=zr 3;have zr4:=zr 4;have zr5:=zr 5;have zr6:=zr 6;have zr7:=zr 7;have XB:w.heap.size<w1.heap.size:=D6.lt;have Cz:w.heap.size+1<w1.heap.size:=D8.lt;have fz1:=D6.frozen 3;clear zr;go_wp2_with fail;refine bM (v:= .tuple #[.agg #[v.kind,.slice Ai ni ci,.slice Ap np cp,.slice An nn cn,.slice Ac nc cc,.slice Al nl cl,v.code,v.env],sv []]) (by simp [results,results161,go_sem,r0,r1,r2,r3,r4,r5,r6,r7,Cz]) rfl ⟨rfl,?_⟩
  (repeat'(first|with_reducible assumption|with_reducible exact Below.refl _ _|with_reducible refine jR ?_|with_reducible refine gT ?_ ?_|with_reducible refine ie ?_ ?_|with_reducible refine gR ?_ dY ?_|((try simp only[dW,dT,dX]);omega)))
 |false=>
  rw[hv]at Xw;go_enter func161,ntmps161;go_wp2_with fail;refine Xw.mono ?_;rintro e w1 ⟨rfl,hb1⟩;have D6:=k1.next hb1;have D8:=k2.next hb1;obtain⟨a0,a1,a2,a3,a4,a5,a6,a7⟩:=D6.c8;obtain⟨r0,r1,r2,r3,r4,r5,r6,r7⟩:=D8.c8;have zr:=λi=>D8.frozen i;have Tq:=zr 0;have zr1:=zr 1;have zr2:=zr 2;have zr3:=zr 3;have zr4:=zr 4;have zr5:=zr 5;have zr6:=zr 6;have zr7:=zr 7;have XB:w.heap.size<w1.heap.size:=D6.lt;have Cz:w.heap.size+1<w1.heap.size:=D8.lt;have fz1:=D6.frozen 3;clear zr;go_wp2_with fail;refine bM (v:= .tuple #[.agg #[.int .i64 0,(),(),(),(),(),.int .i64 0,.int .i64 0],sv E_]) (by simp [results,results161,go_sem,r0,r1,r2,r3,r4,r5,r6,r7,Cz];try rfl) rfl ⟨rfl,?_⟩
  (repeat'(first|with_reducible assumption|with_reducible exact Below.refl _ _|with_reducible refine jR ?_|with_reducible refine gT ?_ ?_|with_reducible refine ie ?_ ?_|with_reducible refine gR ?_ dY ?_|((try simp only[dW,dT,dX]);omega)))
theorem SJ (v:Vec) (cs:List Value) (w:World) (h:rep w w.heap.size v.toD cs) (ga:bigV v):
 Calls prog 124 #[.agg cs.toArray] w λe w'=>e= .returned (.tuple #[.agg (if isVec v=true then cs else zV8).toArray,sv (if isVec v=true then[] else E_)])/\Below w.heap.size w w':=by
 have h0:=h;obtain⟨Ai,ni,ci,Ap,np,cp,An,nn,cn,Ac,nc,cc,Al,nl,cl,rfl,wk,ri,rp,rn,rc,rl,wc,we⟩:=fw h;have q0:Below w.heap.size w ((w.alloc (.cells #[v.kind,.slice Ai ni ci,.slice Ap np cp,.slice An nn cn,.slice Ac nc cc,.slice Al nl cl,v.code,v.env] 38)).alloc (.cells #[.int .i64 0,(),(),(),(),(),.int .i64 0,.int .i64 0] 38)):=((Below.refl _ _).alloc (af _) _).alloc dR _;have k1:Blk ((w.alloc (.cells #[v.kind,.slice Ai ni ci,.slice Ap np cp,.slice An nn cn,.slice Ac nc cc,.slice Al nl cl,v.code,v.env] 38)).alloc (.cells #[.int .i64 0,(),(),(),(),(),.int .i64 0,.int .i64 0] 38)) w.heap.size 38 [v.kind,.slice Ai ni ci,.slice Ap np cp,.slice An nn cn,.slice Ac nc cc,.slice Al nl cl,v.code,v.env]:=(Blk.new' (l:=[.int .i64 v.kind,.slice Ai ni ci,.slice Ap np cp,.slice An nn cn,.slice Ac nc cc,.slice Al nl cl,.int .i64 v.code,.int .i64 v.env])).al;have k2:Blk ((w.alloc (.cells #[v.kind,.slice Ai ni ci,.slice Ap np cp,.slice An nn cn,.slice Ac nc cc,.slice Al nl cl,v.code,v.env] 38)).alloc (.cells #[.int .i64 0,(),(),(),(),(),.int .i64 0,.int .i64 0] 38)) (w.heap.size+1) 38 [.int .i64 0,(),(),(),(),(),.int .i64 0,.int .i64 0]:=ya;have Xw:=ew v _ _ (fb h0 q0 q0.size) ga;cases hv:isVec v with
 |true=>
  rw[hv]at Xw;go_enter func124,ntmps124;go_wp2_with fail;refine Xw.mono ?_;rintro e w1 ⟨rfl,hb1⟩;have D6:=k1.next hb1;have D8:=k2.next hb1;obtain⟨a0,a1,a2,a3,a4,a5,a6,a7⟩:=D6.c8;obtain⟨r0,r1,r2,r3,r4,r5,r6,r7⟩:=D8.c8;have zr:=λi=>D8.frozen i;have Tq:=zr 0;have zr1:=zr 1;have zr2:=zr 2;have zr3:=zr 3;have zr4:=zr 4;have zr5:=zr 5;have zr6:=zr 6;have zr7:=zr 7;have XB:w.heap.size<w1.heap.size:=D6.lt;have Cz:w.heap.size+1<w1.heap.size:=D8.lt;have fz1:=D6.frozen 3;clear zr;go_wp2_with fail;refine bM (v:= .tuple #[.agg #[v.kind,.slice Ai ni ci,.slice Ap np cp,.slice An nn cn,.slice Ac nc cc,.slice Al nl cl,v.code,v.env],sv []]) (by simp [results,results124,go_sem,r0,r1,r2,r3,r4,r5,r6,r7,Cz]) rfl ⟨rfl,?_⟩
  (repeat'(first|with_reducible assumption|with_reducible exact Below.refl _ _|with_reducible refine jR ?_|with_reducible refine gT ?_ ?_|with_reducible refine ie ?_ ?_|with_reducible refine gR ?_ dY ?_|((try simp only[dW,dT,dX]);omega)))
 |false=>
  rw[hv]at Xw;go_enter func124,ntmps124;go_wp2_with fail;refine Xw.mono ?_;rintro e w1 ⟨rfl,hb1⟩;have D6:=k1.next hb1;have D8:=k2.next hb1;obtain⟨a0,a1,a2,a3,a4,a5,a6,a7⟩:=D6.c8;obtain⟨r0,r1,r2,r3,r4,r5,r6,r7⟩:=D8.c8;have zr:=λi=>D8.frozen i;have Tq:=zr 0;have zr1:=zr 1;have zr2:=zr 2;have zr3:=zr 3;have zr4:=zr 4;have zr5:=zr 5;have zr6:=zr 6;have zr7:=zr 7;have XB:w.heap.size<w1.heap.size:=D6.lt;have Cz:w.heap.size+1<w1.heap.size:=D8.lt;have fz1:=D6.frozen 3;clear zr;go_wp2_with fail;refine bM (v:= .tuple #[.agg #[.int .i64 0,(),(),(),(),(),.int .i64 0,.int .i64 0],sv E_]) (by simp [results,results124,go_sem,r0,r1,r2,r3,r4,r5,r6,r7,Cz];try rfl) rfl ⟨rfl,?_⟩
  (repeat'(first|with_reducible assumption|with_reducible exact Below.refl _ _|with_reducible refine jR ?_|with_reducible refine gT ?_ ?_|with_reducible refine ie ?_ ?_|with_reducible refine gR ?_ dY ?_|((try simp only[dW,dT,dX]);omega)))
theorem Lk (k:Int) (w:World):Calls prog 159 #[k] w λe w'=>e= .returned (.int .i64 (if k=5 then 4 else k))/\w=w':=by
 by_cases hk:k=5
 ·have d0:(k==5)=true:=by simp [hk]
  have HK:=aa hk;clear hk;go_enter func159,ntmps159;go_wp2_with fail;go_ret;exact⟨eZ (by first|rfl|rw[aN HK.out]),rfl⟩
 ·have d0:(k==5)=false:=by simp [hk]
  have HK:=aa hk;clear hk;go_enter func159,ntmps159;go_wp2_with fail;go_ret;exact⟨eZ (by first|rfl|rw[aH HK.out]),rfl⟩
theorem I7 (v:Vec) (Ai:Option Addr) (ni ci:Nat) (Ap:Option Addr) (np cp:Nat) (An:Option Addr) (nn cn:Nat) (Ac:Option Addr) (nc cc:Nat) (Al:Option Addr) (nl cl:Nat) (w:World) (h:rep w w.heap.size v.toD [v.kind,.slice Ai ni ci,.slice Ap np cp,.slice An nn cn,.slice Ac nc cc,.slice Al nl cl,v.code,v.env]):
 Calls prog 154 #[.agg #[v.kind,.slice Ai ni ci,.slice Ap np cp,.slice An nn cn,.slice Ac nc cc,.slice Al nl cl,v.code,v.env]] w λe w'=>e= .returned (.agg (if lR v.names=true then #[v.kind,.slice Ai ni ci,.slice Ap np cp,(),.slice Ac nc cc,.slice Al nl cl,v.code,v.env] else #[v.kind,.slice Ai ni ci,.slice Ap np cp,.slice An nn cn,.slice Ac nc cc,.slice Al nl cl,v.code,v.env]))/\Below w.heap.size w w':=by
 have h0:=h;obtain⟨Ru,SN,RP,Rx,SP,RS,Ct,CE,Hw,L4,JS,L7,Rv,SO,Mz,lK,wk,ri,rp,rn,rc,rl,wc,we⟩:=fw h;simp only[bF,bG,dy,cO]at lK;obtain⟨⟨rfl,rfl,rfl⟩,⟨rfl,rfl,rfl⟩,⟨rfl,rfl,rfl⟩,⟨rfl,rfl,rfl⟩,rfl,rfl,rfl⟩:=lK;have q0:Below w.heap.size w ((w.alloc (.cells #[v.kind,.slice Ai ni ci,.slice Ap np cp,.slice An nn cn,.slice Ac nc cc,.slice Al nl cl,v.code,v.env] 38)).alloc (.cells #[.int .i64 0,(),(),(),(),(),.int .i64 0,.int .i64 0] 38)):=((Below.refl _ _).alloc (af _) _).alloc dR _;have k1:Blk ((w.alloc (.cells #[v.kind,.slice Ai ni ci,.slice Ap np cp,.slice An nn cn,.slice Ac nc cc,.slice Al nl cl,v.code,v.env] 38)).alloc (.cells #[.int .i64 0,(),(),(),(),(),.int .i64 0,.int .i64 0] 38)) w.heap.size 38 [v.kind,.slice Ai ni ci,.slice Ap np cp,.slice An nn cn,.slice Ac nc cc,.slice Al nl cl,v.code,v.env]:=(Blk.new' (l:=[.int .i64 v.kind,.slice Ai ni ci,.slice Ap np cp,.slice An nn cn,.slice Ac nc cc,.slice Al nl cl,.int .i64 v.code,.int .i64 v.env])).al;have k2:Blk ((w.alloc (.cells #[v.kind,.slice Ai ni ci,.slice Ap np cp,.slice An nn cn,.slice Ac nc cc,.slice Al nl cl,v.code,v.env] 38)).alloc (.cells #[.int .i64 0,(),(),(),(),(),.int .i64 0,.int .i64 0] 38)) (w.heap.size+1) 38 [.int .i64 0,(),(),(),(),(),.int .i64 0,.int .i64 0]:=ya;obtain⟨An1,nn1,cn1,he,Nh,hnm,Nj,-⟩:=(ls _ _ _ _).1 (fb rn q0 q0.size);injection he with he;injection he with f1 f2 f3;subst f1 f2 f3
 have hAE:=za An nn cn v.names _ Nj dP;cases hv:lR v.names with
 |true=>
  rw[hv]at hAE;go_enter func154,ntmps154;go_wp2_with fail;refine hAE.mono ?_;rintro e w1 ⟨rfl,hb1⟩;have D6:=k1.next hb1;have D8:=k2.next hb1;obtain⟨a0,a1,a2,a3,a4,a5,a6,a7⟩:=D6.c8;obtain⟨r0,r1,r2,r3,r4,r5,r6,r7⟩:=D8.c8;have zr:=λi=>D8.frozen i;have Tq:=zr 0;have zr1:=zr 1;have zr2:=zr 2;have zr3:=zr 3;have zr4:=zr 4;have zr5:=zr 5;have zr6:=zr 6;have zr7:=zr 7;have XB:w.heap.size<w1.heap.size:=D6.lt;have Cz:w.heap.size+1<w1.heap.size:=D8.lt;have fz1:=D6.frozen 3;clear zr;go_wp2_with fail;refine bM (v:= .agg #[v.kind,.slice Ai ni ci,.slice Ap np cp,(),.slice Ac nc cc,.slice Al nl cl,v.code,v.env]) BT rfl ⟨rfl,?_⟩
  (repeat'(first|with_reducible assumption|with_reducible exact Below.refl _ _|with_reducible refine jR ?_|with_reducible refine gT ?_ ?_|with_reducible refine ie ?_ ?_|with_reducible refine gR ?_ dY ?_|((try simp only[dW,dT,dX]);omega)))
 |false=>
  rw[hv]at hAE;go_enter func154,ntmps154;go_wp2_with fail;refine hAE.mono ?_;rintro e w1 ⟨rfl,hb1⟩;have D6:=k1.next hb1;have D8:=k2.next hb1;obtain⟨a0,a1,a2,a3,a4,a5,a6,a7⟩:=D6.c8;obtain⟨r0,r1,r2,r3,r4,r5,r6,r7⟩:=D8.c8;have zr:=λi=>D8.frozen i;have Tq:=zr 0;have zr1:=zr 1;have zr2:=zr 2;have zr3:=zr 3;have zr4:=zr 4;have zr5:=zr 5;have zr6:=zr 6;have zr7:=zr 7;have XB:w.heap.size<w1.heap.size:=D6.lt;have Cz:w.heap.size+1<w1.heap.size:=D8.lt;have fz1:=D6.frozen 3;clear zr;go_wp2_with fail;refine bM (v:= .agg #[v.kind,.slice Ai ni ci,.slice Ap np cp,.slice An nn cn,.slice Ac nc cc,.slice Al nl cl,v.code,v.env]) BT rfl ⟨rfl,?_⟩
  (repeat'(first|with_reducible assumption|with_reducible exact Below.refl _ _|with_reducible refine jR ?_|with_reducible refine gT ?_ ?_|with_reducible refine ie ?_ ?_|with_reducible refine gR ?_ dY ?_|((try simp only[dW,dT,dX]);omega)))
theorem sK (x:Int) (h1:1<=x) (h2:x<=40) (w:World):Calls prog 111 #[x,.int .i64 1] w λe w'=>e= .returned (Me ⟨x,1,[]⟩)/\Below w.heap.size w w':=by
 have hg:Nat.gcd x.natAbs (1:Int).natAbs=1:=dR;have d1:decide (x< -4000000000000000000)=false:=dS;have d2:decide (4000000000000000000<x)=false:=dS;have HG:=aa hg;clear hg;have kR:Blk (w.alloc (.cells #[.int .i64 0,.int .i64 0,sv []] 135)) w.heap.size 135 [.int .i64 0,.int .i64 0,sv []]:=Blk.new' (l:=[.int .i64 0,.int .i64 0,sv []]);go_enter func111,ntmps111;go_wp2_with fail;refine(QL x 1 _ dP dP dP dP).mono ?_;rintro e w1 ⟨rfl,hb1⟩;rw[HG.out];obtain⟨hc1,hf1⟩:=fY hb1;have z1:=hb1.size;(try simp only[dW,dT,dX]at hc1 hf1 z1);have y1:w.heap.size<w1.heap.size:=dP;have hn:nZ ⟨x,1,[]⟩=true:=by simp [nZ];omega
 have HN:=aa hn;clear hn;go_wp2_with fail;refine bu ?_;refine aW (S:=λ_=>True) dU bO (λhH=>?_);have SX:True:=bO;refine ey 0 ?_;refine ey 1 ?_;refine ey 2 ?_;refine ey 3 ?_;refine ey 4 ?_;refine ey 5 ?_;refine ey 6 ?_;refine fZ 7 ?_;intro K hK;go_simp;refine hK _ _ ⟨bO,?_⟩;refine iW ?_;refine fZ 8 ?_;intro K hK;go_simp;refine hK _ _ ⟨bO,?_⟩;refine iW ?_;refine bv dU ?_ _;refine ba ?_;go_wp2_with fail;refine(pA ⟨x,1,[]⟩ _).mono ?_;rw[HN.out];rintro e w2 ⟨rfl,jS⟩;obtain⟨hc2,hf2⟩:=fY jS;have z2:=jS.size;(try simp only[dW,dT,dX]at hc2 hf2 z2);have y2:w.heap.size<w2.heap.size:=dP;have y3:w1.heap.size<w2.heap.size:=dP;have y4:w.heap.size<w1.heap.size+1:=dP;obtain⟨r0,r1,r2⟩:=Blk.c3 (Blk.next (Blk.dw (Blk.al (kR.next hb1))) jS);go_wp2_with fail;refine bM (v:=Me ⟨x,1,[]⟩) (by simp [results,results111,go_sem,r0,r1,r2,y1,y2,y3]) rfl ⟨rfl,?_⟩
 (repeat'(first|with_reducible assumption|with_reducible exact Below.refl _ _|with_reducible refine jR ?_|with_reducible refine gT ?_ ?_|with_reducible refine ie ?_ ?_|with_reducible refine gR ?_ dY ?_|((try simp only[dW,dT,dX]);omega)))
theorem xD (x:Int) (h1:1<=x) (h2:x<=40) (w:World):Calls prog 126 #[x,.int .i64 1] w λe w'=>e= .returned (Me ⟨x,1,[]⟩)/\Below w.heap.size w w':=by
 have hg:Nat.gcd x.natAbs (1:Int).natAbs=1:=dR;have d1:decide (-4000000000000000000<=x/\x<=4000000000000000000)=true:=dS;have d3:decide (-999999999<=x/\x<=999999999)=true:=dS;have d4:decide ((-4000000000000000000:Int)<=1/\(1:Int)<=4000000000000000000)=true:=dR;have HG:=aa hg;have D1:=aa d1;have D3:=aa d3;clear hg d1 d3;have kR:Blk (w.alloc (.cells #[.int .i64 0,.int .i64 0,sv []] 135)) w.heap.size 135 [.int .i64 0,.int .i64 0,sv []]:=Blk.new' (l:=[.int .i64 0,.int .i64 0,sv []]);go_enter func126,ntmps126;go_wp2_with fail;refine(gj _ _ _ _).mono ?_;rw[D1.out];rintro e w1 ⟨rfl,rfl⟩;go_wp2_with fail;refine(gj _ _ _ _).mono ?_;rw[d4];rintro e w1 ⟨rfl,rfl⟩;go_wp2_with fail;refine(JM x 1 _ dP dP dP dP).mono ?_;rintro e w1 ⟨rfl,hb1⟩;rw[HG.out];obtain⟨hc1,hf1⟩:=fY hb1;have z1:=hb1.size;(try simp only[dW,dT,dX]at hc1 hf1 z1);have y1:w.heap.size<w1.heap.size:=dP;go_wp2_with fail;refine bu ?_;refine aW (S:=λ_=>True) dU bO (λhH=>?_);have SX:True:=bO;refine ey 0 ?_;refine ey 1 ?_;refine ey 2 ?_;refine ey 3 ?_;refine ey 4 ?_;refine ey 5 ?_;refine ey 6 ?_;refine fZ 7 ?_;intro K hK;go_simp;refine hK _ _ ⟨bO,?_⟩;refine iW ?_;refine fZ 8 ?_;intro K hK;go_simp;refine hK _ _ ⟨bO,?_⟩;refine iW ?_;refine bv dU ?_ _;refine ba ?_;go_wp2_with fail;refine(gj _ _ _ _).mono ?_;rw[D3.out];rintro e w2 ⟨rfl,rfl⟩;have y4:w.heap.size<w1.heap.size+1:=dP;obtain⟨r0,r1,r2⟩:=Blk.c3 (kR.next hb1);go_wp2_with fail;refine bM (v:=Me ⟨x,1,[]⟩) (by simp [results,results126,go_sem,r0,r1,r2,y1]) rfl ⟨rfl,?_⟩
 (repeat'(first|with_reducible assumption|with_reducible exact Below.refl _ _|with_reducible refine jR ?_|with_reducible refine gT ?_ ?_|with_reducible refine ie ?_ ?_|with_reducible refine gR ?_ dY ?_|((try simp only[dW,dT,dX]);omega)))
def js (st:Hp->Vec->Hp × Int) (s:Hp × List Int) (p:Vec):Hp × List Int:=((st s.1 p).1,s.2++[(st s.1 p).2])
abbrev noParts (v:Vec):Vec:={v with parts:=[]}
def fL:Nat->Hp->Vec->Hp × Int
 |0,h,_=>(h,0)
 |f+1,h,v=>gH (v.parts.foldl (js (fL f)) (h,[])).1 ⟨1,noParts v,(v.parts.foldl (js (fL f)) (h,[])).2⟩
def Ba (ok:Hp->Vec->Prop) (st:Hp->Vec->Hp × Int):Hp × List Int->List Vec->Prop
 |_,[]=>True
 |s,p::t=>ok s.1 p/\Ba ok st (js st s p) t
def rX:Nat->Hp->Vec->Prop
 |0,_,_=>False
 |f+1,h,v=>Ba (rX f) (fL f) (h,[]) v.parts/\((v.parts.foldl (js (fL f)) (h,[])).1.cells.length:Int)<=1073741824/\szD v.toD<=100000000000/\(v.parts.length:Int)<=1073741824
theorem qC {f:α->Vec->α} {l:List Vec} {a:α} {y:Vec} (h:l[j]?=some y):(l.take (j+1)).foldl f a=f ((l.take j).foldl f a) y:=by rw[List.take_add_one,h,List.foldl_append];rfl
theorem vL {ok:Hp->Vec->Prop} {st:Hp->Vec->Hp × Int}:∀{l:List Vec} {s:Hp × List Int} {j:Nat} {y:Vec},Ba ok st s l->l[j]?=some y->ok ((l.take j).foldl (js st) s).1 y
 |[],_,_,_,_,h'=>by simp at h'
 |p::t,s,0,y,ho,h'=>by simp at h';subst h';rw[Ba]at ho;exact ho.1
 |p::t,s,j+1,y,ho,h'=>by simp at h';rw[Ba]at ho;rw[cG,bC];exact vL ho.2 h'
theorem tM:∀{l:List Cel} {i k:Nat},gy l i=some k->k<i+l.length
 |[],i,k,h=>by simp [gy]at h
 |c::t,i,k,h=>by
  rw[gy]at h;split at h
  ·injection h with h;simp;omega
  ·have:=tM h;simp;omega
theorem E6 {h:Hp} {c:Cel} (hl:(h.cells.length:Int)<=1073741824):(Lit.int .i64 (gH h c).2).wf=true:=by
 rw[kP];unfold gH;cases hf:gy h.cells 0 with
 |none=>simp only;omega
 |some k=>have:=tM hf;simp only;omega
def ab1 (fn:Nat) (f:Nat):Prop:=∀(h:Hp) (v:Vec) (g:Nat) (F:List Nat) (B:Nat) (cs:List Value) (w:World),HB w g h F->rep w B v.toD cs->B<=w.heap.size->(∀y∈g::F,B<=y)->rX f h v->
 Calls prog fn #[.pointer (some ⟨g,0,none⟩),.agg cs.toArray] w λe w'=>e= .returned (.int .i64 (fL f h v).2)/\(Lit.int .i64 (fL f h v).2).wf=true/\∃F',HB w' g (fL f h v).1 F'/\Sub w.heap.size F F'/\Mod (g::F) w w'
theorem air {p q a' b' c' d' e' f' h' i':Value} (k:Blk w g t [p,a',b',c',d',e',f',h',i',q]) (a b c d e f h i:Value):
 Blk ((((((((w.setCell ⟨g,1,none⟩ a).setCell ⟨g,2,none⟩ b).setCell ⟨g,3,none⟩ c).setCell ⟨g,4,none⟩ d).setCell ⟨g,5,none⟩ e).setCell ⟨g,6,none⟩ f).setCell ⟨g,7,none⟩ h).setCell ⟨g,8,none⟩ i) g t [p,a,b,c,d,e,f,h,i,q]/\Mod [g] w ((((((((w.setCell ⟨g,1,none⟩ a).setCell ⟨g,2,none⟩ b).setCell ⟨g,3,none⟩ c).setCell ⟨g,4,none⟩ d).setCell ⟨g,5,none⟩ e).setCell ⟨g,6,none⟩ f).setCell ⟨g,7,none⟩ h).setCell ⟨g,8,none⟩ i):=by
 have P:∀(w:World) (o:Nat) (u:Value),Mod [g] w (w.setCell ⟨g,o,none⟩ u):=λw o u=>Mod.poke (F:=[g]) (p:=⟨g,o,none⟩) dR u;exact⟨(((((((k.set_ 1 a).set_ 2 b).set_ 3 c).set_ 4 d).set_ 5 e).set_ 6 f).set_ 7 h).set_ 8 i,iV (iV (iV (iV (iV (iV (iV (P _ _ _) (P _ _ _) (λ_ h=>h)) (P _ _ _) (λ_ h=>h)) (P _ _ _) (λ_ h=>h)) (P _ _ _) (λ_ h=>h)) (P _ _ _) (λ_ h=>h)) (P _ _ _) (λ_ h=>h)) (P _ _ _) (λ_ h=>h)⟩
theorem nK:rep w B (.sl []) [()]:=by rw[rep];exact⟨none,0,0,0,[],rfl,af _,by unfold maxLen;omega,Reads.nil_,EO⟩
theorem PO (v:Vec):szD (noParts v).toD<=szD v.toD:=by rw[go,go];simp only[szD,gv,bL,bf];omega
def l_ (y:Int):Item:=⟨y,1,[]⟩
def nU (l:List Int):Vec:=⟨2,l.map l_,[],[],[],[],0,0⟩
theorem vt (l:List Int) (jb:∀y∈l,1<=y/\y<=40) (A:Option Addr) (n c:Nat) (w:World) (h:rep w w.heap.size (.sl (l.map (D.i .i64))) [.slice A n c]) (hn:(n:Int)<=40):Calls prog 43 #[.slice A n c] w (gM (nU l).toD 38 w):=by
 obtain⟨A',n',c',he,Nh,hnm,hr,-⟩:=(qy _ _ _ _).1 h;injection he with he;injection he with f1 f2 f3;subst f1 f2 f3
 have HL:=aa hr.len;have HA:=aa jb;clear jb;have O6:Below w.heap.size w ((w.alloc (.cells #[.int .i64 0,(),(),(),(),(),.int .i64 0,.int .i64 0] 38)).alloc (.cells #[.int .i64 2,(),(),(),(),(),.int .i64 0,.int .i64 0] 38)):=((Below.refl _ _).alloc (af _) _).alloc dR _;have kR0:Blk ((w.alloc (.cells #[.int .i64 0,(),(),(),(),(),.int .i64 0,.int .i64 0] 38)).alloc (.cells #[.int .i64 2,(),(),(),(),(),.int .i64 0,.int .i64 0] 38)) w.heap.size 38 [.int .i64 0,(),(),(),(),(),.int .i64 0,.int .i64 0]:=(Blk.new' (l:=[.int .i64 0,.slice none 0 0,.slice none 0 0,.slice none 0 0,.slice none 0 0,.slice none 0 0,.int .i64 0,.int .i64 0])).al;have k30:Blk ((w.alloc (.cells #[.int .i64 0,(),(),(),(),(),.int .i64 0,.int .i64 0] 38)).alloc (.cells #[.int .i64 2,(),(),(),(),(),.int .i64 0,.int .i64 0] 38)) (w.heap.size+1) 38 [.int .i64 2,(),(),(),(),(),.int .i64 0,.int .i64 0]:=Gs;go_enter func43,ntmps43;go_wp2_with fail;obtain⟨W,hW⟩:∃W,W=((w.alloc (.cells #[.int .i64 0,(),(),(),(),(),.int .i64 0,.int .i64 0] 38)).alloc (.cells #[.int .i64 2,(),(),(),(),(),.int .i64 0,.int .i64 0] 38)):=⟨_,rfl⟩;rw[<-hW]at O6 kR0 k30 ⊢;clear hW;go_loopw [13] (λi wr=>∃(j:Nat) (Aq:Option Addr) (cq:Nat) (Fq:List Nat),j<=n/\i= .int .i64 j/\Blk wr w.heap.size 38 [.int .i64 0,(),(),(),(),(),.int .i64 0,.int .i64 0]/\Blk wr (w.heap.size+1) 38 [.int .i64 2,.slice Aq j cq,(),(),(),(),.int .i64 0,.int .i64 0]/\own prog wr (.sl (((l.take j).map l_).map Item.toD)) 35 Fq [.slice Aq j cq]/\Fresh (w.heap.size+1+1) Fq/\Below w.heap.size w wr) (λi _=>n - (intOf i).toNat)
 case atStart=>exact⟨0,none,0,[],by omega,rfl,kR0,k30,kY underlying35,Fresh.nil,O6⟩
 case round=>
  clear kR0 k30 O6;obtain⟨j,Aq,cq,Fq,hj,rfl,kR,k3,oq,qL,bel⟩:=hrel;have hwr:w.heap.size+1<wr.heap.size:=k3.lt;by_cases hlj:j<n
  ·obtain⟨b,off,y,rfl,gD,hy,R9⟩:=hr.atI hlj;obtain⟨WF,Ya⟩:=HA.out y (aA hy);have HX:=aa hy;have hcy:=(bel.cell (p:=⟨b,off+j,none⟩) gD).trans R9;have j0:(0:Int)<=(j:Int):=dP;have j1:(j:Int)<(n:Int):=dP;clear hy;go_wp2_with fail;refine bu ?_;refine aW (S:=λV=>True) dU bO (λhH=>?_);replace kR:=kR.dw;replace k3:=k3.dw;replace oq:=gX oq;replace bel:=bel.drew;have abE:w.heap.size+1<wr.drew.heap.size:=hwr;have XH:wr.drew.cell? ⟨b,off+j,none⟩=some (.int .i64 y):=hcy;have SX:=(show True from bO);generalize wr.drew=v0 at kR k3 oq bel abE XH SX ⊢;have cv0:=k3.cell 1;simp only[ah,ag]at cv0;refine ey 0 ?_;refine ey 2 ?_;refine dG (rs:=[1,3]) dU dR (λi hi=>?_);simp only[aX,df,ce]at hi;rcases hi with rfl|rfl;all_goals refine dD gO (λK hK=>?_)
   ·go_simp;refine hK _ _ ⟨SX,?_⟩;refine iW ?_;refine fZ 3 ?_;intro K hK;go_simp;go_at_call 111;refine(sK y WF Ya _).mono ?_;rintro e w3 ⟨rfl,lE⟩;have z3:=lE.size;have Yf:=kR.next lE;have CC:=k3.next lE;have ZY:=em oq lE;have x4:Below w3.heap.size w3 (w3.alloc (.cells #[.int .i64 y,.int .i64 1,sv []] 135)):=(Below.refl _ _).alloc (af _) _;have kn4:Blk (w3.alloc (.cells #[.int .i64 y,.int .i64 1,sv []] 135)) w3.heap.size 135 [.int .i64 y,.int .i64 1,sv []]:=Blk.new' (l:=[.int .i64 y,.int .i64 1,sv []]);have Jm:=CC.cell 1;simp only[ah,ag]at Jm;have Jn:=(CC.next x4).cell 1;simp only[ah,ag]at Jn;have KG:=ij bel lE;refine hK _ _ ⟨bO,?_⟩;refine iW ?_;refine fZ 4 ?_;intro K hK;go_simp;refine hK _ _ ⟨bO,?_⟩;refine iW ?_;refine fZ 5 ?_;intro K hK;refine gL (A:=Aq) (n:=j) (c:=cq) (b:=w3.heap.size) (m:=1) (xs:=((l.take j).map l_).map Item.toD) (F:=Fq) (d:=(l_ y).toD) (F':=[]) (te:=135) (cs:=[.int .i64 y,.int .i64 1,sv []]) kM ?_ ?_ (.tmp 18) (.tmp 21) ?_ ?_ ?_ ?_ ?_ ?_ ?_ ?_ ?_ ?_ ?_
    ·kernel_rfl
    ·rfl
    ·rfl
    ·rfl
    ·exact lz
    ·rfl
    ·exact kn4
    ·exact pI
    ·rfl
    ·exact lw
    ·exact g8
    ·omega
    intro gg gc w5 F5 o5 ap5 md5;simp only[dT]at ap5;have U8:=Blk.mod (g:=w.heap.size) (Yf.next x4) md5 (qL.notin dP);have vB:=Blk.mod (g:=w.heap.size+1) (CC.next x4) md5 (qL.notin dP);have z5:=md5.size;simp only[dT]at z5;have uW:=jN (ij KG x4) md5 (λy hy=>by have:=qL.2 y hy;omega) eA;have pU:=vB.cell 1;simp only[ah,ag]at pU;have Zr:=vB.frozen 1;have UL:w.heap.size+1<w5.heap.size:=vB.lt;refine hK _ _ ⟨bO,?_⟩;refine iW ?_;have SX2:=(show _ from bO);refine ey 6 ?_;refine fZ 7 ?_;intro K hK;go_simp;refine hK _ _ ⟨bO,?_⟩;refine iW ?_;refine bv dU ?_ _;refine ba ?_;clear Jm Jn pU;go_wp2_with fail;go_roundw
    case rel=>
     have Tt:∀y∈F5,y∈Fq\/w.heap.size+1+1<=y:=λy hy=>pF;have MU:∀y∈F5,w.heap.size+1+1<=y:=λy hy=>pG;refine⟨j+1,some ⟨gg,0,none⟩,gc,F5,by omega,by go_num,Blk.pk (p:=⟨w.heap.size+1,1,none⟩) iT U8,vB.set_ 1 _,?_,⟨ap5.1,MU⟩,uW.setCell kt _⟩;rw[eJ HX.out,aI,aI];exact ft o5 (λhm=>by have:=MU _ hm;simp at this;omega)
    case measure=>simp [intOf];omega
   ·
    go_simp;go_at_call 111;refine(sK y WF Ya _).mono ?_;rintro e w3 ⟨rfl,lE⟩;have z3:=lE.size;have Yf:=kR.next lE;have CC:=k3.next lE;have ZY:=em oq lE;have x4:Below w3.heap.size w3 (w3.alloc (.cells #[.int .i64 y,.int .i64 1,sv []] 135)):=(Below.refl _ _).alloc (af _) _;have kn4:Blk (w3.alloc (.cells #[.int .i64 y,.int .i64 1,sv []] 135)) w3.heap.size 135 [.int .i64 y,.int .i64 1,sv []]:=Blk.new' (l:=[.int .i64 y,.int .i64 1,sv []]);have Jm:=CC.cell 1;simp only[ah,ag]at Jm;have Jn:=(CC.next x4).cell 1;simp only[ah,ag]at Jn;have KG:=ij bel lE;refine hK _ _ ⟨bO,?_⟩;refine iW ?_;refine dG (rs:=[1,4]) dU dR (λi hi=>?_);simp only[aX,df,ce]at hi;rcases hi with rfl|rfl;all_goals refine dD gO (λK hK=>?_)
    ·go_simp;refine hK _ _ ⟨bO,?_⟩;refine iW ?_;refine fZ 4 ?_;intro K hK;go_simp;refine hK _ _ ⟨bO,?_⟩;refine iW ?_;refine fZ 5 ?_;intro K hK;refine gL (A:=Aq) (n:=j) (c:=cq) (b:=w3.heap.size) (m:=1) (xs:=((l.take j).map l_).map Item.toD) (F:=Fq) (d:=(l_ y).toD) (F':=[]) (te:=135) (cs:=[.int .i64 y,.int .i64 1,sv []]) kM ?_ ?_ (.tmp 18) (.tmp 21) ?_ ?_ ?_ ?_ ?_ ?_ ?_ ?_ ?_ ?_ ?_
     ·kernel_rfl
     ·rfl
     ·rfl
     ·rfl
     ·exact lz
     ·rfl
     ·exact kn4
     ·exact pI
     ·rfl
     ·exact lw
     ·exact g8
     ·omega
     intro gg gc w5 F5 o5 ap5 md5;simp only[dT]at ap5;have U8:=Blk.mod (g:=w.heap.size) (Yf.next x4) md5 (qL.notin dP);have vB:=Blk.mod (g:=w.heap.size+1) (CC.next x4) md5 (qL.notin dP);have z5:=md5.size;simp only[dT]at z5;have uW:=jN (ij KG x4) md5 (λy hy=>by have:=qL.2 y hy;omega) eA;have pU:=vB.cell 1;simp only[ah,ag]at pU;have Zr:=vB.frozen 1;have UL:w.heap.size+1<w5.heap.size:=vB.lt;refine hK _ _ ⟨bO,?_⟩;refine iW ?_;have SX2:=(show _ from bO);refine ey 6 ?_;refine fZ 7 ?_;intro K hK;go_simp;refine hK _ _ ⟨bO,?_⟩;refine iW ?_;refine bv dU ?_ _;refine ba ?_;clear Jm Jn pU;go_wp2_with fail;go_roundw
     case rel=>
      have Tt:∀y∈F5,y∈Fq\/w.heap.size+1+1<=y:=λy hy=>pF;have MU:∀y∈F5,w.heap.size+1+1<=y:=λy hy=>pG;refine⟨j+1,some ⟨gg,0,none⟩,gc,F5,by omega,by go_num,Blk.pk (p:=⟨w.heap.size+1,1,none⟩) iT U8,vB.set_ 1 _,?_,⟨ap5.1,MU⟩,uW.setCell kt _⟩;rw[eJ HX.out,aI,aI];exact ft o5 (λhm=>by have:=MU _ hm;simp at this;omega)
     case measure=>simp [intOf];omega
    ·go_simp;refine hK _ _ ⟨bO,?_⟩;refine iW ?_;refine fZ 1 ?_;intro K hK;go_simp;refine hK _ _ ⟨bO,?_⟩;refine iW ?_;refine fZ 5 ?_;intro K hK;refine gL (A:=Aq) (n:=j) (c:=cq) (b:=w3.heap.size) (m:=1) (xs:=((l.take j).map l_).map Item.toD) (F:=Fq) (d:=(l_ y).toD) (F':=[]) (te:=135) (cs:=[.int .i64 y,.int .i64 1,sv []]) kM ?_ ?_ (.tmp 18) (.tmp 21) ?_ ?_ ?_ ?_ ?_ ?_ ?_ ?_ ?_ ?_ ?_
     ·kernel_rfl
     ·rfl
     ·rfl
     ·rfl
     ·exact lz
     ·rfl
     ·exact kn4
     ·exact pI
     ·rfl
     ·exact lw
     ·exact g8
     ·omega
     intro gg gc w5 F5 o5 ap5 md5;simp only[dT]at ap5;have U8:=Blk.mod (g:=w.heap.size) (Yf.next x4) md5 (qL.notin dP);have vB:=Blk.mod (g:=w.heap.size+1) (CC.next x4) md5 (qL.notin dP);have z5:=md5.size;simp only[dT]at z5;have uW:=jN (ij KG x4) md5 (λy hy=>by have:=qL.2 y hy;omega) eA;have pU:=vB.cell 1;simp only[ah,ag]at pU;have Zr:=vB.frozen 1;have UL:w.heap.size+1<w5.heap.size:=vB.lt;refine hK _ _ ⟨bO,?_⟩;refine iW ?_;have SX2:=(show _ from bO);refine ey 6 ?_;refine fZ 7 ?_;intro K hK;go_simp;refine hK _ _ ⟨bO,?_⟩;refine iW ?_;refine bv dU ?_ _;refine ba ?_;clear Jm Jn pU;go_wp2_with fail;go_roundw
     case rel=>
      have Tt:∀y∈F5,y∈Fq\/w.heap.size+1+1<=y:=λy hy=>pF;have MU:∀y∈F5,w.heap.size+1+1<=y:=λy hy=>pG;refine⟨j+1,some ⟨gg,0,none⟩,gc,F5,by omega,by go_num,Blk.pk (p:=⟨w.heap.size+1,1,none⟩) iT U8,vB.set_ 1 _,?_,⟨ap5.1,MU⟩,uW.setCell kt _⟩;rw[eJ HX.out,aI,aI];exact ft o5 (λhm=>by have:=MU _ hm;simp at this;omega)
     case measure=>simp [intOf];omega
  ·obtain rfl:j=n:=dP;rw[aC ws]at oq;obtain⟨a0,a1,a2,a3,a4,a5,a6,a7⟩:=k3.c8;obtain⟨r0,r1,r2,r3,r4,r5,r6,r7⟩:=kR.c8;have zr:=λi=>kR.frozen i;have Tq:=zr 0;have zr1:=zr 1;have zr2:=zr 2;have zr3:=zr 3;have zr4:=zr 4;have zr5:=zr 5;have zr6:=zr 6;have zr7:=zr 7;have XB:w.heap.size<wr.heap.size:=dP;clear zr;go_wp2_with fail;refine bM (v:= .agg #[.int .i64 2,.slice Aq j cq,(),(),(),(),.int .i64 0,.int .i64 0]) (by simp [results,results43,go_sem,r0,r1,r2,r3,r4,r5,r6,r7,XB]) rfl ⟨_,Fq++([]++([]++([]++([]++[])))),rfl,?_,?_,?_⟩
   ·exact Gz
   ·simpa using qL.mono dP
   ·exact mg
def gI (frm tk:Int) (x:Item):Item:=if eI x=true\/frm=tk\/tk=2 then x else if frm=2 then sN (qq x) else if x.num=1 then sN [84,82,85,69] else sN [70,65,76,83,69]
def qw (k:Int) (x:Item):Vec:=⟨k,[x],[],[],[],[],0,0⟩
def conv (v:Vec) (k:Int):Vec:=if k=4 then⟨4,[],v.parts++v.items.map (qw v.kind),v.names,[],[],0,0⟩ else⟨k,v.items.map (gI v.kind k),[],v.names,[],[],0,0⟩
def SU (w:Vec):Vec:=if w.levels=[] then⟨w.kind,w.items,[],[],[],[],0,0⟩ else⟨3,w.items.map (λx=>if eI x then x else sN (ZT w.levels (x.num - 1).toNat)),[],[],[],[],0,0⟩
def Eh (levels:List Str) (y:Item):Item:=if eI y=true\/ix levels y.text 0<0 then⟨0,0,[]⟩ else l_ (ix levels y.text 0+1)
def eY {α:Type} (l:List α) (n:Nat) (z:α):List α:=l++List.replicate (n - l.length) z
def gZ (v:Vec):Vec:=if lR v.names then {v with names:=[]} else v
def kG (v:Vec):Vec × Str:=if isVec v=true then (v,[]) else (zeroV,E_)
section
variable {w0 w:World} {X:List Nat} {R:List As}
theorem Mem.vec8 {r:Vec} {cs:List Value} (M:Mem prog w0 X w (.ow r.toD 38 cs::R)):∃a0 a1 a2 a3 a4 a5 a6 a7,cs=[a0,a1,a2,a3,a4,a5,a6,a7]:=by obtain⟨_,_,_,_,_,_,_,_,_,_,_,_,_,_,_,h,_⟩:=M.openVec;exact⟨_,_,_,_,_,_,_,_,h⟩
theorem Mem.vecL {rv:Vec} {cs:List Value} (M:Mem prog w0 X w (.ow rv.toD 38 cs::R)):∃(Ai:Option Addr) (ci:Nat) (Ap:Option Addr) (cp:Nat) (An:Option Addr) (cn:Nat) (Ac:Option Addr) (cc:Nat) (Al:Option Addr) (cl:Nat),cs=[.int .i64 rv.kind,.slice Ai rv.items.length ci,.slice Ap rv.parts.length cp,.slice An rv.names.length cn,.slice Ac rv.cls.length cc,.slice Al rv.levels.length cl,.int .i64 rv.code,.int .i64 rv.env]:=by obtain⟨Ai,ci,Ap,cp,An,cn,Ac,cc,Al,cl,h,_⟩:=d_ (M.rp 0 rfl);exact⟨Ai,ci,Ap,cp,An,cn,Ac,cc,Al,cl,h⟩
theorem Mem.newTwoL {rv:Vec} {y:Value} {w':World} {e:Ending} (M:Mem prog w0 X w R) (hn:eH rv.toD 38 y w e w'):∃(Ai:Option Addr) (ci:Nat) (Ap:Option Addr) (cp:Nat) (An:Option Addr) (cn:Nat) (Ac:Option Addr) (cc:Nat) (Al:Option Addr) (cl:Nat),
 e= .returned (.tuple #[.agg #[rv.kind,.slice Ai rv.items.length ci,.slice Ap rv.parts.length cp,.slice An rv.names.length cn,.slice Ac rv.cls.length cc,.slice Al rv.levels.length cl,rv.code,rv.env],y])/\
 Mem prog w0 X w' (.ow rv.toD 38 [rv.kind,.slice Ai rv.items.length ci,.slice Ap rv.parts.length cp,.slice An rv.names.length cn,.slice Ac rv.cls.length cc,.slice Al rv.levels.length cl,rv.code,rv.env]::R):=by
 obtain⟨cs,F,rfl,ho,hf,hb⟩:=hn;have M':=M.gain ho hf hb;obtain⟨Ai,ci,Ap,cp,An,cn,Ac,cc,Al,cl,rfl⟩:=M'.vecL;exact⟨Ai,ci,Ap,cp,An,cn,Ac,cc,Al,cl,rfl,M'⟩
theorem Mem.zeroVec (M:Mem prog w0 X w R):Mem prog w0 X w (.ow zeroV.toD 38 [.int .i64 0,(),(),(),(),(),.int .i64 0,.int .i64 0]::R):=
 Mem.joinVec (v:=zeroV) (((((M.nil (t:=25) underlying25).nil (t:=25) underlying25).nil (t:=25) underlying25).nil (t:=36) underlying36).nil (t:=35) underlying35) le le le
theorem Th {r:Vec} {cs:List Value} (M:Mem prog w0 X w (.ow r.toD 38 cs::R)):Calls prog 154 #[av cs] w λe w'=>∃a0 a1 a2 a3 a4 a5 a6 a7,e= .returned (.agg #[a0,a1,a2,a3,a4,a5,a6,a7])/\Mem prog w0 X w' (.ow (gZ r).toD 38 [a0,a1,a2,a3,a4,a5,a6,a7]::R):=by
 have hr:=M.rp 0 rfl;obtain⟨Ai,ni,ci,Ap,np,cp,An,nn,cn,Ac,nc,cc,Al,nl,cl,rfl,wk,-,-,-,-,-,wc,we⟩:=fw hr;refine(I7 r Ai ni ci Ap np cp An nn cn Ac nc cc Al nl cl w hr).mono ?_;rintro e w' ⟨rfl,hb⟩;have M1:=M.next hb;cases he:lR r.names with
 |false=>exact⟨_,_,_,_,_,_,_,_,by rw[aH dQ],by rw[show gZ r=r by unfold gZ;rw[he];rfl];exact M1⟩
 |true=>
  obtain⟨_,_,_,_,_,_,_,_,_,_,_,_,_,_,_,hc,M2⟩:=M1.openVec;simp only[bF,bG,dy,cO]at hc;obtain⟨⟨rfl,rfl,rfl⟩,⟨rfl,rfl,rfl⟩,⟨rfl,rfl,rfl⟩,⟨rfl,rfl,rfl⟩,rfl,rfl,rfl⟩:=hc;refine⟨_,_,_,_,_,_,_,_,by rw[aN rfl],?_⟩;rw[show gZ r={r with names:=[]} by unfold gZ;rw[he];rfl];have M3:=((M2.pull 2 rfl).drop).nil (t:=25) underlying25;have M4:=(M3.pull 2 rfl).pull 2 rfl;exact Mem.joinVec (v:={r with names:=[]}) M4 wk wc we
theorem RZ {r rv:Vec} {rs:Str} {cs:List Value} (M:Mem prog w0 X w (.ow r.toD 38 cs::R)) (ga:bigV r) (he:kG r=(rv,rs)):Calls prog 161 #[av cs] w λe w'=>∃a0 a1 a2 a3 a4 a5 a6 a7,e= .returned (.tuple #[.agg #[a0,a1,a2,a3,a4,a5,a6,a7],sv rs])/\Mem prog w0 X w' (.ow rv.toD 38 [a0,a1,a2,a3,a4,a5,a6,a7]::R):=by
 obtain⟨a0,a1,a2,a3,a4,a5,a6,a7,rfl⟩:=M.vec8;refine(Ue r _ w (M.rp 0 rfl) ga).mono ?_;rintro e w' ⟨rfl,hb⟩;unfold kG at he;cases hv:isVec r with
 |true=>
  rw[hv,aN rfl]at he;injection he with e1 e2;subst e1 e2
  exact⟨_,_,_,_,_,_,_,_,rfl,M.next hb⟩
 |false=>
  rw[hv,aH dQ]at he;injection he with e1 e2;subst e1 e2
  exact⟨_,_,_,_,_,_,_,_,rfl,(M.next hb).drop.zeroVec⟩
theorem PJ {r rv:Vec} {rs:Str} {cs:List Value} (M:Mem prog w0 X w (.ow r.toD 38 cs::R)) (ga:bigV r) (he:kG r=(rv,rs)):Calls prog 124 #[av cs] w λe w'=>∃a0 a1 a2 a3 a4 a5 a6 a7,e= .returned (.tuple #[.agg #[a0,a1,a2,a3,a4,a5,a6,a7],sv rs])/\Mem prog w0 X w' (.ow rv.toD 38 [a0,a1,a2,a3,a4,a5,a6,a7]::R):=by
 obtain⟨a0,a1,a2,a3,a4,a5,a6,a7,rfl⟩:=M.vec8;refine(SJ r _ w (M.rp 0 rfl) ga).mono ?_;rintro e w' ⟨rfl,hb⟩;unfold kG at he;cases hv:isVec r with
 |true=>
  rw[hv,aN rfl]at he;injection he with e1 e2;subst e1 e2
  exact⟨_,_,_,_,_,_,_,_,rfl,M.next hb⟩
 |false=>
  rw[hv,aH dQ]at he;injection he with e1 e2;subst e1 e2
  exact⟨_,_,_,_,_,_,_,_,rfl,(M.next hb).drop.zeroVec⟩
theorem v9 {r rv:Vec} {cs:List Value} (M:Mem prog w0 X w (.ow r.toD 38 cs::R)) (he:gZ r=rv):Calls prog 154 #[av cs] w λe w'=>∃(Ai:Option Addr) (ci:Nat) (Ap:Option Addr) (cp:Nat) (An:Option Addr) (cn:Nat) (Ac:Option Addr) (cc:Nat) (Al:Option Addr) (cl:Nat),e= .returned (.agg #[rv.kind,.slice Ai rv.items.length ci,.slice Ap rv.parts.length cp,.slice An rv.names.length cn,.slice Ac rv.cls.length cc,.slice Al rv.levels.length cl,rv.code,rv.env])/\Mem prog w0 X w' (.ow rv.toD 38 [rv.kind,.slice Ai rv.items.length ci,.slice Ap rv.parts.length cp,.slice An rv.names.length cn,.slice Ac rv.cls.length cc,.slice Al rv.levels.length cl,rv.code,rv.env]::R):=by refine(Th M).mono ?_;rintro e w' ⟨a0,a1,a2,a3,a4,a5,a6,a7,rfl,M'⟩;rw[he]at M';obtain⟨Ai,ci,Ap,cp,An,cn,Ac,cc,Al,cl,h⟩:=M'.vecL;rw[h]at M';simp only[bF,cO]at h;obtain⟨rfl,rfl,rfl,rfl,rfl,rfl,rfl,rfl⟩:=h;exact⟨Ai,ci,Ap,cp,An,cn,Ac,cc,Al,cl,rfl,M'⟩
theorem zA {r rv:Vec} {rs:Str} {cs:List Value} (M:Mem prog w0 X w (.ow r.toD 38 cs::R)) (ga:bigV r) (he:kG r=(rv,rs)):Calls prog 161 #[av cs] w λe w'=>∃(Ai:Option Addr) (ci:Nat) (Ap:Option Addr) (cp:Nat) (An:Option Addr) (cn:Nat) (Ac:Option Addr) (cc:Nat) (Al:Option Addr) (cl:Nat),e= .returned (.tuple #[.agg #[rv.kind,.slice Ai rv.items.length ci,.slice Ap rv.parts.length cp,.slice An rv.names.length cn,.slice Ac rv.cls.length cc,.slice Al rv.levels.length cl,rv.code,rv.env],sv rs])/\Mem prog w0 X w' (.ow rv.toD 38 [rv.kind,.slice Ai rv.items.length ci,.slice Ap rv.parts.length cp,.slice An rv.names.length cn,.slice Ac rv.cls.length cc,.slice Al rv.levels.length cl,rv.code,rv.env]::R):=by refine(RZ M ga he).mono ?_;rintro e w' ⟨a0,a1,a2,a3,a4,a5,a6,a7,rfl,M'⟩;obtain⟨Ai,ci,Ap,cp,An,cn,Ac,cc,Al,cl,h⟩:=M'.vecL;rw[h]at M';simp only[bF,cO]at h;obtain⟨rfl,rfl,rfl,rfl,rfl,rfl,rfl,rfl⟩:=h;exact⟨Ai,ci,Ap,cp,An,cn,Ac,cc,Al,cl,rfl,M'⟩
theorem wU {r rv:Vec} {rs:Str} {cs:List Value} (M:Mem prog w0 X w (.ow r.toD 38 cs::R)) (ga:bigV r) (he:kG r=(rv,rs)):Calls prog 124 #[av cs] w λe w'=>∃(Ai:Option Addr) (ci:Nat) (Ap:Option Addr) (cp:Nat) (An:Option Addr) (cn:Nat) (Ac:Option Addr) (cc:Nat) (Al:Option Addr) (cl:Nat),e= .returned (.tuple #[.agg #[rv.kind,.slice Ai rv.items.length ci,.slice Ap rv.parts.length cp,.slice An rv.names.length cn,.slice Ac rv.cls.length cc,.slice Al rv.levels.length cl,rv.code,rv.env],sv rs])/\Mem prog w0 X w' (.ow rv.toD 38 [rv.kind,.slice Ai rv.items.length ci,.slice Ap rv.parts.length cp,.slice An rv.names.length cn,.slice Ac rv.cls.length cc,.slice Al rv.levels.length cl,rv.code,rv.env]::R):=by refine(PJ M ga he).mono ?_;rintro e w' ⟨a0,a1,a2,a3,a4,a5,a6,a7,rfl,M'⟩;obtain⟨Ai,ci,Ap,cp,An,cn,Ac,cc,Al,cl,h⟩:=M'.vecL;rw[h]at M';simp only[bF,cO]at h;obtain⟨rfl,rfl,rfl,rfl,rfl,rfl,rfl,rfl⟩:=h;exact⟨Ai,ci,Ap,cp,An,cn,Ac,cc,Al,cl,rfl,M'⟩
end
section
variable {w0 w:World} {X:List Nat} {R:List As} {g n c k:Nat}
theorem Mem.itemAt {l:List Item} {x:Item} (M:Mem prog w0 X w (.ow (.sl (l.map Item.toD)) 35 [.slice (some ⟨g,0,none⟩) n c]::R)) (hk:l[k]?=some x):
 w.cell? ⟨g,k*3,none⟩=some (.int .i64 x.num)/\w.cell? ⟨g,k*3+1,none⟩=some (.int .i64 x.den)/\w.cell? ⟨g,k*3+2,none⟩=some (sv x.text):=by
 have hr:=M.rp 0 rfl;have hn:=(ef hr).1;rw[au]at hn;obtain⟨b,o,z,e,-,hz,-,c0,c1,c2⟩:=pK (k:=k) hr sa;injection e with e;injection e with e1 e2;subst e1 e2
 rw[hk]at hz;injection hz with hz;subst hz
 rw[bI]at c0 c1 c2;exact⟨c0,c1,c2⟩
theorem Mem.setItemG {l:List Item} {x y:Item} (M:Mem prog w0 X w (.ow (.sl (l.map Item.toD)) 35 [.slice (some ⟨g,0,none⟩) n c]::R)) (hk:l[k]?=some x) (hy:itOK y):
 (∃u,w.cell? ⟨g,k*3,none⟩=some u)/\(∃u,w.cell? ⟨g,k*3+1,none⟩=some u)/\(∃u,w.cell? ⟨g,k*3+2,none⟩=some u)/\(∀j,w.frozen? ⟨g,j,none⟩=false)/\g<w.heap.size/\
  Mem prog w0 X (((w.setCell ⟨g,k*3,none⟩ (.int .i64 y.num)).setCell ⟨g,k*3+1,none⟩ (.int .i64 y.den)).setCell ⟨g,k*3+2,none⟩ (sv y.text)) (.ow (.sl ((l.set k y).map Item.toD)) 35 [.slice (some ⟨g,0,none⟩) n c]::R):=by
 obtain⟨g',e,h⟩:=M.setItem hk hy;injection e with e;injection e with e;subst e
 exact h
theorem Mem.intAt {l:List Int} {x:Int} (M:Mem prog w0 X w (.ow (.sl (l.map (.i .i64))) 26 [.slice (some ⟨g,0,none⟩) n c]::R)) (hk:l[k]?=some x):w.cell? ⟨g,k,none⟩=some (.int .i64 x)/\g<w.heap.size:=by
 have hr:=M.rp 0 rfl;have hn:=(ef hr).1;rw[au]at hn;obtain⟨_,_,_,he,-,-,hR,-⟩:=(qy _ _ _ _).1 hr;injection he with he;injection he with e1 e2 e3;subst e1 e2 e3
 obtain⟨b,o,z,e,hb,hz,c0⟩:=hR.atI (k:=k) sa;injection e with e;injection e with e1 e2;subst e1 e2
 rw[hk]at hz;injection hz with hz;subst hz
 rw[bI]at c0;exact⟨c0,hb⟩
theorem Mem.strAt {l:List Str} {x:Str} (M:Mem prog w0 X w (.ow (.sl (l.map .s)) 25 [.slice (some ⟨g,0,none⟩) n c]::R)) (hk:l[k]?=some x):w.cell? ⟨g,k,none⟩=some (sv x):=by
 have hr:=M.rp 0 rfl;have hn:=(ef hr).1;rw[au]at hn;obtain⟨_,_,_,he,-,-,hR,-⟩:=(ls _ _ _ _).1 hr;injection he with he;injection he with e1 e2 e3;subst e1 e2 e3
 obtain⟨b,o,z,e,-,hz,c0⟩:=hR.atS (k:=k) sa;injection e with e;injection e with e1 e2;subst e1 e2
 rw[hk]at hz;injection hz with hz;subst hz
 rwa [bI]at c0
theorem Mem.setStrG {l:List Str} {x y:Str} (M:Mem prog w0 X w (.ow (.sl (l.map .s)) 25 [.slice (some ⟨g,0,none⟩) n c]::R)) (hk:l[k]?=some x) (hy:y.length<=maxLen):
 (∃u,w.cell? ⟨g,k,none⟩=some u)/\(∀j,w.frozen? ⟨g,j,none⟩=false)/\g<w.heap.size/\
  Mem prog w0 X (w.setCell ⟨g,k,none⟩ (sv y)) (.ow (.sl ((l.set k y).map .s)) 25 [.slice (some ⟨g,0,none⟩) n c]::R):=by
 obtain⟨g',e,h⟩:=M.setStr hk hy;injection e with e;injection e with e;subst e
 exact h
end
theorem jn {l:List α} {z:α}:eY l l.length z=l:=by simp [eY]
theorem pD {l:List α} {z:α} (h:l.length<=m):(eY l m z).length=m:=by simp [eY];omega
theorem iM {l:List α} {z:α} (h:l.length<=m):eY l (m+1) z=eY l m z++[z]:=by unfold eY;rw[show m+1 - l.length=(m - l.length)+1 by omega,List.replicate_succ',aS]
theorem pE {l:List α} {z:α} (h:m<=l.length):eY l m z=l:=by simp [eY,show m - l.length=0 by omega]
def gS (l:List Str) (m:Nat):List Str:=if l=[] then[] else eY l m []
theorem sQ (h:l=[]\/l.length=m):gS l m=l:=by
 unfold gS;rcases h with rfl|rfl
 ·simp
 ·rw[jn];split<;>simp_all
theorem wN (h:l=[]\/l.length<=m) (hp:0<(gS l m).length):gS l (m+1)=gS l m++[[]]:=by
 unfold gS at hp ⊢;by_cases e:l=[]
 ·simp [e]at hp
 ·rw[aH e,aH e,iM (h.resolve_left e)]
theorem wM (hp:(gS l m).length=0):gS l n=gS l m:=by
 unfold gS at hp ⊢;by_cases e:l=[]
 ·simp [e]
 ·rw[aH e]at hp;simp only[eY,aY]at hp;exact absurd (aR.1 dP) e
theorem rR (h:l=[]\/l.length=n) (hm:m<=40) (hn:n<=40:=by omega):(gS l m).length<=40:=by
 unfold gS;split
 ·simp
 ·rename_i jC
  have:=h.resolve_left jC;simp only[eY,aY,List.length_replicate];omega
theorem Mem.lit1 (M:Mem P w0 X w (.bk g e cs:: .ow d e cs::R)) (ht:P.underlying t=some (.slice e)) (hs:P.cellsOf e=cs.length):
 Mem P w0 X w (.ow (.sl [d]) t [.slice (some ⟨g,0,none⟩) 1 1]::R):=
 Mem.as (C:=[_,_]) (C':=[_]) M λF hF _=>by obtain⟨F1,_,rfl,⟨rfl,hb⟩,F2,_,rfl,h2,rfl⟩:=hF;refine iQ.2 ?_;show own P w (.sl [d]) t _ _;rw[own];refine⟨e,_,1,1,cs.length,[⟨cs,rfl⟩],F2,ht,hs,rfl,by decide,⟨rfl,by simp [Row.v],.inr ⟨g,1,cs.toArray,rfl,dj _,hb,af _,by decide,by simp,by simp [Row.v]⟩⟩,by simp [oz],?_⟩;rw[br,bL,iv];exact⟨F2,[],cs,[],by simp,rfl,h2,by rw[iv];exact⟨rfl,rfl⟩⟩
theorem Mem.open1 (M:Mem P w0 X w (.ow (.sl [d]) t [.slice (some ⟨g,0,none⟩) n c]::R)) (ht:P.underlying t=some (.slice e)):
 ∃cs post,Mem P w0 X w (.bk g e (cs++post):: .ow d e cs::R):=by
 obtain⟨F,h1,h2,h3⟩:=Mem.split [_] M;obtain⟨g',Fa,Fd,Fb,cs,pre,post,he,rfl,o1,o2,o3,-⟩:=ta (k:=0) ht (iQ.1 h1) rfl;injection he with he;injection he with he;subst he
 obtain rfl:pre=[]:=aR.1 (by simpa using o2);refine⟨cs,post,h3 w [_,_] (g::Fd) (fJ.2 ⟨[g],Fd,rfl,⟨rfl,o3⟩,iQ.2 o1⟩) ?_ (λx hx=> .inl wt) Mod.refl⟩;have q:=aQ.1 h2;simp only[aG,not_or]at q;exact aQ.2 ⟨q.1.2.1,(aE.1 (aE.1 q.2).2.1).1⟩
theorem Mem.setVecG {l:List Vec} {x y:Vec} {a0 a1 a2 a3 a4 a5 a6 a7:Value} (M:Mem prog w0 X w (.ow (.sl (l.map Vec.toD)) 36 [.slice (some ⟨g,0,none⟩) n c]:: .ow y.toD 38 [a0,a1,a2,a3,a4,a5,a6,a7]::R)) (hk:l[k]?=some x):
 (∃u,w.cell? ⟨g,k*8,none⟩=some u)/\(∀j,j<8->∃u,w.cell? ⟨g,k*8+j,none⟩=some u)/\(∀j,w.frozen? ⟨g,j,none⟩=false)/\g<w.heap.size/\
  Mem prog w0 X ((((((((w.setCell ⟨g,k*8,none⟩ a0).setCell ⟨g,k*8+1,none⟩ a1).setCell ⟨g,k*8+2,none⟩ a2).setCell ⟨g,k*8+3,none⟩ a3).setCell ⟨g,k*8+4,none⟩ a4).setCell ⟨g,k*8+5,none⟩ a5).setCell ⟨g,k*8+6,none⟩ a6).setCell ⟨g,k*8+7,none⟩ a7) (.ow (.sl ((l.set k y).map Vec.toD)) 36 [.slice (some ⟨g,0,none⟩) n c]::R):=by
 obtain⟨g',e,-,h2,h3,h4,h5⟩:=M.setVec hk;injection e with e;injection e with e;subst e
 exact⟨h2 0 dQ,h2,h3,h4,h5⟩
theorem Mem.focus (C:List As) (M:Mem P w0 X w (C++R)):∃F,Mem P w F w C/\∀(w':World) (C':List As),Mem P w F w' C'->Mem P w0 X w' (C'++R):=by obtain⟨F,h1,h2,h3⟩:=Mem.split C M;refine⟨F,⟨Mod.refl,F,h1,h2,λg hg=> .inl hg⟩,λw' C' hm=>?_⟩;obtain⟨k1,G,k2,k3,k4⟩:=hm;exact h3 w' C' G k2 k3 k4 k1
theorem JE (h1:1<=y) (h2:y<=40):nZ (l_ y)=true:=by unfold nZ l_;simp;omega
theorem DX (h1:1<=y) (h2:y<=40):isVec (nU [y])=true:=by
 have hi:=JE h1 h2;have hs:h_ (nU [y])=true:=by simp [h_,CO,IY,P6,wZ,SB,IZ,nU,lenV,mF,vE,atomK,itemOK,hi]
 unfold isVec;rw[show okD 3 (nU [y])=true by rw[okD,hs];rfl];simp [nU,jF,ik,lenV]
theorem Jh:bigV (nU [y]):=by unfold bigV;rw[go];simp [nU,szD,gv,l_,Item.toD]
theorem kV (h:rep w B (nU [y]).toD cs):∃(sb so c1:Nat) (A2:Option Addr) (c2:Nat) (A3:Option Addr) (c3:Nat) (A4:Option Addr) (c4:Nat) (A5:Option Addr) (c5:Nat),
 cs=[.int .i64 2,.slice (some ⟨sb,so,none⟩) 1 c1,.slice A2 0 c2,.slice A3 0 c3,.slice A4 0 c4,.slice A5 0 c5,.int .i64 0,.int .i64 0]/\sb<B/\w.cell? ⟨sb,so,none⟩=some (.int .i64 y)/\w.cell? ⟨sb,so+1,none⟩=some (.int .i64 1)/\w.cell? ⟨sb,so+2,none⟩=some (sv []):=by
 obtain⟨Ai,ci,Ap,cp,An,cn,Ac,cc,Al,cl,rfl,wk,ri,rp,rn,rc,rl,wc,we⟩:=d_ h;have ri:rep w B (.sl ([l_ y].map Item.toD)) [.slice Ai 1 ci]:=ri;obtain⟨b,o,x,rfl,hb,hx,-,e0,e1,e2⟩:=pK ri (k:=0) dQ;obtain rfl:l_ y=x:=oh;simp only[dx,cF]at e0 e1 e2;exact⟨b,o,ci,Ap,cp,An,cn,Ac,cc,Al,cl,rfl,hb,e0,e1,e2⟩
def jq (l:List Int) (p:Str) (w:World) (e:Ending) (w':World):Prop:=∃(A:Option Addr) (c:Nat) (F:List Nat),e= .returned (.tuple #[.slice A l.length c,sv p])/\own prog w' (.sl (l.map (D.i .i64))) 26 F [.slice A l.length c]/\Fresh w.heap.size F/\Below w.heap.size w w'
theorem Mem.newPos {e:Ending} {l:List Int} (M:Mem prog w0 X w R) (hn:jq l p w e w'):∃(A:Option Addr) (c:Nat),e= .returned (.tuple #[.slice A l.length c,sv p])/\Mem prog w0 X w' (.ow (.sl (l.map (D.i .i64))) 26 [.slice A l.length c]::R):=by obtain⟨A,c,F,rfl,ho,hf,hb⟩:=hn;exact⟨A,c,rfl,M.gain ho hf hb⟩
theorem Mem.retPos {l:List Int} {A:Option Addr} (h:Mem prog w0 [] w (.ow (.sl (l.map (D.i .i64))) 26 [.slice A l.length c]::R)):jq l p w0 (.returned (.tuple #[.slice A l.length c,sv p])) w:=by obtain⟨F,h1,h2,h3⟩:=h.fin;exact⟨A,c,F,rfl,h1,h2,h3⟩
section
variable {w0 w:World} {X:List Nat} {R:List As} {f:Nat} {args:Array Value} {Ψ:Ending->World->Prop} {v:Vec} {y:Value}
theorem Ik {α:Type} {g:α->D} {l:List α} {t:TypeId} (h:Calls prog f args w (oK (l.map g) t w)) (M:Mem prog w0 X w R) (hK:∀(x:Gh) w',Mem prog w0 X w' (.ow (.sl (l.map g)) t [.slice x.a l.length x.c]::R)->Ψ (.returned (.slice x.a l.length x.c)) w'):Calls prog f args w Ψ:=
 h.mono λe w' hn=>by obtain⟨A',c',rfl,M'⟩:=M.newMap hn;exact hK (Ov A' c') w' M'
theorem Xe (h:Calls prog f args w (gM v.toD 38 w)) (M:Mem prog w0 X w R) (hK:∀(x:Gh) w',Mem prog w0 X w' (.ow (.sl (v.items.map Item.toD)) 35 [.slice (x.A 1) v.items.length (x.C 1)]:: .ow (.sl (v.parts.map Vec.toD)) 36 [.slice (x.A 2) v.parts.length (x.C 2)]:: .ow (.sl (v.names.map .s)) 25 [.slice (x.A 3) v.names.length (x.C 3)]:: .ow (.sl (v.cls.map .s)) 25 [.slice (x.A 4) v.cls.length (x.C 4)]:: .ow (.sl (v.levels.map .s)) 25 [.slice (x.A 5) v.levels.length (x.C 5)]::R)->Ψ (.returned (.agg #[v.kind,.slice (x.A 1) v.items.length (x.C 1),.slice (x.A 2) v.parts.length (x.C 2),.slice (x.A 3) v.names.length (x.C 3),.slice (x.A 4) v.cls.length (x.C 4),.slice (x.A 5) v.levels.length (x.C 5),v.code,v.env])) w'):Calls prog f args w Ψ:=
 h.mono λe w' hn=>by obtain⟨Ai,ci,Ap,cp,An,cn,Ac,cc,Al,cl,rfl,M'⟩:=M.newVec hn;exact hK (Ow [(none,0),(Ai,ci),(Ap,cp),(An,cn),(Ac,cc),(Al,cl)]) w' M'
theorem qS (h:Calls prog f args w (eH v.toD 38 y w)) (M:Mem prog w0 X w R) (hK:∀(x:Gh) w',Mem prog w0 X w' (.ow (.sl (v.items.map Item.toD)) 35 [.slice (x.A 1) v.items.length (x.C 1)]:: .ow (.sl (v.parts.map Vec.toD)) 36 [.slice (x.A 2) v.parts.length (x.C 2)]:: .ow (.sl (v.names.map .s)) 25 [.slice (x.A 3) v.names.length (x.C 3)]:: .ow (.sl (v.cls.map .s)) 25 [.slice (x.A 4) v.cls.length (x.C 4)]:: .ow (.sl (v.levels.map .s)) 25 [.slice (x.A 5) v.levels.length (x.C 5)]::R)->Ψ (.returned (.tuple #[.agg #[v.kind,.slice (x.A 1) v.items.length (x.C 1),.slice (x.A 2) v.parts.length (x.C 2),.slice (x.A 3) v.names.length (x.C 3),.slice (x.A 4) v.cls.length (x.C 4),.slice (x.A 5) v.levels.length (x.C 5),v.code,v.env],y])) w'):Calls prog f args w Ψ:=
 h.mono λe w' hn=>by obtain⟨Ai,ci,Ap,cp,An,cn,Ac,cc,Al,cl,rfl,M'⟩:=M.newVecTwo hn;exact hK (Ow [(none,0),(Ai,ci),(Ap,cp),(An,cn),(Ac,cc),(Al,cl)]) w' M'
theorem tI (h:Calls prog f args w (gM v.toD 38 w)) (M:Mem prog w0 X w R) (hK:∀(x:Gh) w',Mem prog w0 X w' (.ow v.toD 38 [v.kind,.slice (x.A 1) v.items.length (x.C 1),.slice (x.A 2) v.parts.length (x.C 2),.slice (x.A 3) v.names.length (x.C 3),.slice (x.A 4) v.cls.length (x.C 4),.slice (x.A 5) v.levels.length (x.C 5),v.code,v.env]::R)->Ψ (.returned (.agg #[v.kind,.slice (x.A 1) v.items.length (x.C 1),.slice (x.A 2) v.parts.length (x.C 2),.slice (x.A 3) v.names.length (x.C 3),.slice (x.A 4) v.cls.length (x.C 4),.slice (x.A 5) v.levels.length (x.C 5),v.code,v.env])) w'):Calls prog f args w Ψ:=
 h.mono λe w' hn=>by obtain⟨cs,rfl,M'⟩:=M.newSt hn;obtain⟨Ai,ci,Ap,cp,An,cn,Ac,cc,Al,cl,rfl⟩:=M'.vecL;exact hK (Ow [(none,0),(Ai,ci),(Ap,cp),(An,cn),(Ac,cc),(Al,cl)]) w' M'
theorem AH (h:Calls prog f args w (eH v.toD 38 y w)) (M:Mem prog w0 X w R) (hK:∀(x:Gh) w',Mem prog w0 X w' (.ow v.toD 38 [v.kind,.slice (x.A 1) v.items.length (x.C 1),.slice (x.A 2) v.parts.length (x.C 2),.slice (x.A 3) v.names.length (x.C 3),.slice (x.A 4) v.cls.length (x.C 4),.slice (x.A 5) v.levels.length (x.C 5),v.code,v.env]::R)->Ψ (.returned (.tuple #[.agg #[v.kind,.slice (x.A 1) v.items.length (x.C 1),.slice (x.A 2) v.parts.length (x.C 2),.slice (x.A 3) v.names.length (x.C 3),.slice (x.A 4) v.cls.length (x.C 4),.slice (x.A 5) v.levels.length (x.C 5),v.code,v.env],y])) w'):Calls prog f args w Ψ:=
 h.mono λe w' hn=>by obtain⟨Ai,ci,Ap,cp,An,cn,Ac,cc,Al,cl,rfl,M'⟩:=M.newTwoL hn;exact hK (Ow [(none,0),(Ai,ci),(Ap,cp),(An,cn),(Ac,cc),(Al,cl)]) w' M'
theorem Mw {l:List Int} {p:Str} (h:Calls prog f args w (jq l p w)) (M:Mem prog w0 X w R) (hK:∀(x:Gh) w',Mem prog w0 X w' (.ow (.sl (l.map (.i .i64))) 26 [.slice x.a l.length x.c]::R)->Ψ (.returned (.tuple #[.slice x.a l.length x.c,sv p])) w'):Calls prog f args w Ψ:=
 h.mono λe w' hn=>by obtain⟨A',c',rfl,M'⟩:=M.newPos hn;exact hK (Ov A' c') w' M'
theorem Wt (h:Calls prog f args w λe w'=>∃(Ai:Option Addr) (ci:Nat) (Ap:Option Addr) (cp:Nat) (An:Option Addr) (cn:Nat) (Ac:Option Addr) (cc:Nat) (Al:Option Addr) (cl:Nat),e= .returned (.agg #[v.kind,.slice Ai v.items.length ci,.slice Ap v.parts.length cp,.slice An v.names.length cn,.slice Ac v.cls.length cc,.slice Al v.levels.length cl,v.code,v.env])/\Mem prog w0 X w' (.ow v.toD 38 [v.kind,.slice Ai v.items.length ci,.slice Ap v.parts.length cp,.slice An v.names.length cn,.slice Ac v.cls.length cc,.slice Al v.levels.length cl,v.code,v.env]::R)) (hK:∀(x:Gh) w',Mem prog w0 X w' (.ow v.toD 38 [v.kind,.slice (x.A 1) v.items.length (x.C 1),.slice (x.A 2) v.parts.length (x.C 2),.slice (x.A 3) v.names.length (x.C 3),.slice (x.A 4) v.cls.length (x.C 4),.slice (x.A 5) v.levels.length (x.C 5),v.code,v.env]::R)->Ψ (.returned (.agg #[v.kind,.slice (x.A 1) v.items.length (x.C 1),.slice (x.A 2) v.parts.length (x.C 2),.slice (x.A 3) v.names.length (x.C 3),.slice (x.A 4) v.cls.length (x.C 4),.slice (x.A 5) v.levels.length (x.C 5),v.code,v.env])) w'):Calls prog f args w Ψ:=
 h.mono λe w' hn=>by obtain⟨Ai,ci,Ap,cp,An,cn,Ac,cc,Al,cl,rfl,M'⟩:=hn;exact hK (Ow [(none,0),(Ai,ci),(Ap,cp),(An,cn),(Ac,cc),(Al,cl)]) w' M'
theorem Mv (h:Calls prog f args w λe w'=>∃(Ai:Option Addr) (ci:Nat) (Ap:Option Addr) (cp:Nat) (An:Option Addr) (cn:Nat) (Ac:Option Addr) (cc:Nat) (Al:Option Addr) (cl:Nat),e= .returned (.tuple #[.agg #[v.kind,.slice Ai v.items.length ci,.slice Ap v.parts.length cp,.slice An v.names.length cn,.slice Ac v.cls.length cc,.slice Al v.levels.length cl,v.code,v.env],y])/\Mem prog w0 X w' (.ow v.toD 38 [v.kind,.slice Ai v.items.length ci,.slice Ap v.parts.length cp,.slice An v.names.length cn,.slice Ac v.cls.length cc,.slice Al v.levels.length cl,v.code,v.env]::R)) (hK:∀(x:Gh) w',Mem prog w0 X w' (.ow v.toD 38 [v.kind,.slice (x.A 1) v.items.length (x.C 1),.slice (x.A 2) v.parts.length (x.C 2),.slice (x.A 3) v.names.length (x.C 3),.slice (x.A 4) v.cls.length (x.C 4),.slice (x.A 5) v.levels.length (x.C 5),v.code,v.env]::R)->Ψ (.returned (.tuple #[.agg #[v.kind,.slice (x.A 1) v.items.length (x.C 1),.slice (x.A 2) v.parts.length (x.C 2),.slice (x.A 3) v.names.length (x.C 3),.slice (x.A 4) v.cls.length (x.C 4),.slice (x.A 5) v.levels.length (x.C 5),v.code,v.env],y])) w'):Calls prog f args w Ψ:=
 h.mono λe w' hn=>by obtain⟨Ai,ci,Ap,cp,An,cn,Ac,cc,Al,cl,rfl,M'⟩:=hn;exact hK (Ow [(none,0),(Ai,ci),(Ap,cp),(An,cn),(Ac,cc),(Al,cl)]) w' M'
end
section
variable {P:Program} {w0 w:World} {X:List Nat} {R:List As} {t e:TypeId}
theorem zX:∀{a b:List D} {F:List Nat} {css:List (List Value)},iv P w (a++b) e F css↔∃F1 F2 c1 c2,F=F1++F2/\css=c1++c2/\iv P w a e F1 c1/\iv P w b e F2 c2
 |[],b,F,css=>by
  constructor
  ·intro h;exact⟨[],F,[],css,rfl,rfl,by rw[iv];exact⟨rfl,rfl⟩,h⟩
  ·rintro⟨F1,F2,c1,c2,rfl,rfl,h1,h2⟩;rw[iv]at h1;obtain⟨rfl,rfl⟩:=h1;exact h2
 |x::t,b,F,css=>by
  rw[cK,iv];constructor
  ·rintro⟨F1,F2,c1,c2,rfl,rfl,h1,h2⟩;obtain⟨G1,G2,d1,d2,rfl,rfl,h3,h4⟩:=zX.1 h2;exact⟨F1++G1,G2,c1::d1,d2,by simp,rfl,by rw[iv];exact⟨F1,G1,c1,d1,rfl,rfl,h1,h3⟩,h4⟩
  ·rintro⟨F1,F2,c1,c2,rfl,rfl,h1,h2⟩;rw[iv]at h1;obtain⟨G1,G2,d1,d2,rfl,rfl,h3,h4⟩:=h1;exact⟨G1,G2++F2,d1,d2++c2,by simp,rfl,h3,zX.2 ⟨G2,F2,d2,c2,rfl,rfl,h4,h2⟩⟩
theorem Mem.hole {g n c k s:Nat} {xs:List D} {d:D} (M:Mem P w0 X w (.ow (.sl xs) t [.slice (some ⟨g,0,none⟩) n c]::R)) (ht:P.underlying t=some (.slice e)) (hs:P.cellsOf e=s) (hk:xs[k]?=some d):
 ∃cs pre post ca cb,pre.length=k*s/\cs.length=s/\n=xs.length/\Mem P w0 X w (.bk g e (pre++(cs++post)):: .ow d e cs:: .oa (xs.take k) e ca:: .oa (xs.drop (k+1)) e cb::R)/\
  ∀(Y4 w':World) (X':List Nat) (R':List As) (d':D) (cs':List Value),cs'.length=s->Mem P Y4 X' w' (.bk g e (pre++(cs'++post)):: .ow d' e cs':: .oa (xs.take k) e ca:: .oa (xs.drop (k+1)) e cb::R')->
   Mem P Y4 X' w' (.ow (.sl (xs.set k d')) t [.slice (some ⟨g,0,none⟩) n c]::R'):=by
 have Ch:k<xs.length:=(ay.1 hk).1;have ex:∀d',xs.set k d'=xs.take k++(d'::xs.drop (k+1)):=λd'=>(List.set_eq_take_append_cons_drop ..).trans (by rw[aN Ch]);have ex0:xs=xs.take k++(d::xs.drop (k+1)):=by
  have h1:xs[k]=d:=by have:=aw Ch;rw[hk]at this;injection this with this;exact this.symm
  rw[<-h1,<-cR Ch,cA]
 obtain⟨F,hS,hF,h3⟩:=Mem.split [_] M;have h:=iQ.1 hS;change own P w (.sl xs) t F _ at h;rw[own]at h;obtain⟨e',A',n',c',s',fB,F2,h1,h2,h3',hm,h4,rfl,h6⟩:=h;obtain rfl:e=e':=by rw[ht]at h1;injection h1 with h1;injection h1
 obtain rfl:s=s':=hs.symm.trans h2;injection h3' with h3';injection h3' with e1 e2 e3;subst e1 e2 e3
 have gK:=zY h6;rw[au]at gK;have hn:=h4.1;rcases h4.2.2 with ⟨h0,h00⟩|⟨g',cap,pq,h0,hg,hh,hc,hmm,hz,hr⟩
 ·cases h0
 injection h0 with h0 _ h01;injection h0 with h0;injection h0 with h0;subst h0 h01;have WA:k<fB.length:=dP;have er:∀r',fB.set k r'=fB.take k++(r'::fB.drop (k+1)):=λr'=>(List.set_eq_take_append_cons_drop ..).trans (by rw[aN WA]);have er0:fB=fB.take k++(fB[k]::fB.drop (k+1)):=by rw[<-cR WA,cA]
 have h6':=h6;rw[ex0,er0,aI,br]at h6';obtain⟨Fa,Fz,ca,cz,rfl,ec,ha,hz6⟩:=zX.1 h6';rw[iv]at hz6;obtain⟨Fd,Fb,cd,cb,rfl,rfl,hd,hb⟩:=hz6;have hla:=zY ha;have hlk:(xs.take k).length=k:=sc;have hlr:((fB.take k).map Row.v).length=k:=by rw[au,de];omega
 obtain⟨rfl,ec2⟩:=List.append_inj ec dP;injection ec2 with ec2 ec3;subst ec2 ec3;have lp:((fB.take k).flatMap Row.v).length=k*s:=by rw[gN Row.len,de];congr 1;omega
 have adl:pq.toList=(fB.take k).flatMap Row.v++(fB[k].v++((fB.drop (k+1)).flatMap Row.v++pq.toList.drop (n*s))):=by
  have h9:=cA (n*s) pq.toList;have h10:fB.flatMap Row.v=(fB.take k).flatMap Row.v++(fB[k].v++(fB.drop (k+1)).flatMap Row.v):=by
   conv=>lhs;rw[er0]
   rw[cj,cB]
  rw[hr,h10]at h9;refine h9.symm.trans ?_;simp only[aS]
 refine⟨fB[k].v,(fB.take k).flatMap Row.v,(fB.drop (k+1)).flatMap Row.v++pq.toList.drop (n*s),(fB.take k).map Row.v,(fB.drop (k+1)).map Row.v,lp,Row.len _,by omega,?_,?_⟩
 ·have hB:Blk w g e ((fB.take k).flatMap Row.v++(fB[k].v++((fB.drop (k+1)).flatMap Row.v++pq.toList.drop (n*s)))):=by unfold Blk;rw[<-adl];exact hh
  have ZD:(g::(Fd++(Fa++(Fb++[])))).Perm (oz (some ⟨g,0,none⟩)++(Fa++(Fd++Fb))):=by simp only[oz,bP,List.singleton_append];refine List.Perm.cons _ ?_;rw[<-aS,<-aS];exact List.perm_append_comm.append_right _
  refine h3 w [_,_,_,_] (g::(Fd++(Fa++(Fb++[])))) (fJ.2 ⟨[g],_,rfl,⟨rfl,hB⟩,fJ.2 ⟨Fd,_,rfl,hd,fJ.2 ⟨Fa,_,rfl,ha,fJ.2 ⟨Fb,_,rfl,hb,rfl⟩⟩⟩⟩) ?_ (λx hx=> .inl (ZD.mem_iff.1 hx)) Mod.refl;exact ZD.nodup_iff.2 hF
 ·intro Y4 w' X' R' d' cs' JC M';have M2:=M'.perm (M:=_::_::_::_::R') ((List.Perm.swap _ _ _).cons _);refine Mem.as (C:=[_,_,_,_]) (C':=[_]) M2 λG hG _=>?_;obtain⟨G1,_,rfl,⟨rfl,hB⟩,G2,_,rfl,q2,G3,_,rfl,q3,G4,_,rfl,q4,rfl⟩:=hG;refine iQ.2 ?_;show own P w' (.sl (xs.set k d')) t _ _;rw[own];have e5:(fB.set k ⟨cs',JC⟩).map Row.v=(fB.take k).map Row.v++(cs'::(fB.drop (k+1)).map Row.v):=by rw[er,aI,br]
  have e6:(fB.set k ⟨cs',JC⟩).flatMap Row.v=(fB.take k).flatMap Row.v++(cs'++(fB.drop (k+1)).flatMap Row.v):=by rw[er,cj,cB]
  refine⟨e,_,n,c,s,fB.set k ⟨cs',JC⟩,G2++(G3++G4),ht,hs,rfl,hm,⟨by rw[da];exact hn,by rw[gN Row.len,da,hn],.inr ⟨g,c,((fB.take k).flatMap Row.v++(cs'++((fB.drop (k+1)).flatMap Row.v++pq.toList.drop (n*s)))).toArray,rfl,dj _,hB,hc,hmm,?_,?_⟩⟩,by simp [oz],?_⟩
  ·have h7:pq.toList.length=c*s:=by rw[Array.length_toList];exact hz
   rw[adl]at h7;have:fB[k].v.length=s:=Row.len _;simp only[List.size_toArray,aY]at h7 ⊢;omega
  ·exact GO
  ·rw[e5,ex];exact zX.2 ⟨G2,G3++G4,_,_,rfl,rfl,q2,by rw[iv];exact⟨G3,G4,cs',_,rfl,rfl,q3,q4⟩⟩
end
section
variable {P:Program} {w0 w:World} {X:List Nat} {R:List As} {t:TypeId} {g:Nat} {d:D} {cs:List Value}
theorem Mem.bxOpen (M:Mem P w0 X w (.bx g d t::R)):∃cs,Mem P w0 X w (.bk g t cs:: .ow d t cs::R):=by obtain⟨hm,FF,s1,s2,s3⟩:=M;obtain⟨G,Fr,rfl,⟨cs,F',rfl,hB,ho⟩,hr⟩:=s1;exact⟨cs,hm,_,⟨[g],_,rfl,⟨rfl,hB⟩,F',Fr,rfl,ho,hr⟩,s2,s3⟩
theorem Mem.bxShut (M:Mem P w0 X w (.bk g t cs:: .ow d t cs::R)):Mem P w0 X w (.bx g d t::R):=by obtain⟨hm,FF,s1,s2,s3⟩:=M;obtain⟨_,_,rfl,⟨rfl,hB⟩,F',Fr,rfl,ho,hr⟩:=s1;exact⟨hm,_,⟨g::F',Fr,rfl,⟨cs,F',rfl,hB,ho⟩,hr⟩,s2,s3⟩
theorem Blk.seg {m j:Nat} {pre post:List Value} {v:Value} (q:Blk w g t (pre++(cs++post))) (hp:pre.length=m) (hj:cs[j]?=some v):w.cell? ⟨g,m+j,none⟩=some v:=by refine(q.cell (m+j)).trans ?_;subst hp;rw[cV dP,Nat.add_sub_cancel_left,cY (ay.1 hj).1,hj]
theorem Mem.putSeg {m j:Nat} {pre post:List Value} {u:Value} (M:Mem P w0 X w (.bk g t (pre++(cs++post))::R)) (hp:pre.length=m) (hj:j<cs.length):Mem P w0 X (w.setCell ⟨g,m+j,none⟩ u) (.bk g t (pre++(cs.set j u++post))::R):=by
 have M2:=M.put (m+j) u;subst hp
 rwa [dI _ _ dP,Nat.add_sub_cancel_left,List.set_append_left _ _ hj]at M2
end
section
variable {w0 w:World} {X:List Nat} {R:List As}
theorem Mem.heapCall {f:Nat} {args:Array Value} {Ψ:Ending->World->Prop} {v:Value} {h h':Hp} {g:Nat} (M:Mem prog w0 X w (.bx g h.toD 28::R))
 (hc:∀F,HB w g h F->(∀y∈g::F,y∈X\/w0.heap.size<=y)->Calls prog f args w λe w'=>e= .returned v/\∃F',HB w' g h' F'/\Sub w.heap.size F F'/\Mod (g::F) w w')
 (hK:∀w',Mem prog w0 X w' (.bx g h'.toD 28::R)->Ψ (.returned v) w'):Calls prog f args w Ψ:=by
 obtain⟨hm,FF,s1,s2,s3⟩:=M;obtain⟨G,Fr,rfl,⟨cs,F,rfl,kB,o⟩,hr⟩:=s1;have q:=aE.1 s2;refine(hc F ⟨cs,kB,o,q.1⟩ (λy hy=>s3 y (aG.2 (.inl hy)))).mono ?_;rintro e w' ⟨rfl,F',⟨cs',IG,o',nd'⟩,hS,hM⟩;refine hK w' ⟨hm.trans hM (λx hx=>s3 x (aG.2 (.inl hx))),(g::F')++Fr,⟨g::F',Fr,rfl,⟨cs',F',rfl,IG,o'⟩,th hr λx hx=>hM.2.2 x (wY hr x hx) λhc=>q.2.2 x hc x hx rfl⟩,?_,?_⟩
 ·exact aE.2 ⟨nd',q.2.1,λa ha b hb e=>by
   subst e;rcases kj hS a ha with h1|h1
   ·exact q.2.2 a h1 a hb rfl
   ·have:=wY hr a hb;omega⟩
 ·intro x hx;rcases aG.1 hx with hx|hx
  ·rcases kj hS x hx with h1|h1
   ·exact s3 x (aG.2 (.inl h1))
   ·right;have:=hm.size;omega
  ·exact s3 x (aG.2 (.inr hx))
theorem Mem.openHeap {h:Hp} {cs:List Value} (M:Mem prog w0 X w (.ow h.toD 28 cs::R)):∃(Ac:Option Addr) (cc:Nat) (An:Option Addr) (cn:Nat) (As:Option Addr) (ck:Nat),cs=[.slice Ac h.cells.length cc,.slice An h.names.length cn,.slice As h.slots.length ck,.int .i64 h.copies]/\(Lit.int .i64 h.copies).wf=true/\
 Mem prog w0 X w (.ow (.sl (h.cells.map Cel.toD)) 24 [.slice Ac h.cells.length cc]:: .ow (.sl (h.names.map .s)) 25 [.slice An h.names.length cn]:: .ow (.sl (h.slots.map (.i .i64))) 26 [.slice As h.slots.length ck]::R):=by
 obtain⟨F,h1,h2,h3⟩:=Mem.split [_] M;obtain⟨A1,n1,c1,A2,n2,c2,A3,n3,c3,F1,F2,F3,rfl,rfl,o1,o2,o3⟩:=tC (iQ.1 h1);obtain⟨_,_,_,_,_,_,_,_,_,_,_,_,_,wf⟩:=iP (eW _ _ _ _ (iQ.1 h1));have l1:=(ef (eW _ _ _ _ o1)).1;have l2:=(ef (eW _ _ _ _ o2)).1;have l3:=(ef (eW _ _ _ _ o3)).1;rw[au]at l1 l2 l3;subst l1 l2 l3;exact⟨A1,c1,A2,c2,A3,c3,rfl,wf,h3 w [_,_,_] _ ⟨F1,_,rfl,o1,F2,_,rfl,o2,F3,_,rfl,o3,rfl⟩ h2 (λg hg=> .inl hg) Mod.refl⟩
theorem Mem.openVecL {v:Vec} {Ai:Option Addr} {ni ci:Nat} {Ap:Option Addr} {np cp:Nat} {An:Option Addr} {nn cn:Nat} {Ac:Option Addr} {nc cc:Nat} {Al:Option Addr} {nl cl:Nat} {k co en:Value} (M:Mem prog w0 X w (.ow v.toD 38 [k,.slice Ai ni ci,.slice Ap np cp,.slice An nn cn,.slice Ac nc cc,.slice Al nl cl,co,en]::R)):
 Mem prog w0 X w (.ow (.sl (v.items.map Item.toD)) 35 [.slice Ai ni ci]:: .ow (.sl (v.parts.map Vec.toD)) 36 [.slice Ap np cp]:: .ow (.sl (v.names.map .s)) 25 [.slice An nn cn]:: .ow (.sl (v.cls.map .s)) 25 [.slice Ac nc cc]:: .ow (.sl (v.levels.map .s)) 25 [.slice Al nl cl]::R):=by
 obtain⟨_,_,_,_,_,_,_,_,_,_,_,_,_,_,_,he,M'⟩:=M.openVec;simp only[bF,bG,cO]at he;obtain⟨-,⟨rfl,rfl,rfl⟩,⟨rfl,rfl,rfl⟩,⟨rfl,rfl,rfl⟩,⟨rfl,rfl,rfl⟩,⟨rfl,rfl,rfl⟩,-⟩:=he;exact M'
theorem Mem.openCell {x:Cel} {cs:List Value} (M:Mem prog w0 X w (.ow x.toD 43 cs::R)):∃(cv:List Value) (Aq:Option Addr) (cq:Nat),cs= .int .i64 x.count::(cv++[.slice Aq x.parts.length cq])/\(Lit.int .i64 x.count).wf=true/\
 Mem prog w0 X w (.ow x.value.toD 38 cv:: .ow (.sl (x.parts.map (.i .i64))) 26 [.slice Aq x.parts.length cq]::R):=by
 obtain⟨F,h1,h2,h3⟩:=Mem.split [_] M;obtain⟨A1,n1,c1,A2,n2,c2,A3,n3,c3,A4,n4,c4,A5,n5,c5,Aq,nq,cq,F1,F2,F3,F4,F5,Fp,rfl,rfl,o1,o2,o3,o4,o5,op⟩:=jp (iQ.1 h1);obtain⟨_,_,_,_,_,_,_,_,_,_,_,_,_,_,_,_,_,_,-,wf,rv,-⟩:=i8 (eW _ _ _ _ (iQ.1 h1));obtain⟨_,_,_,_,_,_,_,_,_,_,-,wk,-,-,-,-,-,wc,we⟩:=d_ rv;have l1:=(ef (eW _ _ _ _ op)).1;rw[au]at l1;subst l1;exact⟨_,Aq,cq,rfl,wf,h3 w [_,_] _ ⟨_,_,rfl,jD wk o1 o2 o3 o4 o5 wc we,Fp,_,rfl,op,rfl⟩ h2 (λg hg=> .inl hg) Mod.refl⟩
theorem Mem.cellOut {g n c k:Nat} {l:List Cel} {x:Cel} (M:Mem prog w0 X w (.ow (.sl (l.map Cel.toD)) 24 [.slice (some ⟨g,0,none⟩) n c]::R)) (hk:l[k]?=some x):
 ∃(Ai:Option Addr) (ci:Nat) (Ap:Option Addr) (cp:Nat) (An:Option Addr) (cn:Nat) (Ac:Option Addr) (cc:Nat) (Al:Option Addr) (cl:Nat) (Aq:Option Addr) (cq:Nat) (pre post:List Value) (ca cb:List (List Value)),pre.length=k*10/\n=l.length/\(Lit.int .i64 x.count).wf=true/\(Lit.int .i64 x.value.kind).wf=true/\(Lit.int .i64 x.value.code).wf=true/\(Lit.int .i64 x.value.env).wf=true/\
  Mem prog w0 X w (.bk g 43 (pre++([.int .i64 x.count,.int .i64 x.value.kind,.slice Ai x.value.items.length ci,.slice Ap x.value.parts.length cp,.slice An x.value.names.length cn,.slice Ac x.value.cls.length cc,.slice Al x.value.levels.length cl,.int .i64 x.value.code,.int .i64 x.value.env,.slice Aq x.parts.length cq]++post)):: .ow (.sl (x.value.items.map Item.toD)) 35 [.slice Ai x.value.items.length ci]:: .ow (.sl (x.value.parts.map Vec.toD)) 36 [.slice Ap x.value.parts.length cp]:: .ow (.sl (x.value.names.map .s)) 25 [.slice An x.value.names.length cn]:: .ow (.sl (x.value.cls.map .s)) 25 [.slice Ac x.value.cls.length cc]:: .ow (.sl (x.value.levels.map .s)) 25 [.slice Al x.value.levels.length cl]:: .ow (.sl (x.parts.map (.i .i64))) 26 [.slice Aq x.parts.length cq]:: .oa ((l.map Cel.toD).take k) 43 ca:: .oa ((l.map Cel.toD).drop (k+1)) 43 cb::R)/\
  ∀(Y4 w':World) (X':List Nat) (R':List As) (y:Cel) (Ai:Option Addr) (ni ci:Nat) (Ap:Option Addr) (np cp:Nat) (An:Option Addr) (nn cn:Nat) (Ac:Option Addr) (nc cc:Nat) (Al:Option Addr) (nl cl:Nat) (Aq:Option Addr) (nq cq:Nat),(Lit.int .i64 y.count).wf=true->(Lit.int .i64 y.value.kind).wf=true->(Lit.int .i64 y.value.code).wf=true->(Lit.int .i64 y.value.env).wf=true->
   Mem prog Y4 X' w' (.bk g 43 (pre++([.int .i64 y.count,.int .i64 y.value.kind,.slice Ai ni ci,.slice Ap np cp,.slice An nn cn,.slice Ac nc cc,.slice Al nl cl,.int .i64 y.value.code,.int .i64 y.value.env,.slice Aq nq cq]++post)):: .ow (.sl (y.value.items.map Item.toD)) 35 [.slice Ai ni ci]:: .ow (.sl (y.value.parts.map Vec.toD)) 36 [.slice Ap np cp]:: .ow (.sl (y.value.names.map .s)) 25 [.slice An nn cn]:: .ow (.sl (y.value.cls.map .s)) 25 [.slice Ac nc cc]:: .ow (.sl (y.value.levels.map .s)) 25 [.slice Al nl cl]:: .ow (.sl (y.parts.map (.i .i64))) 26 [.slice Aq nq cq]:: .oa ((l.map Cel.toD).take k) 43 ca:: .oa ((l.map Cel.toD).drop (k+1)) 43 cb::R')->
   Mem prog Y4 X' w' (.ow (.sl ((l.set k y).map Cel.toD)) 24 [.slice (some ⟨g,0,none⟩) n c]::R'):=by
 obtain⟨cs,pre,post,ca,cb,h1,h2,h3,M1,h4⟩:=M.hole underlying24 (s:=10) dU (show (l.map Cel.toD)[k]?=some x.toD by rw[cg,hk];rfl);have M2:=M1.pull 1 rfl;obtain⟨cv,Aq,cq,rfl,wf1,M3⟩:=M2.openCell;obtain⟨Ai,ci,Ap,cp,An,cn,Ac,cc,Al,cl,rfl,wk,-,-,-,-,-,wc,we⟩:=d_ (M3.rp 0 rfl);have M4:=M3.openVecL;refine⟨Ai,ci,Ap,cp,An,cn,Ac,cc,Al,cl,Aq,cq,pre,post,ca,cb,h1,by rw[h3,au],wf1,wk,wc,we,M4.pull 6 rfl,?_⟩;intro Y4 w' X' R' y Ai ni ci Ap np cp An nn cn Ac nc cc Al nl cl Aq nq cq q1 q2 q3 q4 M';have e:(l.set k y).map Cel.toD=(l.map Cel.toD).set k y.toD:=by rw[dH]
 rw[e];refine h4 Y4 w' X' R' y.toD ([y.count,y.value.kind,.slice Ai ni ci,.slice Ap np cp,.slice An nn cn,.slice Ac nc cc,.slice Al nl cl,y.value.code,y.value.env,.slice Aq nq cq]) rfl ?_;have M5:Mem prog Y4 X' w' (.ow (.sl (y.value.items.map Item.toD)) 35 [.slice Ai ni ci]:: .ow (.sl (y.value.parts.map Vec.toD)) 36 [.slice Ap np cp]:: .ow (.sl (y.value.names.map .s)) 25 [.slice An nn cn]:: .ow (.sl (y.value.cls.map .s)) 25 [.slice Ac nc cc]:: .ow (.sl (y.value.levels.map .s)) 25 [.slice Al nl cl]:: .ow (.sl (y.parts.map (.i .i64))) 26 [.slice Aq nq cq]:: .bk g 43 (pre++([.int .i64 y.count,.int .i64 y.value.kind,.slice Ai ni ci,.slice Ap np cp,.slice An nn cn,.slice Ac nc cc,.slice Al nl cl,.int .i64 y.value.code,.int .i64 y.value.env,.slice Aq nq cq]++post)):: .oa ((l.map Cel.toD).take k) 43 ca:: .oa ((l.map Cel.toD).drop (k+1)) 43 cb::R'):=M'.perm (by refine List.Perm.trans (List.perm_middle (l₁:=[_,_,_,_,_,_])).symm ?_;exact List.Perm.refl _)
 have M6:=(M5.joinVec q2 q3 q4).joinCell (x:=y) q1;exact M6.pull 1 rfl
end
section
variable {P:Program} {ops:Array Oper} {Q:Exit->Act->World->Prop} {o:Oper} {rest:List Oper} {D0:List Deferred} {T T':Array Value} {w w' w0:World} {X:List Nat} {L L':List As} {g:Nat} {t e:TypeId} {cs cs':List Value}
def AD (w:World) (g m:Nat):Nat->List Value->Prop
 |_,[]=>True
 |k,v::t=>w.cell? ⟨g,m+k,none⟩=some v/\AD w g m (k+1) t
theorem Jk {w:World} {g m:Nat} {t:TypeId} {pre cs post:List Value} (h:Blk w g t (pre++(cs++post))) (hp:pre.length=m):∀(l:List Value) (k:Nat),(∀i,i<l.length->l[i]?=cs[k+i]?)->AD w g m k l
 |[],_,_=>bO
 |v::l,k,hl=>⟨h.seg hp (by rw[<-cF k,<-hl 0 dR];rfl),Jk h hp l (k+1) λi hi=>by have:=hl (i+1) dS;rw[ag]at this;rw[this];congr 1;omega⟩
theorem Blk.mid {w:World} {g m:Nat} {t:TypeId} {pre cs post:List Value} (h:Blk w g t (pre++(cs++post))) (hp:pre.length=m):AD w g m 0 cs:=Jk h hp cs 0 λi _=>by rw[bI]
inductive PutsM (g m:Nat) (w:World) (cs:List Value):World->List Value->Prop
 |nil:PutsM g m w cs w cs
 |zero {w1:World} {cs1:List Value} {u:Value}:PutsM g m w cs w1 cs1->0<cs1.length->PutsM g m w cs (w1.setCell ⟨g,m,none⟩ u) (cs1.set 0 u)
 |cons {w1:World} {cs1:List Value} {k:Nat} {u:Value}:PutsM g m w cs w1 cs1->k<cs1.length->PutsM g m w cs (w1.setCell ⟨g,m+k,none⟩ u) (cs1.set k u)
 |two {w1:World} {cs1:List Value} {a b:Nat} {u:Value}:PutsM g m w cs w1 cs1->a+b<cs1.length->PutsM g m w cs (w1.setCell ⟨g,m+a+b,none⟩ u) (cs1.set (a+b) u)
theorem Mem.putsM {X:List Nat} {R:List As} {t:TypeId} {g m:Nat} {w w':World} {cs cs' pre post:List Value} (hp:PutsM g m w cs w' cs') (iZ:pre.length=m) (M:Mem P w0 X w (.bk g t (pre++(cs++post))::R)):Mem P w0 X w' (.bk g t (pre++(cs'++post))::R):=by
 induction hp with
 |nil=>exact M
 |@zero w1 cs1 u _ hl ih=>have:=Mem.putSeg (j:=0) (u:=u) ih iZ hl;simpa using this
 |cons _ hl ih=>exact Mem.putSeg ih iZ hl
 |two _ hl ih=>rw[Nat.add_assoc];exact Mem.putSeg ih iZ hl
theorem Sh {p:Prop} (hp:p) (M:Mem P w0 X w L) (rs:List Nat) (n:Nat) {os:List Oper} (h:WL P ops Q rest ⟨T',D0⟩ w) (h0:∀(K:Act->World->Prop) (Z:Exit->Act->World->Prop),p->xm w L rs->K ⟨T',D0⟩ w->BN P ops K Z (os.take n) ⟨T,D0⟩ w:=by intro K Z hq hc hK;(simp only[xm,ju,AD,cF,ag,ah,Nat.reduceAdd,and_assoc]at hq hc);(try simp only[cG,cL]);(repeat (refine Qu ?_;go_simp;(try(rw[FM];rotate_left;omega))));exact Kt hK) (hd:os.drop n=rest:=by(simp only[dN,Hc])<;>with_reducible rfl):WL P ops Q os ⟨T,D0⟩ w:=Cu n os _ _ (h0 _ _ hp (M.facts rs) (by rw[hd];exact h))
theorem Sm {pre post:List Value} {m:Nat} (M:Mem P w0 X w (.bk g t (pre++(cs++post))::L)) (iZ:pre.length=m) (h:∀w',Mem P w0 X w' (.bk g t (pre++(cs'++post))::L)->WL P ops Q rest ⟨T',D0⟩ w')
 (h0:∀(K:Act->World->Prop) (Z:Exit->Act->World->Prop),AD w g m 0 cs->(∀i,w.frozen? ⟨g,i,none⟩=false)->g<w.heap.size->K ⟨T',D0⟩ w'->if Region.wanted o (yielded ops T)=true then Oper.wp P o ⟨T,D0⟩ w K Z else K ((Act.mk T D0).put o.dst undef) w:=by intro K Z hc hf hg hK;simp only[AD,Nat.reduceAdd,cF]at hc;go_simp;exact hK)
 {cs1:List Value} (hp:PutsM g m w cs w' cs1:=by(repeat'(first|with_reducible exact PutsM.nil|(with_reducible apply PutsM.cons)|(with_reducible apply PutsM.zero)|(with_reducible apply PutsM.two)))<;>simp) (hL:cs1=cs':=by(simp only[a_,be,Nat.reduceAdd])<;>with_reducible rfl):WL P ops Q (o::rest) ⟨T,D0⟩ w:=
 oL λK hK=>h0 K Q ((M.bl 0 rfl).mid iZ) (M.bl 0 rfl).frozen (M.bl 0 rfl).lt (hK _ _ (h _ (by rw[<-hL];exact Mem.putsM hp iZ M)))
end
def apL:List As->List As->List As
 |[],r=>r
 |x::t,r=>x::apL t r
theorem Ij {ops:Array Oper} {Q:Exit->Act->World->Prop} {o:Oper} {rest:List Oper} {D0:List Deferred} {T:Array Value} {L:List As} (M:Mem P w0 X w L) (n:Nat) (V:Gh->Value) (N:Gh->List As) {T1:Gh->Array Value} {L2:Gh->List As}
 (h0:∀(K:Act->World->Prop) (Z:Exit->Act->World->Prop),(∀x w',Mem P w0 X w' (apL (N x) (L.drop n))->K ((Act.mk T D0).put o.dst (V x)) w')->if Region.wanted o (yielded ops T)=true then Oper.wp P o ⟨T,D0⟩ w K Z else K ((Act.mk T D0).put o.dst undef) w)
 (h:∀x w',Mem P w0 X w' (L2 x)->WL P ops Q rest ⟨T1 x,D0⟩ w')
 (hT:∀x,(Act.mk T D0).put o.dst (V x)=⟨T1 x,D0⟩:=by intro x;(simp only[Act.put,bh,a_,be])<;>with_reducible rfl) (hL:∀x,apL (N x) (L.drop n)=L2 x:=by intro x;(simp only[dN,Hc,apL])<;>with_reducible rfl):WL P ops Q (o::rest) ⟨T,D0⟩ w:=
 oL λK hK=>h0 K Q λx w' M'=>hK _ _ (by rw[hT];exact h x w' (by rw[<-hL];exact M'))
theorem vY (l:List Int) (jb:∀y∈l,1<=y/\y<=40) (A:Option Addr) (n c:Nat) (w:World) (h:rep w w.heap.size (.sl (l.map (D.i .i64))) [.slice A n c]) (hn:(n:Int)<=40):Calls prog 54 #[.slice A n c] w (gM (nU l).toD 38 w):=by
 obtain⟨A',n',c',he,Nh,hnm,hr,-⟩:=(qy _ _ _ _).1 h;injection he with he;injection he with f1 f2 f3;subst f1 f2 f3
 have HL:=aa hr.len;have HA:=aa jb;clear jb;have O6:Below w.heap.size w ((w.alloc (.cells #[.int .i64 0,(),(),(),(),(),.int .i64 0,.int .i64 0] 38)).alloc (.cells #[.int .i64 2,(),(),(),(),(),.int .i64 0,.int .i64 0] 38)):=((Below.refl _ _).alloc (af _) _).alloc dR _;have kR0:Blk ((w.alloc (.cells #[.int .i64 0,(),(),(),(),(),.int .i64 0,.int .i64 0] 38)).alloc (.cells #[.int .i64 2,(),(),(),(),(),.int .i64 0,.int .i64 0] 38)) w.heap.size 38 [.int .i64 0,(),(),(),(),(),.int .i64 0,.int .i64 0]:=(Blk.new' (l:=[.int .i64 0,.slice none 0 0,.slice none 0 0,.slice none 0 0,.slice none 0 0,.slice none 0 0,.int .i64 0,.int .i64 0])).al;have k30:Blk ((w.alloc (.cells #[.int .i64 0,(),(),(),(),(),.int .i64 0,.int .i64 0] 38)).alloc (.cells #[.int .i64 2,(),(),(),(),(),.int .i64 0,.int .i64 0] 38)) (w.heap.size+1) 38 [.int .i64 2,(),(),(),(),(),.int .i64 0,.int .i64 0]:=Gs;go_enter func54,ntmps54;go_wp2_with fail;obtain⟨W,hW⟩:∃W,W=((w.alloc (.cells #[.int .i64 0,(),(),(),(),(),.int .i64 0,.int .i64 0] 38)).alloc (.cells #[.int .i64 2,(),(),(),(),(),.int .i64 0,.int .i64 0] 38)):=⟨_,rfl⟩;rw[<-hW]at O6 kR0 k30 ⊢;clear hW;go_loopw [4] (λi wr=>∃(j:Nat) (Aq:Option Addr) (cq:Nat) (Fq:List Nat),j<=n/\i= .int .i64 j/\Blk wr w.heap.size 38 [.int .i64 0,(),(),(),(),(),.int .i64 0,.int .i64 0]/\Blk wr (w.heap.size+1) 38 [.int .i64 2,.slice Aq j cq,(),(),(),(),.int .i64 0,.int .i64 0]/\own prog wr (.sl (((l.take j).map l_).map Item.toD)) 35 Fq [.slice Aq j cq]/\Fresh (w.heap.size+1+1) Fq/\Below w.heap.size w wr) (λi _=>n - (intOf i).toNat)
 case atStart=>exact⟨0,none,0,[],by omega,rfl,kR0,k30,kY underlying35,Fresh.nil,O6⟩
 case round=>
  clear kR0 k30 O6;obtain⟨j,Aq,cq,Fq,hj,rfl,kR,k3,oq,qL,bel⟩:=hrel;have hwr:w.heap.size+1<wr.heap.size:=k3.lt;by_cases hlj:j<n
  ·obtain⟨b,off,y,rfl,gD,hy,R9⟩:=hr.atI hlj;obtain⟨WF,Ya⟩:=HA.out y (aA hy);have HX:=aa hy;have hcy:=(bel.cell (p:=⟨b,off+j,none⟩) gD).trans R9;have j0:(0:Int)<=(j:Int):=dP;have j1:(j:Int)<(n:Int):=dP;clear hy;go_wp2_with fail;refine bu ?_;refine aW (S:=λV=>V.cell? ⟨b,off+j,none⟩=some (.int .i64 y)) dU hcy (λhH=>?_);replace kR:=kR.dw;replace k3:=k3.dw;replace oq:=gX oq;replace bel:=bel.drew;have abE:w.heap.size+1<wr.drew.heap.size:=hwr;have XH:wr.drew.cell? ⟨b,off+j,none⟩=some (.int .i64 y):=hcy;have SX:=(show wr.drew.cell? ⟨b,off+j,none⟩=some (.int .i64 y) from XH);generalize wr.drew=v0 at kR k3 oq bel abE XH SX ⊢;have cv0:=k3.cell 1;simp only[ah,ag]at cv0;refine ey 0 ?_;refine ey 2 ?_;refine ey 3 ?_;refine ey 4 ?_;refine ey 5 ?_;refine dG (rs:=[1,6]) dU dR (λi hi=>?_);simp only[aX,df,ce]at hi;rcases hi with rfl|rfl;all_goals refine dD gO (λK hK=>?_)
   ·go_simp;refine hK _ _ ⟨SX,?_⟩;refine iW ?_;refine fZ 6 ?_;intro K hK;go_simp;go_at_call 126;refine(xD y WF Ya _).mono ?_;rintro e w3 ⟨rfl,lE⟩;have z3:=lE.size;have Yf:=kR.next lE;have CC:=k3.next lE;have ZY:=em oq lE;have x4:Below w3.heap.size w3 (w3.alloc (.cells #[.int .i64 y,.int .i64 1,sv []] 135)):=(Below.refl _ _).alloc (af _) _;have kn4:Blk (w3.alloc (.cells #[.int .i64 y,.int .i64 1,sv []] 135)) w3.heap.size 135 [.int .i64 y,.int .i64 1,sv []]:=Blk.new' (l:=[.int .i64 y,.int .i64 1,sv []]);have Jm:=CC.cell 1;simp only[ah,ag]at Jm;have Jn:=(CC.next x4).cell 1;simp only[ah,ag]at Jn;have XG:=(bel.trans (lE.mono bel.size)).cell (p:=⟨b,off+j,none⟩) gD |>.trans R9
    have Uq:=(bel.trans ((ij lE x4).mono bel.size)).cell (p:=⟨b,off+j,none⟩) gD |>.trans R9
    have KG:=ij bel lE;refine hK _ _ ⟨XG,?_⟩;refine iW ?_;refine fZ 7 ?_;intro K hK;go_simp;refine hK _ _ ⟨Uq,?_⟩;refine iW ?_;refine fZ 8 ?_;intro K hK;refine gL (A:=Aq) (n:=j) (c:=cq) (b:=w3.heap.size) (m:=1) (xs:=((l.take j).map l_).map Item.toD) (F:=Fq) (d:=(l_ y).toD) (F':=[]) (te:=135) (cs:=[.int .i64 y,.int .i64 1,sv []]) kM ?_ ?_ (.tmp 18) (.tmp 24) ?_ ?_ ?_ ?_ ?_ ?_ ?_ ?_ ?_ ?_ ?_
    ·kernel_rfl
    ·rfl
    ·rfl
    ·rfl
    ·exact lz
    ·rfl
    ·exact kn4
    ·exact pI
    ·rfl
    ·exact lw
    ·exact g8
    ·omega
    intro gg gc w5 F5 o5 ap5 md5;simp only[dT]at ap5;have U8:=Blk.mod (g:=w.heap.size) (Yf.next x4) md5 (qL.notin dP);have vB:=Blk.mod (g:=w.heap.size+1) (CC.next x4) md5 (qL.notin dP);have z5:=md5.size;simp only[dT]at z5;have uW:=jN (ij KG x4) md5 (λy hy=>by have:=qL.2 y hy;omega) eA;have pU:=vB.cell 1;simp only[ah,ag]at pU;have Zr:=vB.frozen 1;have UL:w.heap.size+1<w5.heap.size:=vB.lt;have M7:=uW.cell (p:=⟨b,off+j,none⟩) gD |>.trans R9
    refine hK _ _ ⟨M7,?_⟩;refine iW ?_;have SX2:=(show _ from M7);refine ey 9 ?_;refine fZ 10 ?_;intro K hK;go_simp;have Ur:=(uW.setCell (p:=⟨w.heap.size+1,1,none⟩) kt (.slice (some ⟨gg,0,none⟩) (j+1) gc)).cell (p:=⟨b,off+j,none⟩) gD |>.trans R9
    refine hK _ _ ⟨Ur,?_⟩;refine iW ?_;refine bv dU ?_ _;refine ba ?_;clear Jm Jn pU;go_wp2_with fail;go_roundw
    case rel=>
     have Tt:∀y∈F5,y∈Fq\/w.heap.size+1+1<=y:=λy hy=>pF;have MU:∀y∈F5,w.heap.size+1+1<=y:=λy hy=>pG;refine⟨j+1,some ⟨gg,0,none⟩,gc,F5,by omega,by go_num,Blk.pk (p:=⟨w.heap.size+1,1,none⟩) iT U8,vB.set_ 1 _,?_,⟨ap5.1,MU⟩,uW.setCell kt _⟩;rw[eJ HX.out,aI,aI];exact ft o5 (λhm=>by have:=MU _ hm;simp at this;omega)
    case measure=>simp [intOf];omega
   ·
    go_simp;go_at_call 126;refine(xD y WF Ya _).mono ?_;rintro e w3 ⟨rfl,lE⟩;have z3:=lE.size;have Yf:=kR.next lE;have CC:=k3.next lE;have ZY:=em oq lE;have x4:Below w3.heap.size w3 (w3.alloc (.cells #[.int .i64 y,.int .i64 1,sv []] 135)):=(Below.refl _ _).alloc (af _) _;have kn4:Blk (w3.alloc (.cells #[.int .i64 y,.int .i64 1,sv []] 135)) w3.heap.size 135 [.int .i64 y,.int .i64 1,sv []]:=Blk.new' (l:=[.int .i64 y,.int .i64 1,sv []]);have Jm:=CC.cell 1;simp only[ah,ag]at Jm;have Jn:=(CC.next x4).cell 1;simp only[ah,ag]at Jn;have XG:=(bel.trans (lE.mono bel.size)).cell (p:=⟨b,off+j,none⟩) gD |>.trans R9
    have Uq:=(bel.trans ((ij lE x4).mono bel.size)).cell (p:=⟨b,off+j,none⟩) gD |>.trans R9
    have KG:=ij bel lE;refine hK _ _ ⟨XG,?_⟩;refine iW ?_;refine dG (rs:=[1,7]) dU dR (λi hi=>?_);simp only[aX,df,ce]at hi;rcases hi with rfl|rfl;all_goals refine dD gO (λK hK=>?_)
    ·go_simp;refine hK _ _ ⟨XG,?_⟩;refine iW ?_;refine fZ 7 ?_;intro K hK;go_simp;refine hK _ _ ⟨Uq,?_⟩;refine iW ?_;refine fZ 8 ?_;intro K hK;refine gL (A:=Aq) (n:=j) (c:=cq) (b:=w3.heap.size) (m:=1) (xs:=((l.take j).map l_).map Item.toD) (F:=Fq) (d:=(l_ y).toD) (F':=[]) (te:=135) (cs:=[.int .i64 y,.int .i64 1,sv []]) kM ?_ ?_ (.tmp 18) (.tmp 24) ?_ ?_ ?_ ?_ ?_ ?_ ?_ ?_ ?_ ?_ ?_
     ·kernel_rfl
     ·rfl
     ·rfl
     ·rfl
     ·exact lz
     ·rfl
     ·exact kn4
     ·exact pI
     ·rfl
     ·exact lw
     ·exact g8
     ·omega
     intro gg gc w5 F5 o5 ap5 md5;simp only[dT]at ap5;have U8:=Blk.mod (g:=w.heap.size) (Yf.next x4) md5 (qL.notin dP);have vB:=Blk.mod (g:=w.heap.size+1) (CC.next x4) md5 (qL.notin dP);have z5:=md5.size;simp only[dT]at z5;have uW:=jN (ij KG x4) md5 (λy hy=>by have:=qL.2 y hy;omega) eA;have pU:=vB.cell 1;simp only[ah,ag]at pU;have Zr:=vB.frozen 1;have UL:w.heap.size+1<w5.heap.size:=vB.lt;have M7:=uW.cell (p:=⟨b,off+j,none⟩) gD |>.trans R9
     refine hK _ _ ⟨M7,?_⟩;refine iW ?_;have SX2:=(show _ from M7);refine ey 9 ?_;refine fZ 10 ?_;intro K hK;go_simp;have Ur:=(uW.setCell (p:=⟨w.heap.size+1,1,none⟩) kt (.slice (some ⟨gg,0,none⟩) (j+1) gc)).cell (p:=⟨b,off+j,none⟩) gD |>.trans R9
     refine hK _ _ ⟨Ur,?_⟩;refine iW ?_;refine bv dU ?_ _;refine ba ?_;clear Jm Jn pU;go_wp2_with fail;go_roundw
     case rel=>
      have Tt:∀y∈F5,y∈Fq\/w.heap.size+1+1<=y:=λy hy=>pF;have MU:∀y∈F5,w.heap.size+1+1<=y:=λy hy=>pG;refine⟨j+1,some ⟨gg,0,none⟩,gc,F5,by omega,by go_num,Blk.pk (p:=⟨w.heap.size+1,1,none⟩) iT U8,vB.set_ 1 _,?_,⟨ap5.1,MU⟩,uW.setCell kt _⟩;rw[eJ HX.out,aI,aI];exact ft o5 (λhm=>by have:=MU _ hm;simp at this;omega)
     case measure=>simp [intOf];omega
    ·go_simp;refine hK _ _ ⟨Uq,?_⟩;refine iW ?_;refine fZ 1 ?_;intro K hK;go_simp;refine hK _ _ ⟨Uq,?_⟩;refine iW ?_;refine fZ 8 ?_;intro K hK;refine gL (A:=Aq) (n:=j) (c:=cq) (b:=w3.heap.size) (m:=1) (xs:=((l.take j).map l_).map Item.toD) (F:=Fq) (d:=(l_ y).toD) (F':=[]) (te:=135) (cs:=[.int .i64 y,.int .i64 1,sv []]) kM ?_ ?_ (.tmp 18) (.tmp 24) ?_ ?_ ?_ ?_ ?_ ?_ ?_ ?_ ?_ ?_ ?_
     ·kernel_rfl
     ·rfl
     ·rfl
     ·rfl
     ·exact lz
     ·rfl
     ·exact kn4
     ·exact pI
     ·rfl
     ·exact lw
     ·exact g8
     ·omega
     intro gg gc w5 F5 o5 ap5 md5;simp only[dT]at ap5;have U8:=Blk.mod (g:=w.heap.size) (Yf.next x4) md5 (qL.notin dP);have vB:=Blk.mod (g:=w.heap.size+1) (CC.next x4) md5 (qL.notin dP);have z5:=md5.size;simp only[dT]at z5;have uW:=jN (ij KG x4) md5 (λy hy=>by have:=qL.2 y hy;omega) eA;have pU:=vB.cell 1;simp only[ah,ag]at pU;have Zr:=vB.frozen 1;have UL:w.heap.size+1<w5.heap.size:=vB.lt;have M7:=uW.cell (p:=⟨b,off+j,none⟩) gD |>.trans R9
     refine hK _ _ ⟨M7,?_⟩;refine iW ?_;have SX2:=(show _ from M7);refine ey 9 ?_;refine fZ 10 ?_;intro K hK;go_simp;have Ur:=(uW.setCell (p:=⟨w.heap.size+1,1,none⟩) kt (.slice (some ⟨gg,0,none⟩) (j+1) gc)).cell (p:=⟨b,off+j,none⟩) gD |>.trans R9
     refine hK _ _ ⟨Ur,?_⟩;refine iW ?_;refine bv dU ?_ _;refine ba ?_;clear Jm Jn pU;go_wp2_with fail;go_roundw
     case rel=>
      have Tt:∀y∈F5,y∈Fq\/w.heap.size+1+1<=y:=λy hy=>pF;have MU:∀y∈F5,w.heap.size+1+1<=y:=λy hy=>pG;refine⟨j+1,some ⟨gg,0,none⟩,gc,F5,by omega,by go_num,Blk.pk (p:=⟨w.heap.size+1,1,none⟩) iT U8,vB.set_ 1 _,?_,⟨ap5.1,MU⟩,uW.setCell kt _⟩;rw[eJ HX.out,aI,aI];exact ft o5 (λhm=>by have:=MU _ hm;simp at this;omega)
     case measure=>simp [intOf];omega
  ·obtain rfl:j=n:=dP;rw[aC ws]at oq;obtain⟨a0,a1,a2,a3,a4,a5,a6,a7⟩:=k3.c8;obtain⟨r0,r1,r2,r3,r4,r5,r6,r7⟩:=kR.c8;have zr:=λi=>kR.frozen i;have Tq:=zr 0;have zr1:=zr 1;have zr2:=zr 2;have zr3:=zr 3;have zr4:=zr 4;have zr5:=zr 5;have zr6:=zr 6;have zr7:=zr 7;have XB:w.heap.size<wr.heap.size:=dP;clear zr;go_wp2_with fail;refine bM (v:= .agg #[.int .i64 2,.slice Aq j cq,(),(),(),(),.int .i64 0,.int .i64 0]) (by simp [results,results54,go_sem,r0,r1,r2,r3,r4,r5,r6,r7,XB]) rfl ⟨_,Fq++([]++([]++([]++([]++[])))),rfl,?_,?_,?_⟩
   ·exact Gz
   ·simpa using qL.mono dP
   ·exact mg
theorem SG (x:Int) (w:World):Calls prog 167 #[x] w λe w'=>e= .returned (Me ⟨x,1,[]⟩)/\Below w.heap.size w w':=by
 go_enter func167,ntmps167;go_wp2_with fail;refine bM (v:=Me ⟨x,1,[]⟩) (by simp [results,results167,go_sem]) rfl ⟨rfl,?_⟩
 (repeat'(first|with_reducible assumption|with_reducible exact Below.refl _ _|with_reducible refine jR ?_|with_reducible refine gT ?_ ?_|with_reducible refine ie ?_ ?_|with_reducible refine gR ?_ dY ?_|((try simp only[dW,dT,dX]);omega)))
theorem Ol (l:List Str):lenV (iA l)=l.length:=by simp [lenV,iA]
theorem Qm (l:List Str):jF (iA l)=l.length:=by rw[jU,Ol];rfl
theorem YY (hn:l.length<=40) (hl:∀x∈l,x.length<=60):isVec (iA l)=true:=by
 have h1:h_ (iA l)=true:=by
  unfold h_ CO IY P6;rw[Ol];have hi:(iA l).items.all (wZ (iA l))=true:=by rw[aV];intro x hx;obtain⟨s,hs,rfl⟩:=List.mem_map.1 hx;have:=hl s hs;simp [wZ,SB,atomK,itemOK,iA,sN,this]
  rw[hi];simp [iA,IZ,mF,vE,hn]
 unfold isVec;rw[okD,h1,Qm];simp [iA];omega
theorem YU {l:List D} (h:∀d∈l,szD d<=B):gv l<=l.length*B:=Gw
theorem V7 (hn:l.length<=40) (hl:∀x∈l,x.length<=60):bigV (iA l):=by
 unfold bigV;rw[go];simp only[iA,bL,szD,gv,au,bf,List.map_map];have:gv (l.map (Item.toD∘sN))<=(l.map (Item.toD∘sN)).length*1000:=YU (λd hd=>by obtain⟨s,hs,rfl⟩:=List.mem_map.1 hd;have:=hl s hs;simp only[Function.comp,Item.toD,sN,szD,gv];omega)
 rw[au]at this;have h2:=dd 1000 hn;omega
theorem x9 (l:List Str) (A:Option Addr) (n c:Nat) (w:World) (hr:Reads encS 1 w w.heap.size A n l) (hn:(n:Int)<=40) (hl:∀x∈l,x.length<=60):
 Calls prog 129 #[.slice A n c] w (gM (iA l).toD 38 w):=by
 have acZ:=aa hr.len;have q0:=((Below.refl w.heap.size w).alloc (af _) (.cells Bj.toArray 38)).alloc eA (.cells #[.int .i64 3,(),(),(),(),(),.int .i64 0,.int .i64 0] 38);have k0:Blk (w.alloc (.cells Bj.toArray 38)) w.heap.size 38 Bj:=Blk.new';have k1:Blk ((w.alloc (.cells Bj.toArray 38)).alloc (.cells #[.int .i64 3,(),(),(),(),(),.int .i64 0,.int .i64 0] 38)) (w.heap.size+1) 38 [.int .i64 3,(),(),(),(),(),.int .i64 0,.int .i64 0]:=Gv;have HL:=aa hl;clear hl;go_enter func129,ntmps129;go_wp2_with fail;go_loopw [4] (λi wr=>tvL l w n i wr) (λi _=>n - (intOf i).toNat)
 case atStart=>exact⟨0,none,0,[],by omega,rfl,k1,k0.al,by rw[cL];exact o_ underlying35,Fresh.nil,q0⟩
 case round=>
  clear k0 k1 q0;obtain⟨k,Ao,co,FP,hk,rfl,kg,kz,oP,fr,bb⟩:=hrel;have z0:=kg.lt;by_cases hlt:k<n
  ·obtain⟨b,off,x,rfl,hb,hx,hc⟩:=(hr.below bb).at_ hlt;have h0:=hc 0 _ rfl;simp only[cu,cF]at h0;have abJ:=HL.out x (aA hx);have TD:¬(60:Int)<x.length:=dP;have HX:=aa (eJ hx);clear hc hx;have eg:=kg.cell 1;simp only[ah,ag]at eg;have zf:=kg.frozen 1;have lP:=gC oP;go_upto_region 5 with fail
   go_region_law (first
    |(go_simp;go_at_call 168;refine(t9 x _).mono ?_;rintro e w1 ⟨rfl,hb1⟩;obtain⟨hc1,hf1⟩:=fY hb1;have z1:=hb1.size;(try simp only[dW,dT,dX]at hc1 hf1 z1);have yg:w.heap.size+1<w1.heap.size:=by omega)
    |(refine gL (A:=Ao) (n:=k) (c:=co) (b:=w1.heap.size) (m:=1) (xs:=(l.take k).map λs=>(sN s).toD) (F:=FP) (d:=(sN x).toD) (F':=[]) (te:=135) (cs:=[.int .i64 0,.int .i64 1,sv x]) kM ?_ ?_ (.tmp 18) (.tmp 24) ?_ ?_ ?_ ?_ ?_ ?_ ?_ ?_ ?_ ?_ ?_;(kernel_rfl);(rfl);(rfl);(rfl);(focus (repeat'(first|with_reducible assumption|with_reducible refine gX ?_|with_reducible refine fK ?_|with_reducible refine ft ?_ ?_|with_reducible exact fS|with_reducible refine fR ?_ ?_|(with_reducible refine Fresh.notin dY ?_;((try simp only[dW,dT,dX]);omega))|(with_reducible refine Lo.notin dY ?_;((try simp only[dW,dT,dX]);omega))|with_reducible refine em ?_ dY)));(rfl);(focus (repeat'(first|with_reducible assumption|with_reducible exact Blk.new'|with_reducible exact Blk.newd|with_reducible apply Blk.set8|(with_reducible refine Blk.pk ?_ ?_;((try simp only[dW,dT,dX]);omega))|with_reducible refine Blk.dw ?_|with_reducible refine Blk.al ?_|with_reducible refine Blk.next ?_ dY)));(exact Rd abJ);(rfl);(rw[bP];exact fr.1);(unfold maxLen;omega);(omega);intro gg cc w2 Ku TG KD rN;have kg2:=Blk.mod (t:=38) (cs:=[.int .i64 3,.slice Ao k co,.slice none 0 0,.slice none 0 0,.slice none 0 0,.slice none 0 0,.int .i64 0,.int .i64 0]) (g:=w.heap.size+1) (by(repeat'(first|with_reducible assumption|with_reducible exact Blk.new'|with_reducible exact Blk.newd|with_reducible apply Blk.set8|(with_reducible refine Blk.pk ?_ ?_;((try simp only[dW,dT,dX]);omega))|with_reducible refine Blk.dw ?_|with_reducible refine Blk.al ?_|with_reducible refine Blk.next ?_ dY))) rN (fr.notin dP);have eg2:=kg2.cell 1;(simp only[ah,ag]at eg2);have zf2:=kg2.frozen 1))
   all_goals
    go_wp2_with fail;go_roundw
    case rel=>
     have z2:=rN.size;simp only[dW,dT,dX]at z2;have ng:w.heap.size+1 ∉ Ku:=KD.notin (C:=w.heap.size+2) (fr.notin dP) dR dP (by((try simp only[dW,dT,dX]);omega));refine⟨k+1,some ⟨gg,0,none⟩,cc,Ku,by omega,by go_num,kg2.set_ 1 _,?_,?_,?_,?_⟩
     ·exact GY
     ·exact yK
     ·exact Gx
     ·exact Hh
    case measure=>simp [intOf];omega
  ·obtain rfl:k=n:=dP;have hni:(k:Int)<=40:=hn;have oP0:=oP;rw[aC su]at oP;have e9:(iA l).items.map Item.toD=l.map λs=>(sN s).toD:=by simp [iA,Function.comp_def]
   rw[<-e9]at oP;have oV:own prog wr (iA l).toD 38 (FP++([]++([]++([]++([]++[]))))) [.int .i64 3,.slice Ao k co,(),(),(),(),.int .i64 0,.int .i64 0]:=jD (x:=iA l) Wa oP (o_ underlying36) (o_ underlying25) (o_ underlying25) (o_ underlying25) le le;have HV:=aa (YY (l:=l) su HL.out);have ga:=V7 (l:=l) su HL.out;clear e9 oP0;obtain⟨e0,e1,e2,e3,e4,e5,e6,e7⟩:=kg.c8;go_wp2_with fail;refine(ew (iA l) [.int .i64 3,.slice Ao k co,(),(),(),(),.int .i64 0,.int .i64 0] _ (eW _ _ _ _ oV) ga).mono ?_;rw[HV.out];rintro e w1 ⟨rfl,hb1⟩;clear e0 e1 e2 e3 e4 e5 e6 e7;have kg1:=kg.next hb1;have kz1:=kz.next hb1;have oV1:=em oV hb1;have bb1:=gR bb hb1 dP;have z1:=hb1.size;obtain⟨r0,r1,r2,r3,r4,r5,r6,r7⟩:=kz1.c8;have Cz:w.heap.size<w1.heap.size:=dP;obtain⟨e0,e1,e2,e3,e4,e5,e6,e7⟩:=kg1.c8;have zr:=λi=>kz1.frozen i;have Tq:=zr 0;have zr1:=zr 1;have zr2:=zr 2;have zr3:=zr 3;have zr4:=zr 4;have zr5:=zr 5;have zr6:=zr 6;have zr7:=zr 7;clear zr;go_wp2_with fail;refine bM (v:= .agg #[.int .i64 3,.slice Ao k co,(),(),(),(),.int .i64 0,.int .i64 0]) (by simp [results,results129,go_sem,r0,r1,r2,r3,r4,r5,r6,r7,Cz]) rfl ⟨_,FP++([]++([]++([]++([]++[])))),rfl,?_,?_,?_⟩
   ·have fn:w.heap.size ∉ FP++([]++([]++([]++([]++[])))):=by simpa using fr.notin dP
    repeat'(first|with_reducible assumption|with_reducible refine ft ?_ ?_)
   ·simpa using fr.mono dP
   ·exact mg
theorem RF {x:Str} (h:lR l=true) (hx:x=[]):lR (l++[x])=true:=by unfold lR at*;simp [h,hx]
theorem KC {x:Str} (h:l[j]?=some x) (hx:¬x=[]):lR l=false:=by unfold lR;rw[List.all_eq_false];exact⟨x,aA h,by cases x<;>simp_all⟩
theorem aaL (v:Vec) (Ai:Option Addr) (ci:Nat) (Ap:Option Addr) (cp:Nat) (An:Option Addr) (cn:Nat) (Ac:Option Addr) (cc:Nat) (Al:Option Addr) (cl:Nat) (w:World) (rn:rep w w.heap.size (.sl (v.names.map .s)) [.slice An v.names.length cn]):
 Calls prog 125 #[.agg #[v.kind,.slice Ai v.items.length ci,.slice Ap v.parts.length cp,.slice An v.names.length cn,.slice Ac v.cls.length cc,.slice Al v.levels.length cl,v.code,v.env]] w λe w'=>(lR v.names=false/\e= .returned (.agg #[v.kind,.slice Ai v.items.length ci,.slice Ap v.parts.length cp,.slice An v.names.length cn,.slice Ac v.cls.length cc,.slice Al v.levels.length cl,v.code,v.env])/\Below w.heap.size w w')\/
  (lR v.names=true/\∃A c F,e= .returned (.agg #[v.kind,.slice Ai v.items.length ci,.slice Ap v.parts.length cp,.slice A 0 c,.slice Ac v.cls.length cc,.slice Al v.levels.length cl,v.code,v.env])/\own prog w' (.sl []) 25 F [.slice A 0 c]/\Fresh w.heap.size F/\Below w.heap.size w w'):=by
 obtain⟨_,_,_,he,-,-,Nj,OE⟩:=(ls _ _ _ _).1 rn;injection he with he;injection he with e1 e2 e3;subst e1 e2 e3
 have hnm:(v.names.length:Int)<=9223372036854775807:=by have q:=(ef rn).2;unfold maxLen at q;omega
 have M:Mem prog w [] w []:=Mem.start;go_enter func125,ntmps125;refine Sq (Sa M (λJ1 wv M=>?_));refine Sa M (λJ2 wv M=>Sz (ae ?_));refine Ra M [] (aJ ?_);refine fy (ι:=Nat) [4,5,6,7,8,9,10,11,12,13,14,15,16,17] (λj=>[(3,.int .i64 (j:Nat))]) (λj=>j<=v.names.length/\lR (v.names.take j)=true) (λj=>[.bk (J2.b) 38 [.int .i64 0,(),(),(),(),(),.int .i64 0,.int .i64 0],.bk (J1.b) 38 [v.kind,.slice Ai v.items.length ci,.slice Ap v.parts.length cp,.slice An v.names.length cn,.slice Ac v.cls.length cc,.slice Al v.levels.length cl,v.code,v.env]]) (λj=>v.names.length - j) (0) (by simp [lR]) (M) ?_;rintro j Mf W1 K1 h1 M rH;try dsimp only at h1 M ⊢
 refine uM ?_;have HA:=aa h1.2;replace h1:=h1.1;refine ae (Ra M [1] ?_);refine lW (λhlt=>?_) (λhlt=>?_)
 ·rw[hlt];replace hlt:=aa hlt;have hlj:j<v.names.length:=v2;obtain⟨b,off,x,hAn,gD,hx,c0⟩:=Nj.atS hlj;subst hAn;replace hx:=aa hx;have j0:(0:Int)<=(j:Int):=dP;have j1:(j:Int)<(v.names.length:Int):=dP;refine bd (dV (ae (aJ (Sq (Sb M [1] 4 ?_)))));refine Sf (show W1.cell? ⟨b,off+j,none⟩=some (sv x) from (M.bel.cell gD).trans c0) ?_;refine Sb M [] 1 (Sz ?_);refine lW (λjC=>?_) (λjC=>?_)
  ·rw[jC];replace jC:=aa jC;refine Sq (Sb M [1] 1 ?_);refine Ss M 0 (λwv M=>Sz (aO (xt (fI (fI (xt (fI ?_)))))));refine kN results125 M 0 ?_;exact .inl ⟨KC hx.out n_,rfl,M.bel⟩
  ·rw[jC];replace jC:=aa jC;refine bd (fA (dV (Rb M [] (dV ?_))));exact rH (j+1) _ _ dU (⟨by omega,by rw[eJ hx.out];exact RF HA.out n_⟩) (by(try dsimp only);omega) (M.sel [0,1] dQ)
 ·rw[hlt];replace hlt:=aa hlt;obtain rfl:j=v.names.length:=ko;refine bo (es (es (fT (dV (Sq (Se M underlying25 (λJ3 wv M=>?_)))))));refine Sb M [] 1 ?_;refine Ss M 2 (λwv M=>Sz (Sq ?_));refine Sb M [2] 1 ?_;refine Ss M 1 (λwv M=>Sz (aO ?_));refine kN results125 M 1 ?_;have HB:=HA.out;rw[cC]at HB;obtain⟨F,f1,f2,f3⟩:=(M.sel [0] dQ).fin;exact .inr ⟨HB,_,_,F,rfl,f1,f2,f3⟩
theorem sO {r rv:Vec} (M:Mem prog w0 X w (.ow r.toD 38 cs::R)) (he:gZ r=rv) (wk:(Lit.int .i64 r.kind).wf=true) (wc:(Lit.int .i64 r.code).wf=true) (we:(Lit.int .i64 r.env).wf=true):Calls prog 125 #[av cs] w λe w'=>∃(Ai:Option Addr) (ci:Nat) (Ap:Option Addr) (cp:Nat) (An:Option Addr) (cn:Nat) (Ac:Option Addr) (cc:Nat) (Al:Option Addr) (cl:Nat),e= .returned (.agg #[rv.kind,.slice Ai rv.items.length ci,.slice Ap rv.parts.length cp,.slice An rv.names.length cn,.slice Ac rv.cls.length cc,.slice Al rv.levels.length cl,rv.code,rv.env])/\Mem prog w0 X w' (.ow rv.toD 38 [rv.kind,.slice Ai rv.items.length ci,.slice Ap rv.parts.length cp,.slice An rv.names.length cn,.slice Ac rv.cls.length cc,.slice Al rv.levels.length cl,rv.code,rv.env]::R):=by
 have hr:=M.rp 0 rfl;obtain⟨Ai,ci,Ap,cp,An,cn,Ac,cc,Al,cl,rfl,-,-,-,rn,-,-,-,-⟩:=d_ hr;refine(aaL r Ai ci Ap cp An cn Ac cc Al cl w rn).mono ?_;rintro e w' (⟨ha,rfl,hb⟩|⟨ha,A,c,F,rfl,ho,hf,hb⟩)
 ·obtain rfl:r=rv:=by rw[<-he];unfold gZ;rw[ha];rfl
  exact⟨_,_,_,_,_,_,_,_,_,_,rfl,M.next hb⟩
 ·obtain rfl:{r with names:=[]}=rv:=by rw[<-he];unfold gZ;rw[ha];rfl
  have M1:=M.gain ho hf hb;obtain⟨Bi,ni,bi,Bp,np,bp,Bn,nn,bn,Bc,nc,bc,Bl,nl,bl,hc,M2⟩:=(M1.pull 1 rfl).openVec;simp only[bF,bG,dy,cO]at hc;obtain⟨⟨rfl,rfl,rfl⟩,⟨rfl,rfl,rfl⟩,⟨rfl,rfl,rfl⟩,⟨rfl,rfl,rfl⟩,rfl,rfl,rfl⟩:=hc;have M3:=((M2.pull 2 rfl).drop.pull 4 rfl).pull 2 rfl |>.pull 2 rfl
  exact⟨_,_,_,_,_,_,_,_,_,_,rfl,Mem.joinVec (v:={r with names:=[]}) M3 wk wc we⟩
theorem RG (h:eI x=true\/frm=tk\/tk=2):gI frm tk x=x:=by unfold gI;rw[aN h]
theorem TX (h:¬(eI x=true\/frm=tk\/tk=2)) (h2:frm=2):gI frm tk x=sN (qq x):=by unfold gI;rw[aH h,aN h2]
theorem RH (h:¬(eI x=true\/frm=tk\/tk=2)) (h2:¬frm=2) (h3:x.num=1):gI frm tk x=sN [84,82,85,69]:=by unfold gI;rw[aH h,aH h2,aN h3]
theorem O3 (h:¬(eI x=true\/frm=tk\/tk=2)) (h2:¬frm=2) (h3:¬x.num=1):gI frm tk x=sN [70,65,76,83,69]:=by unfold gI;rw[aH h,aH h2,aH h3]
theorem Ce (x:Item) (frm tk:Int) (w:World):Calls prog 186 #[Me x,frm,tk] w λe w'=>e= .returned (Me (gI frm tk x))/\Below w.heap.size w w':=by
 have M:Mem prog w [] w []:=Mem.start;go_enter func186,ntmps186;refine Sq (Sa M (λJ1 wv M=>?_));refine Sa M (λJ2 wv M=>Sz (ae (Sq ?_)));refine Sb M [1] 1 ?_;refine Sc (aF (kJ x _) ?_);rintro e w' ⟨rfl,hb⟩;replace M:=M.next hb;refine Sp ?_;refine Sb M [] 1 ?_;refine So ((bif (eI x) then undef else .int .i64 frm)) (λK Z hK=>by rcases ac ((eI x)) with hg|hg<;>simp only[hg,ar,ak,aD,aB,az,aq,aj,am]at hK<;>go_simp<;>exact hK) ?_;refine So ((bif (eI x) then undef else .int .i64 tk)) (λK Z hK=>by rcases ac ((eI x)) with hg|hg<;>simp only[hg,ar,ak,aD,aB,az,aq,aj,am]at hK<;>go_simp<;>exact hK) ?_;refine So ((bif (eI x) then undef else .bool ((frm:Int)==(tk:Int)))) (λK Z hK=>by rcases ac ((eI x)) with hg|hg<;>simp only[hg,ar,ak,aD,aB,az,aq,aj,am]at hK<;>go_simp<;>exact hK) ?_;refine So (.bool ((eI x)||((frm:Int)==(tk:Int)))) (λK Z hK=>by rcases ac ((eI x)) with hg|hg<;>simp only[hg,ar,ak,aD,aB,az,aq,aj,am]at hK<;>go_simp<;>exact hK) ?_;refine Sb M [] 1 ?_;refine So ((bif ((eI x)||((frm:Int)==(tk:Int))) then undef else .int .i64 tk)) (λK Z hK=>by rcases ac (((eI x)||((frm:Int)==(tk:Int)))) with hg|hg<;>simp only[hg,ar,ak,aD,aB,az,aq,aj,am]at hK<;>go_simp<;>exact hK) ?_;refine So ((bif ((eI x)||((frm:Int)==(tk:Int))) then undef else .bool ((tk:Int)==(2:Int)))) (λK Z hK=>by rcases ac (((eI x)||((frm:Int)==(tk:Int)))) with hg|hg<;>simp only[hg,ar,ak,aD,aB,az,aq,aj,am]at hK<;>go_simp<;>exact hK) ?_;refine So (.bool (((eI x)||((frm:Int)==(tk:Int)))||((tk:Int)==(2:Int)))) (λK Z hK=>by rcases ac (((eI x)||((frm:Int)==(tk:Int)))) with hg|hg<;>simp only[hg,ar,ak,aD,aB,az,aq,aj,am]at hK<;>go_simp<;>exact hK) (Sz ?_);refine lW (λh1=>?_) (λh1=>?_)
 ·rw[h1];replace h1:=aa h1;refine Sq (Sb M [1] 1 ?_);refine Ss M 0 (λwv M=>Sz (aO (fI ?_)));refine kN results186 M 0 ?_;exact⟨by rw[RG (by simpa [or_assoc]using h1.out)];try rfl,M.bel⟩
 ·rw[h1];replace h1:=aa h1;refine bd (dV (ae (Ra M [] ?_)));refine lW (λh2=>?_) (λh2=>?_)
  ·rw[h2];replace h2:=aa h2;refine Sq (Sb M [1] 1 ?_);refine Sc (aF (vr x _) ?_);rintro e w' ⟨rfl,hb⟩;replace M:=M.next hb;refine Sp ?_;refine Sc (aF (pm ((qq x)) _) ?_);rintro e w' ⟨rfl,hb⟩;replace M:=M.next hb;refine Sp ?_;refine Ss M 0 (λwv M=>Sz (aO (fI ?_)));refine kN results186 M 0 ?_;exact⟨by rw[TX (λhh=>by have q:=h1.out;simp at q;simp_all) qk];try rfl,M.bel⟩
  ·rw[h2];replace h2:=aa h2;refine bd (dV (ae (Ra M [1] ?_)));refine lW (λh3=>?_) (λh3=>?_)
   ·rw[h3];replace h3:=aa h3;refine Sq (Sc (aF (pm ([84,82,85,69]) _) ?_));rintro e w' ⟨rfl,hb⟩;replace M:=M.next hb;refine Sp ?_;refine Ss M 0 (λwv M=>Sz (aO (fI ?_)));refine kN results186 M 0 ?_;exact⟨by rw[RH (λhh=>by have q:=h1.out;simp at q;simp_all) qk (by simpa using h3.out)];try rfl,M.bel⟩
   ·rw[h3];replace h3:=aa h3;refine bd (dV (Sq (Sc (aF (pm ([70,65,76,83,69]) _) ?_))));rintro e w' ⟨rfl,hb⟩;replace M:=M.next hb;refine Sp ?_;refine Ss M 0 (λwv M=>Sz (aO ?_));refine kN results186 M 0 ?_;exact⟨by rw[O3 (λhh=>by have q:=h1.out;simp at q;simp_all) qk (by simpa using h3.out)];try rfl,M.bel⟩
theorem wK {v:Vec} {k:Int} (h:¬k=4):conv v k=⟨k,v.items.map (gI v.kind k),[],v.names,[],[],0,0⟩:=by unfold conv;rw[aH h]
theorem Ds (v:Vec) (k:Int) (cs:List Value) (w:World) (h:rep w w.heap.size v.toD cs) (hni:v.items.length<=40) (hnn:v.names.length<=40) (h5:¬v.kind=5) (h0:0<=v.kind) (hvk:v.kind<=k) (hk:k<4) (mT:∀x∈v.items,itOK (gI v.kind k x)):
 Calls prog 160 #[av cs,k] w (eH (conv v k).toD 38 (.bool true) w):=by
 obtain⟨Ai,ci,Ap,cp,An,cn,Ac,cc,Al,cl,rfl,wk,ri,rp,rn,rc,rl,wc,we⟩:=d_ h;have Qv:=aa mT;obtain⟨_,_,_,he,-,-,hri,-⟩:=(NS _ _ _ _).1 ri;injection he with he;injection he with e1 e2 e3;subst e1 e2 e3
 have q1:(v.kind==5)=false:=by simpa using h5
 have q2:decide (k<v.kind)=false:=dS;have q3:(k==4)=false:=dS;have Z3:(Lit.int .i64 k).wf=true:=kP.2 fP;have uL:=aa (show ¬k=4 by omega);clear mT;have M:Mem prog w [] w []:=Mem.start;go_enter func160,ntmps160;refine Sq (Sa M (λJ1 wv M=>?_));refine Sa M (λJ2 wv M=>?_);refine Sb M [] 1 (Sz (Sq ?_));refine Sb M [1] 3 ?_;refine Sc (Ik (gJ v.names An _ cn _ (M.arg rn) dP) M λJ3 wv M=>Sp ?_);refine Sb M [] 1 ?_;refine Sa M (λJ4 wv M=>?_);refine Ss M 0 (λwv M=>Sz (ae ?_));refine Ra M [3] ?_;refine gk (ae ?_);refine Ra M [3] ?_;refine gk (ae ?_);refine Ra M [] ?_;refine gk (ae ?_);refine Ra M [3] (aJ ?_);refine fy (ι:=Nat × Option Addr × Nat) [12,73,74,75,76,77,78,79,80,81,82,83,84,85,86] (λfu=>match fu with|(j,Ao,co)=>[(72,.int .i64 (j:Nat))]) (λfu=>match fu with|(j,Ao,co)=>j<=v.items.length) (λfu=>match fu with|(j,Ao,co)=>[.ow (.sl (((v.items.take j).map (gI v.kind k)).map Item.toD)) 35 [.slice Ao j co],.ow (.sl (v.names.map D.s)) 25 [.slice J3.a v.names.length J3.c],.bk (J4.b) 38 [k,.slice Ao j co,(),.slice J3.a v.names.length J3.c,(),(),.int .i64 0,.int .i64 0],.bk (J2.b) 38 [.int .i64 0,(),(),(),(),(),.int .i64 0,.int .i64 0],.bk (J1.b) 38 [v.kind,.slice Ai v.items.length ci,.slice Ap v.parts.length cp,.slice An v.names.length cn,.slice Ac v.cls.length cc,.slice Al v.levels.length cl,v.code,v.env]]) (λfu=>match fu with|(j,Ao,co)=>v.items.length - j) (0,none,0) dP ((M.nil (t:=35) underlying35).sel [0,2,1,3,4] dQ) ?_;rintro⟨j,Ao,co⟩ Mf W1 K1 h1 M rH;try dsimp only at h1 M ⊢
 refine uM ?_;refine Ra M [] (ae ?_);refine lW (λhlt=>?_) (λhlt=>?_)
 ·rw[hlt];replace hlt:=aa hlt;have hlj:j<v.items.length:=ko;obtain⟨b,off,x,rfl,gD,hx,c0,c1,c2⟩:=hri.at3 hlj;replace hx:=aa hx;have mT:=Qv.out x (aA hx.out);have j0:(0:Int)<=(j:Int):=dP;have j1:(j:Int)<(v.items.length:Int):=dP;refine bd (dV (ae (aJ (Sq (Sb M [] 1 ?_)))));refine Sf (show W1.cell? ⟨b,off+j*3,none⟩=some (.int .i64 x.num)/\W1.cell? ⟨b,off+j*3+1,none⟩=some (.int .i64 x.den)/\W1.cell? ⟨b,off+j*3+2,none⟩=some (sv x.text) from⟨(M.bel.cell gD).trans c0,(M.bel.cell gD).trans c1,(M.bel.cell gD).trans c2⟩) ?_;refine Sa M (λJ5 wv M=>?_);refine Ss M 0 (λwv M=>Sz ?_);refine CJ (M.sel [0,1,3,5,2,4] dQ) [none,some 8,some 10,none] [.o (J4.b) 1,.l 2 1,.la 0,.o (J1.b) 0,.l 3 0,.i (k),.v (.c (.agg #[.int .i64 (gI v.kind k x).num,.int .i64 (gI v.kind k x).den,sv (gI v.kind k x).text])),.v (.e 7 (λMg=> .slice (some ⟨Mg.b,0,none⟩) 1 1)),.v (vA 8 (j+1)),.p 8,.u] [.b 7 none 135 6,.e 8 none (oA 8 (.sl ((((v.items.take j).map (gI v.kind k)).map Item.toD)++[(gI v.kind k x).toD])) 35 (j+1)),.s 10 none 2 [(1,vA 8 (j+1))]] [[],[2],[0],[],[3],[],[],[],[4],[],[]] [] ?_ ?_
  ·show ∀i,i<11->_;refine On (On ?_ eh) (vI [2] [6] 1);refine On ?_ (tn [1] [5] [4] (h:=λγ wv R K M hK=>by have M:=M.item mT;exact mG (((M.pull 2 rfl).pull 1 rfl).pull 2 rfl) kM dU rfl (.tmp 77) (.tmp 83) rfl rfl rfl rfl eb dP λg c' w' M'=>hK (R3 g c') w' M'))
   refine On ?_ (kX [4]);refine On ?_ (tn [] [] [] (h:=λγ wv R K M hK=>by go_simp;go_at_call 186;exact f_ (Ce x v.kind k _) M hK))
   exact On (On (On (On (On (On Oz eh) (e_ [2] 1)) (ZX [0])) eh) (e_ [3] 0)) eB
  intro Ho wv M;replace M:Mem _ _ _ _ [_,_,.bk _ _ [_,_,_],.ow _ _ _,.bk _ _ [_,_,_,_,_,_,_,_],_,_]:=M;refine fA (dV (Rb M [] (dV ?_)));exact rH (j+1,(some ⟨(Ho 8).b,0,none⟩),(Ho 8).c) _ _ dU (by(try dsimp only);omega) (by(try dsimp only);omega) (by(try dsimp only);rw[eJ hx.out,aI,aI];exact M.sel [3,5,4,6,1] dQ)
 ·rw[hlt];replace hlt:=aa hlt;obtain rfl:j=v.items.length:=ko;refine bo (es (es (fT (dV (Sq (Sb M [2] 1 ?_))))));refine Ss M 3 (λwv M=>?_);refine Sb M [] 1 (Sz (aO ?_));refine kN results160 M 3 ?_;have MZ:=M.sel [0,1] dQ;simp only[lH,bH,bY,ah,ag,cC]at MZ;have MZ:=(((MZ.nil (t:=25) underlying25).nil (t:=25) underlying25).nil (t:=36) underlying36);replace MZ:=MZ.up [4,1,4];rw[wK uL.out];exact(Mem.joinVec (v:=⟨k,v.items.map (gI v.kind k),[],v.names,[],[],0,0⟩) MZ Z3 le le).retTwo
theorem Oe (h:Hp) (c:Cel) (g:Nat) (F Fc:List Nat) (cc:List Value) (w:World) (H:HB w g h F) (oc:own prog w c.toD 43 Fc cc) (hd:∀y∈Fc,y ∉ g::F) (hn:Fc.Nodup) (hl:(h.cells.length:Int)<=1073741824):
 Calls prog 104 #[.pointer (some ⟨g,0,none⟩),.agg cc.toArray] w λe w'=>e= .returned (.int .i64 (gH h c).2)/\∃F',HB w' g (gH h c).1 F'/\(∀y∈F',y∈F\/y∈Fc\/w.heap.size<=y)/\Mod (g::F) w w':=by
 have hlc:=gC oc;obtain⟨Bi,mi,di,Bp,mp,dp,Bn,mn,dn,Bc,mc,dc,Bl,ml,dl,Bq,mq,dq,G1,G2,G3,G4,G5,G6,rfl,rfl,p1,p2,p3,p4,p5,p6⟩:=jp oc;obtain⟨G,hG⟩:∃G,G=(G1++(G2++(G3++(G4++(G5++[])))))++(G6++[]):=⟨_,rfl⟩;rw[<-hG]at hd hn oc hlc ⊢;clear p1 p2 p3 p4 p5 p6 hG G1 G2 G3 G4 G5 G6;have x1:Below w.heap.size w (w.alloc (.cells #[c.count,c.value.kind,.slice Bi mi di,.slice Bp mp dp,.slice Bn mn dn,.slice Bc mc dc,.slice Bl ml dl,c.value.code,c.value.env,.slice Bq mq dq] 43)):=(Below.refl w.heap.size w).alloc (af _) _;have Yr:own prog (w.alloc (.cells #[c.count,c.value.kind,.slice Bi mi di,.slice Bp mp dp,.slice Bn mn dn,.slice Bc mc dc,.slice Bl ml dl,c.value.code,c.value.env,.slice Bq mq dq] 43)) (Cel.toD c) 43 G [c.count,c.value.kind,.slice Bi mi di,.slice Bp mp dp,.slice Bn mn dn,.slice Bc mc dc,.slice Bl ml dl,c.value.code,c.value.env,.slice Bq mq dq]:=fK oc;have ahr:Lo w.heap.size G:=hlc;have H1:HB (w.alloc (.cells #[c.count,c.value.kind,.slice Bi mi di,.slice Bp mp dp,.slice Bn mn dn,.slice Bc mc dc,.slice Bl ml dl,c.value.code,c.value.env,.slice Bq mq dq] 43)) g h F:=H.next x1;have k3:Blk (w.alloc (.cells #[c.count,c.value.kind,.slice Bi mi di,.slice Bp mp dp,.slice Bn mn dn,.slice Bc mc dc,.slice Bl ml dl,c.value.code,c.value.env,.slice Bq mq dq] 43)) w.heap.size 43 [c.count,c.value.kind,.slice Bi mi di,.slice Bp mp dp,.slice Bn mn dn,.slice Bc mc dc,.slice Bl ml dl,c.value.code,c.value.env,.slice Bq mq dq]:=Blk.new' (l:=[.int .i64 c.count,.int .i64 c.value.kind,.slice Bi mi di,.slice Bp mp dp,.slice Bn mn dn,.slice Bc mc dc,.slice Bl ml dl,.int .i64 c.value.code,.int .i64 c.value.env,.slice Bq mq dq]);have JA:=H.lt;obtain⟨W,hW⟩:∃W,W=(w.alloc (.cells #[c.count,c.value.kind,.slice Bi mi di,.slice Bp mp dp,.slice Bn mn dn,.slice Bc mc dc,.slice Bl ml dl,c.value.code,c.value.env,.slice Bq mq dq] 43)):=⟨_,rfl⟩;obtain⟨Ac,nc,nd,An,nn,na,As,ns,nb,Fa,Fb,Fs,kB,hF,o1,o2,o3,wf⟩:=H1.open_;have gK:=ef (eW _ _ _ _ o1);rw[au]at gK;have Nh:(nc:Int)<=1073741824:=dP;have HL:=aa gK;have zW:(w.alloc (.cells #[c.count,c.value.kind,.slice Bi mi di,.slice Bp mp dp,.slice Bn mn dn,.slice Bc mc dc,.slice Bl ml dl,c.value.code,c.value.env,.slice Bq mq dq] 43)).heap.size=w.heap.size+1:=by simp only[dT,dX]
 clear gK;obtain⟨g0,g1,g2,g3⟩:=kB.c4;go_enter func104,ntmps104;go_wp2_with fail;rw[<-hW]at x1 Yr H1 k3 kB zW o1 o2 o3 g0 g1 g2 g3 ⊢;clear hW oc hlc;go_loopw [11] (λv wr=>∃j:Nat,j<=nc/\v= .int .i64 j/\wr=W/\gy h.cells 0=gy (h.cells.drop j) j) (λv _=>nc - (intOf v).toNat)
 case atStart=>exact⟨0,by omega,rfl,rfl,rfl⟩
 case round=>
  obtain⟨j,hj,rfl,rfl,hff⟩:=hrel;by_cases hlt:j<nc
  ·obtain⟨x,hx⟩:∃x,h.cells[j]?=some x:=⟨_,aw (by rw[HL.out.1];exact hlt)⟩;have XI:=uZ hx;obtain⟨bc,JS,nd',Ct,CE,na',Wl,WG,nb',Fx,cx,pre,post,IG,hl',hm',ox,Ix,Zw,hp,hB,Po,qo,ZK,Zz,Lb⟩:=H1.cell_ hx;obtain⟨rfl,rfl,rfl,rfl,rfl,rfl,rfl,rfl,rfl⟩:=pz kB IG;obtain⟨Ei,ui,vi,Ep,up,vp,En,un,vn,Ec,uc,vc,El,ul,vl,Eq,uq,vq,G1,G2,G3,G4,G5,G6,rfl,hFx,-,-,-,-,-,-⟩:=jp ox;obtain⟨e0,e1,e2,e3,e4,e5,e6,e7,e8,e9⟩:=hB.e10 hp;obtain⟨f0,f1,f2,f3,f4,f5,f6,f7,f8,f9⟩:=hB.fr10 (m:=j*10);have HX:=aa hx;clear hx hl' hFx IG;by_cases hz:x.count=0
   ·have UJ:gH h c=(eG h j c,(j:Int)):=by unfold gH;rw[hff,XI,aN hz]
    have d0:(x.count==0)=true:=by simp [hz]
    have W6:=aa UJ;have uK:bc<w.heap.size:=by have:=H.lo bc (aP _ Po);exact this
    have hbn:bc≠w.heap.size:=dP;clear hff XI hz UJ;obtain⟨a0,a1,a2,a3,a4,a5,a6,a7,a8,a9⟩:=k3.d10;go_wp2_with fail;refine bu ?_;refine aW (S:=λV=>V.cell? ⟨g,0,none⟩=some (.slice (some ⟨bc,0,none⟩) nc nd)/\V.cell? ⟨w.heap.size,0,none⟩=some (.int .i64 c.count)/\V.cell? ⟨w.heap.size,1,none⟩=some (.int .i64 c.value.kind)/\V.cell? ⟨w.heap.size,2,none⟩=some (.slice Bi mi di)/\V.cell? ⟨w.heap.size,3,none⟩=some (.slice Bp mp dp)/\V.cell? ⟨w.heap.size,4,none⟩=some (.slice Bn mn dn)/\V.cell? ⟨w.heap.size,5,none⟩=some (.slice Bc mc dc)/\V.cell? ⟨w.heap.size,6,none⟩=some (.slice Bl ml dl)/\V.cell? ⟨w.heap.size,7,none⟩=some (.int .i64 c.value.code)/\V.cell? ⟨w.heap.size,8,none⟩=some (.int .i64 c.value.env)/\V.cell? ⟨w.heap.size,9,none⟩=some (.slice Bq mq dq)) dU ⟨g0,a0,a1,a2,a3,a4,a5,a6,a7,a8,a9⟩ (λhH=>?_);refine ey 0 ?_;refine ey 1 ?_;refine ey 2 ?_;refine ey 3 ?_;refine ey 4 ?_;refine ey 5 ?_;refine ey 6 ?_;refine fZ 7 ?_;intro K hK;go_simp;have Vi:Mod [bc] wr ((((((((((wr.setCell ⟨bc,j*10,none⟩ (.int .i64 c.count)).setCell ⟨bc,j*10+1,none⟩ (.int .i64 c.value.kind)).setCell ⟨bc,j*10+2,none⟩ (.slice Bi mi di)).setCell ⟨bc,j*10+3,none⟩ (.slice Bp mp dp)).setCell ⟨bc,j*10+4,none⟩ (.slice Bn mn dn)).setCell ⟨bc,j*10+5,none⟩ (.slice Bc mc dc)).setCell ⟨bc,j*10+6,none⟩ (.slice Bl ml dl)).setCell ⟨bc,j*10+7,none⟩ (.int .i64 c.value.code)).setCell ⟨bc,j*10+8,none⟩ (.int .i64 c.value.env)).setCell ⟨bc,j*10+9,none⟩ (.slice Bq mq dq)):=Q3 dR;have md:Mod [bc] wr ((((((((((wr.setCell ⟨bc,j*10,none⟩ (.int .i64 c.count)).setCell ⟨bc,j*10+1,none⟩ (.int .i64 c.value.kind)).setCell ⟨bc,j*10+2,none⟩ (.slice Bi mi di)).setCell ⟨bc,j*10+3,none⟩ (.slice Bp mp dp)).setCell ⟨bc,j*10+4,none⟩ (.slice Bn mn dn)).setCell ⟨bc,j*10+5,none⟩ (.slice Bc mc dc)).setCell ⟨bc,j*10+6,none⟩ (.slice Bl ml dl)).setCell ⟨bc,j*10+7,none⟩ (.int .i64 c.value.code)).setCell ⟨bc,j*10+8,none⟩ (.int .i64 c.value.env)).setCell ⟨bc,j*10+9,none⟩ (.slice Bq mq dq)).drew:=gU Vi (Below.refl _ _).drew;have rN:Mod (bc::Fx) wr _:=md.mono dR;have kg:=Blk.mod (g:=g) kB md (by simpa using Zz);have kb:=Blk.mod (g:=w.heap.size) k3 md dS;obtain⟨a0,a1,a2,a3,a4,a5,a6,a7,a8,a9⟩:=kb.d10;obtain⟨g0,g1,g2,g3⟩:=kg.c4;refine hK _ _ ⟨⟨g0,a0,a1,a2,a3,a4,a5,a6,a7,a8,a9⟩,?_⟩;refine iW ?_;refine bv dU ?_ _;refine ba ?_;go_wp2_with fail;go_ret;rw[W6.out];obtain⟨F',HF,xR⟩:=Lb _ c _ G rfl (fH Yr md (λy hy hm=>hd y hy (aP _ (by simp at hm;subst hm;exact Po)))) hn (λy hy=> .inr (hd y hy)) (Blk.put10 hB hp).dw rN;refine⟨rfl,F',HF,λy hy=>?_,?_⟩
    ·rcases xR y hy with h1|h1
     ·exact .inr (.inl h1)
     ·exact .inl h1.1
    ·exact GQ
   ·have d0:(x.count==0)=false:=by simp [hz]
    rw[XI,aH hz]at hff;have HFF:=aa hff;clear hz hff XI;go_wp2_with fail;go_roundw
    case rel=>exact⟨j+1,by omega,by go_num,bO,HFF.out⟩
    case measure=>simp [intOf];omega
  ·obtain rfl:j=nc:=dP;have UJ:gH h c=({h with cells:=h.cells++[c]},(j:Int)):=BM;have W6:=aa UJ;have hgw:g<w.heap.size:=H.lt;clear UJ hff;obtain⟨a0,a1,a2,a3,a4,a5,a6,a7,a8,a9⟩:=k3.d10;go_wp2_with fail;refine bu ?_;refine aW (S:=λV=>V.cell? ⟨w.heap.size,0,none⟩=some (.int .i64 c.count)/\V.cell? ⟨w.heap.size,1,none⟩=some (.int .i64 c.value.kind)/\V.cell? ⟨w.heap.size,2,none⟩=some (.slice Bi mi di)/\V.cell? ⟨w.heap.size,3,none⟩=some (.slice Bp mp dp)/\V.cell? ⟨w.heap.size,4,none⟩=some (.slice Bn mn dn)/\V.cell? ⟨w.heap.size,5,none⟩=some (.slice Bc mc dc)/\V.cell? ⟨w.heap.size,6,none⟩=some (.slice Bl ml dl)/\V.cell? ⟨w.heap.size,7,none⟩=some (.int .i64 c.value.code)/\V.cell? ⟨w.heap.size,8,none⟩=some (.int .i64 c.value.env)/\V.cell? ⟨w.heap.size,9,none⟩=some (.slice Bq mq dq)) dU ⟨a0,a1,a2,a3,a4,a5,a6,a7,a8,a9⟩ (λhH=>?_);have hwb:wr.heap.size=w.heap.size+1:=zW;have x3:Below wr.heap.size wr (wr.alloc (.cells #[c.count,c.value.kind,.slice Bi mi di,.slice Bp mp dp,.slice Bn mn dn,.slice Bc mc dc,.slice Bl ml dl,c.value.code,c.value.env,.slice Bq mq dq] 43)).drew:=((Below.refl _ _).alloc (af _) _).drew;have kg:=kB.next x3;have kb:=k3.next x3;have kn:Blk (wr.alloc (.cells #[c.count,c.value.kind,.slice Bi mi di,.slice Bp mp dp,.slice Bn mn dn,.slice Bc mc dc,.slice Bl ml dl,c.value.code,c.value.env,.slice Bq mq dq] 43)).drew wr.heap.size 43 [c.count,c.value.kind,.slice Bi mi di,.slice Bp mp dp,.slice Bn mn dn,.slice Bc mc dc,.slice Bl ml dl,c.value.code,c.value.env,.slice Bq mq dq]:=(Blk.new' (l:=[.int .i64 c.count,.int .i64 c.value.kind,.slice Bi mi di,.slice Bp mp dp,.slice Bn mn dn,.slice Bc mc dc,.slice Bl ml dl,.int .i64 c.value.code,.int .i64 c.value.env,.slice Bq mq dq])).dw;rw[hwb]at kn;have sM:=H1.nd;have XR:=H1.lo;subst hF;refine ey 0 ?_;refine ey 1 ?_;refine ey 2 ?_;refine ey 3 ?_;refine ey 5 ?_;refine dG (rs:=[4,6]) dU dR (λi hi=>?_);simp only[aX,df,ce]at hi;rcases hi with rfl|rfl;all_goals refine dD gO (λK hK=>?_)
   ·go_simp;refine hK _ _ ⟨k3.dw.d10,?_⟩;refine iW ?_;refine fZ 6 ?_;intro K hK;go_simp;refine hK _ _ ⟨kb.d10,?_⟩;refine iW ?_;refine fZ 7 ?_;intro K hK;refine gL (A:=Ac) (n:=j) (c:=nd) (b:=w.heap.size+1) (m:=1) (xs:=h.cells.map Cel.toD) (F:=Fa) (d:=Cel.toD c) (F':=G) (te:=43) (cs:=[.int .i64 c.count,.int .i64 c.value.kind,.slice Bi mi di,.slice Bp mp dp,.slice Bn mn dn,.slice Bc mc dc,.slice Bl ml dl,.int .i64 c.value.code,.int .i64 c.value.env,.slice Bq mq dq]) Bg ?_ ?_ (.tmp 36) (.tmp 38) ?_ ?_ ?_ ?_ ?_ ?_ ?_ ?_ ?_ ?_ ?_
    ·kernel_rfl
    ·rfl
    ·rfl
    ·rfl
    ·exact em o1 x3
    ·rfl
    ·exact kn
    ·exact em Yr x3
    ·rfl
    ·exact uy
    ·exact g8
    ·omega
    intro gg gc w3 F3 Vq ap md;have Lg:=Blk.mod (g:=g) kg md (λhm=>(aQ.1 sM).1 eV);have tz:=Blk.mod (g:=w.heap.size) kb md (λhm=>by have:=H.lo w.heap.size eV;omega);have z3:=md.size;simp only[dW,dT]at z3;have hg3:g<w3.heap.size:=Lg.lt;have fz3:=Lg.frozen 0;obtain⟨h0,h1,h2,h3⟩:=Lg.c4;have S3:=tz.d10;refine hK _ _ ⟨S3,?_⟩;refine iW ?_;refine ey 8 ?_;refine ey 9 ?_;refine fZ 10 ?_;intro K hK;go_simp;have kb4:=Blk.pk (p:=⟨g,0,none⟩) (u:= .slice (some ⟨gg,0,none⟩) (j+1) gc) (by show g≠_;omega) tz;have U_:=Lg.set_ 0 (.slice (some ⟨gg,0,none⟩) (j+1) gc);obtain⟨h0',-,-,-⟩:=Blk.c4 (b:= .slice An nn na) (c:= .slice As ns nb) (d:= .int .i64 h.copies) U_;refine hK _ _ ⟨kb4.d10,?_⟩;refine iW ?_;refine bv dU ?_ _;refine ba ?_;clear h0 h1 h2 h3 S3;go_wp2_with fail;go_ret;rw[W6.out];have Ox:=(aQ.1 sM).1;have nF:=aE.1 (aQ.1 sM).2;have hF3:∀y∈F3,y∈Fa\/(y∈G/\y ∉ g::(Fa++(Fb++(Fs++[]))))\/y=w.heap.size+1+1:=λy hy=>uD;have XJ:g ∉ F3:=λhm=>uw;have hlF:∀y∈g::(Fa++(Fb++(Fs++[]))),y<w.heap.size:=H.lo;have PP:=ft (p:=⟨g,0,none⟩) (u:= .slice (some ⟨gg,0,none⟩) (j+1) gc) (fH (em o2 x3) md (λy hy hm=>nF.2.2 y hm y eK rfl)) (λhm=>Ox eV);have PQ:=ft (p:=⟨g,0,none⟩) (u:= .slice (some ⟨gg,0,none⟩) (j+1) gc) (fH (em o3 x3) md (λy hy hm=>nF.2.2 y hm y eK rfl)) (λhm=>Ox eV);refine⟨eZ dP,_,HB.shut (h:={h with cells:=h.cells++[c]}) U_ sw PP PQ wf ?_,λy hy=>?_,?_⟩
    ·exact uF
    ·exact uk
    ·exact ut
   ·go_simp;refine hK _ _ ⟨kb.d10,?_⟩;refine iW ?_;refine fZ 4 ?_;intro K hK;obtain⟨h0,-,-,-⟩:=kg.c4;go_simp;refine hK _ _ ⟨kb.d10,?_⟩;refine iW ?_;refine fZ 7 ?_;intro K hK;refine gL (A:=Ac) (n:=j) (c:=nd) (b:=w.heap.size+1) (m:=1) (xs:=h.cells.map Cel.toD) (F:=Fa) (d:=Cel.toD c) (F':=G) (te:=43) (cs:=[.int .i64 c.count,.int .i64 c.value.kind,.slice Bi mi di,.slice Bp mp dp,.slice Bn mn dn,.slice Bc mc dc,.slice Bl ml dl,.int .i64 c.value.code,.int .i64 c.value.env,.slice Bq mq dq]) Bg ?_ ?_ (.tmp 36) (.tmp 38) ?_ ?_ ?_ ?_ ?_ ?_ ?_ ?_ ?_ ?_ ?_
    ·kernel_rfl
    ·rfl
    ·rfl
    ·rfl
    ·exact em o1 x3
    ·rfl
    ·exact kn
    ·exact em Yr x3
    ·rfl
    ·exact uy
    ·exact g8
    ·omega
    intro gg gc w3 F3 Vq ap md;have Lg:=Blk.mod (g:=g) kg md (λhm=>(aQ.1 sM).1 eV);have tz:=Blk.mod (g:=w.heap.size) kb md (λhm=>by have:=H.lo w.heap.size eV;omega);have z3:=md.size;simp only[dW,dT]at z3;have hg3:g<w3.heap.size:=Lg.lt;have fz3:=Lg.frozen 0;obtain⟨h0,h1,h2,h3⟩:=Lg.c4;have S3:=tz.d10;refine hK _ _ ⟨S3,?_⟩;refine iW ?_;refine ey 8 ?_;refine ey 9 ?_;refine fZ 10 ?_;intro K hK;go_simp;have kb4:=Blk.pk (p:=⟨g,0,none⟩) (u:= .slice (some ⟨gg,0,none⟩) (j+1) gc) (by show g≠_;omega) tz;have U_:=Lg.set_ 0 (.slice (some ⟨gg,0,none⟩) (j+1) gc);obtain⟨h0',-,-,-⟩:=Blk.c4 (b:= .slice An nn na) (c:= .slice As ns nb) (d:= .int .i64 h.copies) U_;refine hK _ _ ⟨kb4.d10,?_⟩;refine iW ?_;refine bv dU ?_ _;refine ba ?_;clear h0 h1 h2 h3 S3;go_wp2_with fail;go_ret;rw[W6.out];have Ox:=(aQ.1 sM).1;have nF:=aE.1 (aQ.1 sM).2;have hF3:∀y∈F3,y∈Fa\/(y∈G/\y ∉ g::(Fa++(Fb++(Fs++[]))))\/y=w.heap.size+1+1:=λy hy=>uD;have XJ:g ∉ F3:=λhm=>uw;have hlF:∀y∈g::(Fa++(Fb++(Fs++[]))),y<w.heap.size:=H.lo;have PP:=ft (p:=⟨g,0,none⟩) (u:= .slice (some ⟨gg,0,none⟩) (j+1) gc) (fH (em o2 x3) md (λy hy hm=>nF.2.2 y hm y eK rfl)) (λhm=>Ox eV);have PQ:=ft (p:=⟨g,0,none⟩) (u:= .slice (some ⟨gg,0,none⟩) (j+1) gc) (fH (em o3 x3) md (λy hy hm=>nF.2.2 y hm y eK rfl)) (λhm=>Ox eV);refine⟨eZ dP,_,HB.shut (h:={h with cells:=h.cells++[c]}) U_ sw PP PQ wf ?_,λy hy=>?_,?_⟩
    ·exact uF
    ·exact uk
    ·exact ut
theorem Mem.inHB (H:HB w g h F):Mem prog w (g::F) w [.bx g h.toD 28]:=Gd
theorem Mem.outHB (M:Mem prog w (g::F) w' [.bx g h'.toD 28]):∃F',HB w' g h' F'/\Sub w.heap.size F F'/\Mod (g::F) w w':=Ga
theorem ES {α:Type}:∀{l:List α} {k:Nat} {x:α},l[k]?=some x->l.set k x=l
 |[],_,_,h=>by simp at h
 |a::t,0,x,h=>by simp at h;subst h;rfl
 |a::t,k+1,x,h=>by simp at h;rw[be,ES h]
theorem Mem.cntAt {l:List Cel} {x:Cel} (M:Mem prog w0 X w (.ow (.sl (l.map Cel.toD)) 24 [.slice (some ⟨g,0,none⟩) n c]::R)) (hk:l[k]?=some x):w.cell? ⟨g,k*10,none⟩=some (.int .i64 x.count):=by
 have hr:=M.rp 0 rfl;have hl:=(ef hr).1;rw[au]at hl;have WA:k<n:=sa;obtain⟨b,off,y,_,_,_,_,_,_,_,_,_,_,_,_,_,_,_,_,_,_,e,-,hy,-,h0,-⟩:=lm hr WA;injection e with e;injection e with e1 e2;subst e1 e2;have:=hy.symm.trans hk;injection this with this;subst this
 rwa [bI]at h0
theorem Mem.takeCall {f:Nat} {args:Array Value} {Ψ:Ending->World->Prop} {v:Value} {c:Cel} {cc:List Value} (M:Mem prog w0 X w (.bx g h.toD 28:: .ow c.toD 43 cc::R))
 (hc:∀F Fc,HB w g h F->own prog w c.toD 43 Fc cc->(∀y∈Fc,y ∉ g::F)->Fc.Nodup->Calls prog f args w λe w'=>e= .returned v/\∃F',HB w' g h' F'/\(∀y∈F',y∈F\/y∈Fc\/w.heap.size<=y)/\Mod (g::F) w w')
 (hK:∀w',Mem prog w0 X w' (.bx g h'.toD 28::R)->Ψ (.returned v) w'):Calls prog f args w Ψ:=by
 obtain⟨FF,s1,n1,agm⟩:=Mem.split [_,_] M;obtain⟨G,Fc,rfl,⟨cs,F,rfl,kB,o⟩,s2⟩:=fJ.1 s1;have oc:=iQ.1 s2;obtain⟨m1,m2,m3⟩:=aE.1 n1;refine(hc F Fc ⟨cs,kB,o,m1⟩ oc (λy hy hm=>m3 y hm y hy rfl) m2).mono ?_;rintro e w' ⟨rfl,F',⟨cs',IG,o',nd'⟩,ahU,Pu⟩;refine hK w' (agm w' [_] (g::F') (iQ.2 ⟨cs',F',rfl,IG,o'⟩) nd' (λy hy=>?_) (Pu.mono λy hy=>aG.2 (.inl hy)));rcases aX.1 hy with rfl|hy
 ·exact .inl (aG.2 (.inl dR))
 ·rcases ahU y hy with h1|h1|h1
  ·exact .inl (aG.2 (.inl kw))
  ·exact .inl (aG.2 (.inr h1))
  ·exact .inr h1
def vD (f:Nat):Prop:=∀(h:Hp) (k:Int) (g:Nat) (F:List Nat) (w:World),HB w g h F->relOK f h k->Calls prog 58 #[.pointer (some ⟨g,0,none⟩),k] w λe w'=>e= .returned (.tuple #[])/\∃F',HB w' g (iD f h k) F'/\Sub w.heap.size F F'/\Mod (g::F) w w'
theorem IH (f:Nat) (ih:vD f):vD (f+1):=by
 intro h k g F w H hok;rw[relOK]at hok;obtain⟨hin,xe,zN⟩:=hok;obtain⟨i,x,rfl,hil,hx,ld⟩:=kU hin;rw[ld]at xe zN;rw[aU]at zN;have hrd:iD (f+1) h (i:Int)=if 0<x.count - 1 then eG h i (KP x) else x.parts.foldl (iD f) (eG h i lf):=by rw[iD,ld,aU]
 obtain⟨bc,nc,nd,An,nn,na,As,ns,nb,Fx,cx,pre,post,kB,hl,hm,ox,Ix,Zw,hp,hB,Po,qo,ZK,Zz,Lb⟩:=H.cell_ hx;obtain⟨Ei,ui,vi,Ep,up,vp,En,un,vn,Ec,uc,vc,El,ul,vl,Ez,uq,vq,G1,G2,G3,G4,G5,G6,rfl,hFx,q1,q2,q3,q4,q5,q6⟩:=jp ox;obtain⟨e0,e1,e2,e3,e4,e5,e6,e7,e8,e9⟩:=hB.e10 hp;obtain⟨f0,f1,f2,f3,f4,f5,f6,f7,f8,f9⟩:=hB.fr10 (m:=i*10);have hlq:=ef (eW _ _ _ _ q6);rw[au]at hlq;obtain⟨Ww,hb1⟩:=xe;have hlt:(i:Int)<(nc:Int):=dP;have i0:(0:Int)<=(i:Int):=dP;have JA:=H.lt;have hbs:bc<w.heap.size:=H.lo bc (aP _ Po);have HRD:=aa hrd;have xo:=aa ih;have HX:=aa hx;obtain⟨g0,g1,g2,g3⟩:=kB.c4;have HLQ:=aa hlq;have huq:(uq:Int)<=9223372036854775807:=by have:=hlq.2.2;unfold maxLen at this;omega
 have HL:=aa hl;clear hin ld hrd ih hx hlq hl hil q1 q2 q3 q4 q5;by_cases hpos:0<x.count - 1
 ·have HP:=aa hpos;have d1:decide (0<x.count - 1)=true:=by simpa using hpos
  go_enter func58,ntmps58;go_wp2_with fail;go_still_tail 16,dU;go_wp2_with fail;refine bM (v:= .tuple #[]) (by simp [results,results58,go_sem]) rfl ?_;rw[HRD.out,aN HP.out];have md:Mod (bc::Fx) w (w.setCell ⟨bc,i*10,none⟩ (.int .i64 (x.count - 1))).drew:=Mod.mono (F:=[bc]) (gU (Mod.poke (F:=[bc]) dR _) (Below.refl _ _).drew) dR;obtain⟨F',HF,xR⟩:=Lb _ (KP x) [.int .i64 (x.count - 1),x.value.kind,.slice Ei ui vi,.slice Ep up vp,.slice En un vn,.slice Ec uc vc,.slice El ul vl,x.value.code,x.value.env,.slice Ez uq vq] Fx rfl (fH (F:=[bc]) (Dm ox (kP.2 fP)) (gU (Mod.poke (F:=[bc]) dR _) (Below.refl _ _).drew) (λy hy hm=>qo (by simp at hm;subst hm;exact hy))) Ix (λy hy=> .inl hy) (Blk.put_ hB hp (j:=0) dR gO _).dw md;exact⟨rfl,F',HF,xR.sub (λy hy=> .inl (ZK y hy)),md.mono (λy hy=>aP _ se)⟩
 ·have DO:allOK (relOK f) (iD f) (eG h i lf) x.parts:=by rcases zN with h1|h1;exact absurd h1 hpos;exact h1
  have OR:=aa DO;have HP:=aa hpos;have d1:decide (0<x.count - 1)=false:=by simpa using hpos
  clear zN DO;go_enter func58,ntmps58;go_wp2_with fail;go_still_tail 16,dU;go_wp2_with fail;have Vi:Mod [bc] w (((((((((((w.setCell ⟨bc,i*10,none⟩ (.int .i64 (x.count - 1))).setCell ⟨bc,i*10,none⟩ (.int .i64 0)).setCell ⟨bc,i*10+1,none⟩ (.int .i64 0)).setCell ⟨bc,i*10+2,none⟩ (.slice none 0 0)).setCell ⟨bc,i*10+3,none⟩ (.slice none 0 0)).setCell ⟨bc,i*10+4,none⟩ (.slice none 0 0)).setCell ⟨bc,i*10+5,none⟩ (.slice none 0 0)).setCell ⟨bc,i*10+6,none⟩ (.slice none 0 0)).setCell ⟨bc,i*10+7,none⟩ (.int .i64 0)).setCell ⟨bc,i*10+8,none⟩ (.int .i64 0)).setCell ⟨bc,i*10+9,none⟩ (.slice none 0 0)).drew:=gU (iV (Mod.poke (F:=[bc]) dR _) (Q3 dR) (λ_ h=>h)) (Below.refl _ _).drew;have md:Mod (bc::Fx) w (((((((((((w.setCell ⟨bc,i*10,none⟩ (.int .i64 (x.count - 1))).setCell ⟨bc,i*10,none⟩ (.int .i64 0)).setCell ⟨bc,i*10+1,none⟩ (.int .i64 0)).setCell ⟨bc,i*10+2,none⟩ (.slice none 0 0)).setCell ⟨bc,i*10+3,none⟩ (.slice none 0 0)).setCell ⟨bc,i*10+4,none⟩ (.slice none 0 0)).setCell ⟨bc,i*10+5,none⟩ (.slice none 0 0)).setCell ⟨bc,i*10+6,none⟩ (.slice none 0 0)).setCell ⟨bc,i*10+7,none⟩ (.int .i64 0)).setCell ⟨bc,i*10+8,none⟩ (.int .i64 0)).setCell ⟨bc,i*10+9,none⟩ (.slice none 0 0)).drew:=Vi.mono dR;have hG6:∀y∈G6,y∈Fx:=λy hy=>by rw[hFx];simp [hy]
  have q6':=fH q6 Vi (λy hy hm=>qo (by simp at hm;subst hm;exact hG6 _ hy));obtain⟨F2,H2,TA⟩:=Lb _ lf [.int .i64 0,.int .i64 0,(),(),(),(),(),.int .i64 0,.int .i64 0,()] [] rfl (JY _) List.nodup_nil (λy hy=>by simp at hy) (Blk.put10 (Blk.put_ hB hp (j:=0) (o:=i*10) dR gO _) hp).dw md;have Bw:∀y∈G6,y ∉ g::F2:=λy hy hm=>GW;have aht:∀y∈G6,y<w.heap.size:=gC q6;obtain⟨W,hW⟩:∃W,W=(((((((((((w.setCell ⟨bc,i*10,none⟩ (.int .i64 (x.count - 1))).setCell ⟨bc,i*10,none⟩ (.int .i64 0)).setCell ⟨bc,i*10+1,none⟩ (.int .i64 0)).setCell ⟨bc,i*10+2,none⟩ (.slice none 0 0)).setCell ⟨bc,i*10+3,none⟩ (.slice none 0 0)).setCell ⟨bc,i*10+4,none⟩ (.slice none 0 0)).setCell ⟨bc,i*10+5,none⟩ (.slice none 0 0)).setCell ⟨bc,i*10+6,none⟩ (.slice none 0 0)).setCell ⟨bc,i*10+7,none⟩ (.int .i64 0)).setCell ⟨bc,i*10+8,none⟩ (.int .i64 0)).setCell ⟨bc,i*10+9,none⟩ (.slice none 0 0)).drew:=⟨_,rfl⟩;have zW:W.heap.size=w.heap.size:=by rw[hW];simp only[dX,dW]
  rw[<-hW]at md q6' H2 ⊢;clear hW Vi g0 g1 g2 g3 e0 e1 e2 e3 e4 e5 e6 e7 e8 e9 f0 f1 f2 f3 f4 f5 f6 f7 f8 f9 kB hB;go_loopw [5] (λv wr=>∃(j:Nat) (F':List Nat),j<=uq/\v= .int .i64 j/\HB wr g ((x.parts.take j).foldl (iD f) (eG h i lf)) F'/\Sub W.heap.size F2 F'/\Mod (g::F2) W wr) (λv _=>uq - (intOf v).toNat)
  case atStart=>exact⟨0,F2,by omega,rfl,H2,Sub.refl,Mod.refl⟩
  case round=>
   obtain⟨j,F',hj,rfl,Hj,sj,mj⟩:=hrel;by_cases hlj:j<uq
   ·obtain⟨A',n',c',he,-,-,hr,-⟩:=(qy _ _ _ _).1 (eW _ _ _ _ (fH q6' mj Bw));injection he with he;injection he with f1 f2 f3;subst f1 f2 f3
    obtain⟨b,off,y,rfl,gD,hy,xO⟩:=hr.atI hlj;have HY:=aa hy;clear hy hr;go_wp2_with fail;refine(xo.out _ y g F' wr Hj (qR OR.out HY.out)).mono ?_;rintro e w3 ⟨rfl,F3,H3,s3,m3⟩;go_wp2_with fail;go_roundw
    case rel=>exact⟨j+1,F3,by omega,by go_num,by rw[rT HY.out];exact H3,sj.trans s3 mj.size,nO mj m3 (kj sj) (af _)⟩
    case measure=>simp [intOf];omega
   ·obtain rfl:j=uq:=dP;go_wp2_with fail;refine bodyPost_end (v:= .tuple #[]) (by simp [results,results58,go_sem]) rfl ?_;rw[aC (by rw[HLQ.out.1];exact af _)]at Hj;rw[HRD.out,aH (by have:=HP.out;omega)];have s2:Sub w.heap.size F F2:=TA.sub (λy hy=>by simp at hy);exact⟨rfl,F',Hj,s2.trans sj dP,nO (md.mono (λy hy=>aP _ se)) mj (kj s2) dP⟩
end Go.Proofs.YtekcpadlmfaihaaGreat
