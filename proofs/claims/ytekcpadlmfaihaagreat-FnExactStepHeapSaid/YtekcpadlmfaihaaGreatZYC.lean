/- Small functions over vectors: fits, tidyNames and their like. -/
import Derived.Test.YtekcpadlmfaihaaGreatZR
import Derived.Test.YtekcpadlmfaihaaGreatZM
import Derived.Test.YtekcpadlmfaihaaGreatZG
import Derived.Test.YtekcpadlmfaihaaGreatZD
import Derived.Test.YtekcpadlmfaihaaGreatZMB
import Derived.Test.YtekcpadlmfaihaaGreatZY
import Derived.Test.YtekcpadlmfaihaaGreatZMA
namespace Go.Proofs.YtekcpadlmfaihaaGreat
open Go.RowKit Proofs.Tryz
set_option maxHeartbeats 8000000
set_option maxRecDepth 100000
set_option linter.unusedSimpArgs false
set_option linter.unusedVariables false
variable {x:Cel} {d:D} {h:Hp} {y:Int} {R:List As} {X:List Nat} {l:List Str} {cs:List Value} {c g i m n:Nat} {P:Program} {p:Str} {α:Type} {e t:TypeId} {v:Vec} {w w0:World}
def zV8:List Value:=[.int .i64 0,.slice none 0 0,.slice none 0 0,.slice none 0 0,.slice none 0 0,.slice none 0 0,.int .i64 0,.int .i64 0]
def E_:Str:=[114,101,115,117,108,116,32,105,115,32,116,111,111,32,108,97,114,103,101]
theorem Ue (v:Vec) (cs:List Value) (w:World) (h:rep w w.heap.size v.toD cs) (ga:bigV v):
 Calls prog 161 #[.agg cs.toArray] w λe w'=>e= .returned (.tuple #[.agg (if isVec v=true then cs else zV8).toArray,sv (if isVec v=true then[] else E_)])/\Below w.heap.size w w':=by
 have h0:=h;obtain⟨Ai,ni,ci,Ap,np,cp,An,nn,cn,Ac,nc,cc,Al,nl,cl,rfl,wk,ri,rp,rn,rc,rl,wc,we⟩:=fw h;have q0:Below w.heap.size w ((w.alloc (.cells #[v.kind,.slice Ai ni ci,.slice Ap np cp,.slice An nn cn,.slice Ac nc cc,.slice Al nl cl,v.code,v.env] 38)).alloc (.cells #[.int .i64 0,(),(),(),(),(),.int .i64 0,.int .i64 0] 38)):=((Below.refl _ _).alloc (af _) _).alloc dR _;have k1:Blk ((w.alloc (.cells #[v.kind,.slice Ai ni ci,.slice Ap np cp,.slice An nn cn,.slice Ac nc cc,.slice Al nl cl,v.code,v.env] 38)).alloc (.cells #[.int .i64 0,(),(),(),(),(),.int .i64 0,.int .i64 0] 38)) w.heap.size 38 [v.kind,.slice Ai ni ci,.slice Ap np cp,.slice An nn cn,.slice Ac nc cc,.slice Al nl cl,v.code,v.env]:=(Blk.new' (l:=[.int .i64 v.kind,.slice Ai ni ci,.slice Ap np cp,.slice An nn cn,.slice Ac nc cc,.slice Al nl cl,.int .i64 v.code,.int .i64 v.env])).al;have k2:Blk ((w.alloc (.cells #[v.kind,.slice Ai ni ci,.slice Ap np cp,.slice An nn cn,.slice Ac nc cc,.slice Al nl cl,v.code,v.env] 38)).alloc (.cells #[.int .i64 0,(),(),(),(),(),.int .i64 0,.int .i64 0] 38)) (w.heap.size+1) 38 [.int .i64 0,(),(),(),(),(),.int .i64 0,.int .i64 0]:=ya;have Xw:=ff v _ _ (fb h0 q0 q0.size) ga;cases hv:isVec v with
 |true=>
  rw[hv]at Xw;go_enter func161,ntmps161;go_wp2_with fail;refine Xw.mono ?_;rintro e w1 ⟨rfl,hb1⟩;have D6:=k1.next hb1;have D8:=k2.next hb1;obtain⟨a0,a1,a2,a3,a4,a5,a6,a7⟩:=D6.c8;obtain⟨r0,r1,r2,r3,r4,r5,r6,r7⟩:=D8.c8;have zr:=λi=>D8.frozen i
  have Tq:=zr 0;have zr1:=zr 1;have zr2:=zr 2;have zr3:=zr 3;have zr4:=zr 4;have zr5:=zr 5;have zr6:=zr 6;have zr7:=zr 7;have XB:w.heap.size<w1.heap.size:=D6.lt;have Cz:w.heap.size+1<w1.heap.size:=D8.lt;have fz1:=D6.frozen 3;clear zr;go_wp2_with fail;refine bM (v:= .tuple #[.agg #[v.kind,.slice Ai ni ci,.slice Ap np cp,.slice An nn cn,.slice Ac nc cc,.slice Al nl cl,v.code,v.env],sv []]) (by simp [results,results161,go_sem,r0,r1,r2,r3,r4,r5,r6,r7,Cz]) rfl ⟨rfl,?_⟩
  (repeat'(first|with_reducible assumption|with_reducible exact Below.refl _ _|with_reducible refine jR ?_|with_reducible refine gT ?_ ?_|with_reducible refine ie ?_ ?_|with_reducible refine gR ?_ dY ?_|((try simp only[dW,dT,dX]);omega)))
 |false=>
  rw[hv]at Xw;go_enter func161,ntmps161;go_wp2_with fail;refine Xw.mono ?_;rintro e w1 ⟨rfl,hb1⟩;have D6:=k1.next hb1;have D8:=k2.next hb1;obtain⟨a0,a1,a2,a3,a4,a5,a6,a7⟩:=D6.c8;obtain⟨r0,r1,r2,r3,r4,r5,r6,r7⟩:=D8.c8;have zr:=λi=>D8.frozen i
  have Tq:=zr 0;have zr1:=zr 1;have zr2:=zr 2;have zr3:=zr 3;have zr4:=zr 4;have zr5:=zr 5;have zr6:=zr 6;have zr7:=zr 7;have XB:w.heap.size<w1.heap.size:=D6.lt;have Cz:w.heap.size+1<w1.heap.size:=D8.lt;have fz1:=D6.frozen 3;clear zr;go_wp2_with fail;refine bM (v:= .tuple #[.agg #[.int .i64 0,(),(),(),(),(),.int .i64 0,.int .i64 0],sv E_]) (by simp [results,results161,go_sem,r0,r1,r2,r3,r4,r5,r6,r7,Cz];try rfl) rfl ⟨rfl,?_⟩
  (repeat'(first|with_reducible assumption|with_reducible exact Below.refl _ _|with_reducible refine jR ?_|with_reducible refine gT ?_ ?_|with_reducible refine ie ?_ ?_|with_reducible refine gR ?_ dY ?_|((try simp only[dW,dT,dX]);omega)))
theorem SJ (v:Vec) (cs:List Value) (w:World) (h:rep w w.heap.size v.toD cs) (ga:bigV v):
 Calls prog 124 #[.agg cs.toArray] w λe w'=>e= .returned (.tuple #[.agg (if isVec v=true then cs else zV8).toArray,sv (if isVec v=true then[] else E_)])/\Below w.heap.size w w':=by
 have h0:=h;obtain⟨Ai,ni,ci,Ap,np,cp,An,nn,cn,Ac,nc,cc,Al,nl,cl,rfl,wk,ri,rp,rn,rc,rl,wc,we⟩:=fw h;have q0:Below w.heap.size w ((w.alloc (.cells #[v.kind,.slice Ai ni ci,.slice Ap np cp,.slice An nn cn,.slice Ac nc cc,.slice Al nl cl,v.code,v.env] 38)).alloc (.cells #[.int .i64 0,(),(),(),(),(),.int .i64 0,.int .i64 0] 38)):=((Below.refl _ _).alloc (af _) _).alloc dR _;have k1:Blk ((w.alloc (.cells #[v.kind,.slice Ai ni ci,.slice Ap np cp,.slice An nn cn,.slice Ac nc cc,.slice Al nl cl,v.code,v.env] 38)).alloc (.cells #[.int .i64 0,(),(),(),(),(),.int .i64 0,.int .i64 0] 38)) w.heap.size 38 [v.kind,.slice Ai ni ci,.slice Ap np cp,.slice An nn cn,.slice Ac nc cc,.slice Al nl cl,v.code,v.env]:=(Blk.new' (l:=[.int .i64 v.kind,.slice Ai ni ci,.slice Ap np cp,.slice An nn cn,.slice Ac nc cc,.slice Al nl cl,.int .i64 v.code,.int .i64 v.env])).al;have k2:Blk ((w.alloc (.cells #[v.kind,.slice Ai ni ci,.slice Ap np cp,.slice An nn cn,.slice Ac nc cc,.slice Al nl cl,v.code,v.env] 38)).alloc (.cells #[.int .i64 0,(),(),(),(),(),.int .i64 0,.int .i64 0] 38)) (w.heap.size+1) 38 [.int .i64 0,(),(),(),(),(),.int .i64 0,.int .i64 0]:=ya;have Xw:=ew v _ _ (fb h0 q0 q0.size) ga;cases hv:isVec v with
 |true=>
  rw[hv]at Xw;go_enter func124,ntmps124;go_wp2_with fail;refine Xw.mono ?_;rintro e w1 ⟨rfl,hb1⟩;have D6:=k1.next hb1;have D8:=k2.next hb1;obtain⟨a0,a1,a2,a3,a4,a5,a6,a7⟩:=D6.c8;obtain⟨r0,r1,r2,r3,r4,r5,r6,r7⟩:=D8.c8;have zr:=λi=>D8.frozen i
  have Tq:=zr 0;have zr1:=zr 1;have zr2:=zr 2;have zr3:=zr 3;have zr4:=zr 4;have zr5:=zr 5;have zr6:=zr 6;have zr7:=zr 7;have XB:w.heap.size<w1.heap.size:=D6.lt;have Cz:w.heap.size+1<w1.heap.size:=D8.lt;have fz1:=D6.frozen 3;clear zr;go_wp2_with fail;refine bM (v:= .tuple #[.agg #[v.kind,.slice Ai ni ci,.slice Ap np cp,.slice An nn cn,.slice Ac nc cc,.slice Al nl cl,v.code,v.env],sv []]) (by simp [results,results124,go_sem,r0,r1,r2,r3,r4,r5,r6,r7,Cz]) rfl ⟨rfl,?_⟩
  (repeat'(first|with_reducible assumption|with_reducible exact Below.refl _ _|with_reducible refine jR ?_|with_reducible refine gT ?_ ?_|with_reducible refine ie ?_ ?_|with_reducible refine gR ?_ dY ?_|((try simp only[dW,dT,dX]);omega)))
 |false=>
  rw[hv]at Xw;go_enter func124,ntmps124;go_wp2_with fail;refine Xw.mono ?_;rintro e w1 ⟨rfl,hb1⟩;have D6:=k1.next hb1;have D8:=k2.next hb1;obtain⟨a0,a1,a2,a3,a4,a5,a6,a7⟩:=D6.c8;obtain⟨r0,r1,r2,r3,r4,r5,r6,r7⟩:=D8.c8;have zr:=λi=>D8.frozen i
  have Tq:=zr 0;have zr1:=zr 1;have zr2:=zr 2;have zr3:=zr 3;have zr4:=zr 4;have zr5:=zr 5;have zr6:=zr 6;have zr7:=zr 7;have XB:w.heap.size<w1.heap.size:=D6.lt;have Cz:w.heap.size+1<w1.heap.size:=D8.lt;have fz1:=D6.frozen 3;clear zr;go_wp2_with fail;refine bM (v:= .tuple #[.agg #[.int .i64 0,(),(),(),(),(),.int .i64 0,.int .i64 0],sv E_]) (by simp [results,results124,go_sem,r0,r1,r2,r3,r4,r5,r6,r7,Cz];try rfl) rfl ⟨rfl,?_⟩
  (repeat'(first|with_reducible assumption|with_reducible exact Below.refl _ _|with_reducible refine jR ?_|with_reducible refine gT ?_ ?_|with_reducible refine ie ?_ ?_|with_reducible refine gR ?_ dY ?_|((try simp only[dW,dT,dX]);omega)))
theorem Lk (k:Int) (w:World):Calls prog 159 #[k] w λe w'=>e= .returned (.int .i64 (if k=5 then 4 else k))/\w=w':=by
 by_cases hk:k=5
 ·have d0:(k==5)=true:=by simp [hk]
  have HK:=aa hk;clear hk;go_enter func159,ntmps159;go_wp2_with fail;go_ret;exact⟨eZ (by first|rfl|rw[aN HK.out]),rfl⟩
 ·have d0:(k==5)=false:=by simp [hk]
  have HK:=aa hk;clear hk;go_enter func159,ntmps159;go_wp2_with fail;go_ret;exact⟨eZ (by first|rfl|rw[aH HK.out]),rfl⟩
theorem I7 (v:Vec) (Ai:Option Addr) (ni ci:Nat) (Ap:Option Addr) (np cp:Nat) (An:Option Addr) (nn cn:Nat) (Ac:Option Addr) (nc cc:Nat) (Al:Option Addr) (nl cl:Nat) (w:World) (h:rep w w.heap.size v.toD [v.kind,.slice Ai ni ci,.slice Ap np cp,.slice An nn cn,.slice Ac nc cc,.slice Al nl cl,v.code,v.env]):
 Calls prog 154 #[.agg #[v.kind,.slice Ai ni ci,.slice Ap np cp,.slice An nn cn,.slice Ac nc cc,.slice Al nl cl,v.code,v.env]] w λe w'=>e= .returned (.agg (if lR v.names=true then #[v.kind,.slice Ai ni ci,.slice Ap np cp,(),.slice Ac nc cc,.slice Al nl cl,v.code,v.env] else #[v.kind,.slice Ai ni ci,.slice Ap np cp,.slice An nn cn,.slice Ac nc cc,.slice Al nl cl,v.code,v.env]))/\Below w.heap.size w w':=by
 have h0:=h;obtain⟨Ru,SN,RP,Rx,SP,RS,Ct,CE,Hw,L4,JS,L7,Rv,SO,Mz,lK,wk,ri,rp,rn,rc,rl,wc,we⟩:=fw h;simp only[bF,bG,dy,cO]at lK;obtain⟨⟨rfl,rfl,rfl⟩,⟨rfl,rfl,rfl⟩,⟨rfl,rfl,rfl⟩,⟨rfl,rfl,rfl⟩,rfl,rfl,rfl⟩:=lK;have q0:Below w.heap.size w ((w.alloc (.cells #[v.kind,.slice Ai ni ci,.slice Ap np cp,.slice An nn cn,.slice Ac nc cc,.slice Al nl cl,v.code,v.env] 38)).alloc (.cells #[.int .i64 0,(),(),(),(),(),.int .i64 0,.int .i64 0] 38)):=((Below.refl _ _).alloc (af _) _).alloc dR _;have k1:Blk ((w.alloc (.cells #[v.kind,.slice Ai ni ci,.slice Ap np cp,.slice An nn cn,.slice Ac nc cc,.slice Al nl cl,v.code,v.env] 38)).alloc (.cells #[.int .i64 0,(),(),(),(),(),.int .i64 0,.int .i64 0] 38)) w.heap.size 38 [v.kind,.slice Ai ni ci,.slice Ap np cp,.slice An nn cn,.slice Ac nc cc,.slice Al nl cl,v.code,v.env]:=(Blk.new' (l:=[.int .i64 v.kind,.slice Ai ni ci,.slice Ap np cp,.slice An nn cn,.slice Ac nc cc,.slice Al nl cl,.int .i64 v.code,.int .i64 v.env])).al;have k2:Blk ((w.alloc (.cells #[v.kind,.slice Ai ni ci,.slice Ap np cp,.slice An nn cn,.slice Ac nc cc,.slice Al nl cl,v.code,v.env] 38)).alloc (.cells #[.int .i64 0,(),(),(),(),(),.int .i64 0,.int .i64 0] 38)) (w.heap.size+1) 38 [.int .i64 0,(),(),(),(),(),.int .i64 0,.int .i64 0]:=ya;obtain⟨An1,nn1,cn1,he,Nh,hnm,Nj,-⟩:=(ls _ _ _ _).1 (fb rn q0 q0.size);injection he with he;injection he with f1 f2 f3;subst f1 f2 f3
 have hAE:=za An nn cn v.names _ Nj dP;cases hv:lR v.names with
 |true=>
  rw[hv]at hAE;go_enter func154,ntmps154;go_wp2_with fail;refine hAE.mono ?_;rintro e w1 ⟨rfl,hb1⟩;have D6:=k1.next hb1;have D8:=k2.next hb1;obtain⟨a0,a1,a2,a3,a4,a5,a6,a7⟩:=D6.c8;obtain⟨r0,r1,r2,r3,r4,r5,r6,r7⟩:=D8.c8;have zr:=λi=>D8.frozen i
  have Tq:=zr 0;have zr1:=zr 1;have zr2:=zr 2;have zr3:=zr 3;have zr4:=zr 4;have zr5:=zr 5;have zr6:=zr 6;have zr7:=zr 7;have XB:w.heap.size<w1.heap.size:=D6.lt;have Cz:w.heap.size+1<w1.heap.size:=D8.lt;have fz1:=D6.frozen 3;clear zr;go_wp2_with fail;refine bM (v:= .agg #[v.kind,.slice Ai ni ci,.slice Ap np cp,(),.slice Ac nc cc,.slice Al nl cl,v.code,v.env]) BT rfl ⟨rfl,?_⟩
  (repeat'(first|with_reducible assumption|with_reducible exact Below.refl _ _|with_reducible refine jR ?_|with_reducible refine gT ?_ ?_|with_reducible refine ie ?_ ?_|with_reducible refine gR ?_ dY ?_|((try simp only[dW,dT,dX]);omega)))
 |false=>
  rw[hv]at hAE;go_enter func154,ntmps154;go_wp2_with fail;refine hAE.mono ?_;rintro e w1 ⟨rfl,hb1⟩;have D6:=k1.next hb1;have D8:=k2.next hb1;obtain⟨a0,a1,a2,a3,a4,a5,a6,a7⟩:=D6.c8;obtain⟨r0,r1,r2,r3,r4,r5,r6,r7⟩:=D8.c8;have zr:=λi=>D8.frozen i
  have Tq:=zr 0;have zr1:=zr 1;have zr2:=zr 2;have zr3:=zr 3;have zr4:=zr 4;have zr5:=zr 5;have zr6:=zr 6;have zr7:=zr 7;have XB:w.heap.size<w1.heap.size:=D6.lt;have Cz:w.heap.size+1<w1.heap.size:=D8.lt;have fz1:=D6.frozen 3;clear zr;go_wp2_with fail;refine bM (v:= .agg #[v.kind,.slice Ai ni ci,.slice Ap np cp,.slice An nn cn,.slice Ac nc cc,.slice Al nl cl,v.code,v.env]) BT rfl ⟨rfl,?_⟩
  (repeat'(first|with_reducible assumption|with_reducible exact Below.refl _ _|with_reducible refine jR ?_|with_reducible refine gT ?_ ?_|with_reducible refine ie ?_ ?_|with_reducible refine gR ?_ dY ?_|((try simp only[dW,dT,dX]);omega)))
theorem sK (x:Int) (h1:1<=x) (h2:x<=40) (w:World):Calls prog 111 #[x,.int .i64 1] w λe w'=>e= .returned (Me ⟨x,1,[]⟩)/\Below w.heap.size w w':=by
 have hg:Nat.gcd x.natAbs (1:Int).natAbs=1:=dR;have d1:decide (x< -4000000000000000000)=false:=dS;have d2:decide (4000000000000000000<x)=false:=dS;have HG:=aa hg;clear hg;have kR:Blk (w.alloc (.cells #[.int .i64 0,.int .i64 0,sv []] 135)) w.heap.size 135 [.int .i64 0,.int .i64 0,sv []]:=Blk.new' (l:=[.int .i64 0,.int .i64 0,sv []]);go_enter func111,ntmps111;go_wp2_with fail;refine(QL x 1 _ dP dP dP dP).mono ?_;rintro e w1 ⟨rfl,hb1⟩;rw[HG.out];obtain⟨hc1,hf1⟩:=fY hb1;have z1:=hb1.size;(try simp only[dW,dT,dX]at hc1 hf1 z1);have y1:w.heap.size<w1.heap.size:=dP;have hn:nZ ⟨x,1,[]⟩=true:=by simp [nZ];omega
 have HN:=aa hn;clear hn;go_wp2_with fail;refine bu ?_;refine aW (S:=λ_=>True) dU bO (λhH=>?_);have SX:True:=bO;refine ey 0 ?_;refine ey 1 ?_;refine ey 2 ?_;refine ey 3 ?_;refine ey 4 ?_;refine ey 5 ?_;refine ey 6 ?_;refine fZ 7 ?_;intro K hK;go_simp;refine hK _ _ ⟨bO,?_⟩;refine iW ?_;refine fZ 8 ?_;intro K hK;go_simp;refine hK _ _ ⟨bO,?_⟩;refine iW ?_;refine bv dU ?_ _;refine ba ?_;go_wp2_with fail;refine(pA ⟨x,1,[]⟩ _).mono ?_;rw[HN.out];rintro e w2 ⟨rfl,jS⟩;obtain⟨hc2,hf2⟩:=fY jS;have z2:=jS.size;(try simp only[dW,dT,dX]at hc2 hf2 z2);have y2:w.heap.size<w2.heap.size:=dP;have y3:w1.heap.size<w2.heap.size:=dP;have y4:w.heap.size<w1.heap.size+1:=dP;obtain⟨r0,r1,r2⟩:=Blk.c3 (Blk.next (Blk.dw (Blk.al (kR.next hb1))) jS);go_wp2_with fail;refine bM (v:=Me ⟨x,1,[]⟩) (by simp [results,results111,go_sem,r0,r1,r2,y1,y2,y3]) rfl ⟨rfl,?_⟩
 (repeat'(first|with_reducible assumption|with_reducible exact Below.refl _ _|with_reducible refine jR ?_|with_reducible refine gT ?_ ?_|with_reducible refine ie ?_ ?_|with_reducible refine gR ?_ dY ?_|((try simp only[dW,dT,dX]);omega)))
theorem xD (x:Int) (h1:1<=x) (h2:x<=40) (w:World):Calls prog 126 #[x,.int .i64 1] w λe w'=>e= .returned (Me ⟨x,1,[]⟩)/\Below w.heap.size w w':=by
 have hg:Nat.gcd x.natAbs (1:Int).natAbs=1:=dR;have d1:decide (-4000000000000000000<=x/\x<=4000000000000000000)=true:=dS;have d3:decide (-999999999<=x/\x<=999999999)=true:=dS;have d4:decide ((-4000000000000000000:Int)<=1/\(1:Int)<=4000000000000000000)=true:=dR;have HG:=aa hg;have D1:=aa d1;have D3:=aa d3;clear hg d1 d3;have kR:Blk (w.alloc (.cells #[.int .i64 0,.int .i64 0,sv []] 135)) w.heap.size 135 [.int .i64 0,.int .i64 0,sv []]:=Blk.new' (l:=[.int .i64 0,.int .i64 0,sv []]);go_enter func126,ntmps126;go_wp2_with fail;refine(gj _ _ _ _).mono ?_;rw[D1.out];rintro e w1 ⟨rfl,rfl⟩;go_wp2_with fail;refine(gj _ _ _ _).mono ?_;rw[d4];rintro e w1 ⟨rfl,rfl⟩;go_wp2_with fail;refine(JM x 1 _ dP dP dP dP).mono ?_;rintro e w1 ⟨rfl,hb1⟩;rw[HG.out];obtain⟨hc1,hf1⟩:=fY hb1;have z1:=hb1.size;(try simp only[dW,dT,dX]at hc1 hf1 z1);have y1:w.heap.size<w1.heap.size:=dP;go_wp2_with fail;refine bu ?_;refine aW (S:=λ_=>True) dU bO (λhH=>?_);have SX:True:=bO;refine ey 0 ?_;refine ey 1 ?_;refine ey 2 ?_;refine ey 3 ?_;refine ey 4 ?_;refine ey 5 ?_;refine ey 6 ?_;refine fZ 7 ?_;intro K hK;go_simp;refine hK _ _ ⟨bO,?_⟩;refine iW ?_;refine fZ 8 ?_;intro K hK;go_simp;refine hK _ _ ⟨bO,?_⟩;refine iW ?_;refine bv dU ?_ _;refine ba ?_;go_wp2_with fail;refine(gj _ _ _ _).mono ?_;rw[D3.out];rintro e w2 ⟨rfl,rfl⟩;have y4:w.heap.size<w1.heap.size+1:=dP;obtain⟨r0,r1,r2⟩:=Blk.c3 (kR.next hb1);go_wp2_with fail;refine bM (v:=Me ⟨x,1,[]⟩) (by simp [results,results126,go_sem,r0,r1,r2,y1]) rfl ⟨rfl,?_⟩
 (repeat'(first|with_reducible assumption|with_reducible exact Below.refl _ _|with_reducible refine jR ?_|with_reducible refine gT ?_ ?_|with_reducible refine ie ?_ ?_|with_reducible refine gR ?_ dY ?_|((try simp only[dW,dT,dX]);omega)))
def l_ (y:Int):Item:=⟨y,1,[]⟩
def nU (l:List Int):Vec:=⟨2,l.map l_,[],[],[],[],0,0⟩
theorem vt (l:List Int) (jb:∀y∈l,1<=y/\y<=40) (A:Option Addr) (n c:Nat) (w:World) (h:rep w w.heap.size (.sl (l.map (D.i .i64))) [.slice A n c]) (hn:(n:Int)<=40):Calls prog 43 #[.slice A n c] w (gM (nU l).toD 38 w):=by
 obtain⟨A',n',c',he,Nh,hnm,hr,-⟩:=(qy _ _ _ _).1 h;injection he with he;injection he with f1 f2 f3;subst f1 f2 f3
 have HL:=aa hr.len;have HA:=aa jb;clear jb;have O6:Below w.heap.size w ((w.alloc (.cells #[.int .i64 0,(),(),(),(),(),.int .i64 0,.int .i64 0] 38)).alloc (.cells #[.int .i64 2,(),(),(),(),(),.int .i64 0,.int .i64 0] 38)):=((Below.refl _ _).alloc (af _) _).alloc dR _;have kR0:Blk ((w.alloc (.cells #[.int .i64 0,(),(),(),(),(),.int .i64 0,.int .i64 0] 38)).alloc (.cells #[.int .i64 2,(),(),(),(),(),.int .i64 0,.int .i64 0] 38)) w.heap.size 38 [.int .i64 0,(),(),(),(),(),.int .i64 0,.int .i64 0]:=(Blk.new' (l:=[.int .i64 0,.slice none 0 0,.slice none 0 0,.slice none 0 0,.slice none 0 0,.slice none 0 0,.int .i64 0,.int .i64 0])).al;have k30:Blk ((w.alloc (.cells #[.int .i64 0,(),(),(),(),(),.int .i64 0,.int .i64 0] 38)).alloc (.cells #[.int .i64 2,(),(),(),(),(),.int .i64 0,.int .i64 0] 38)) (w.heap.size+1) 38 [.int .i64 2,(),(),(),(),(),.int .i64 0,.int .i64 0]:=Gs;go_enter func43,ntmps43;go_wp2_with fail;obtain⟨W,hW⟩:∃W,W=((w.alloc (.cells #[.int .i64 0,(),(),(),(),(),.int .i64 0,.int .i64 0] 38)).alloc (.cells #[.int .i64 2,(),(),(),(),(),.int .i64 0,.int .i64 0] 38)):=⟨_,rfl⟩;rw[<-hW]at O6 kR0 k30 ⊢;clear hW;go_loopw [13] (λi wr=>∃(j:Nat) (Aq:Option Addr) (cq:Nat) (Fq:List Nat),j<=n/\i= .int .i64 j/\Blk wr w.heap.size 38 [.int .i64 0,(),(),(),(),(),.int .i64 0,.int .i64 0]/\Blk wr (w.heap.size+1) 38 [.int .i64 2,.slice Aq j cq,(),(),(),(),.int .i64 0,.int .i64 0]/\own prog wr (.sl (((l.take j).map l_).map Item.toD)) 35 Fq [.slice Aq j cq]/\Fresh (w.heap.size+1+1) Fq/\Below w.heap.size w wr) (λi _=>n - (intOf i).toNat)
 case atStart=>exact⟨0,none,0,[],by omega,rfl,kR0,k30,kY underlying35,Fresh.nil,O6⟩
 case round=>
  clear kR0 k30 O6;obtain⟨j,Aq,cq,Fq,hj,rfl,kR,k3,oq,qL,bel⟩:=hrel;have hwr:w.heap.size+1<wr.heap.size:=k3.lt;by_cases hlj:j<n
  ·obtain⟨b,off,y,rfl,gD,hy,R9⟩:=hr.atI hlj;obtain⟨WF,Ya⟩:=HA.out y (aA hy);have HX:=aa hy;have hcy:=(bel.cell (p:=⟨b,off+j,none⟩) gD).trans R9;have j0:(0:Int)<=(j:Int):=dP;have j1:(j:Int)<(n:Int):=dP;clear hy;go_wp2_with fail;refine bu ?_;refine aW (S:=λV=>True) dU bO (λhH=>?_);replace kR:=kR.dw;replace k3:=k3.dw;replace oq:=gX oq;replace bel:=bel.drew;have abE:w.heap.size+1<wr.drew.heap.size:=hwr;have XH:wr.drew.cell? ⟨b,off+j,none⟩=some (.int .i64 y):=hcy;have SX:=(show True from bO);generalize wr.drew=v0 at kR k3 oq bel abE XH SX ⊢;have cv0:=k3.cell 1;simp only[ah,ag]at cv0;refine ey 0 ?_;refine ey 2 ?_;refine dG (rs:=[1,3]) dU dR (λi hi=>?_);simp only[aX,df,or_false]at hi;rcases hi with rfl|rfl;all_goals refine dD gO (λK hK=>?_)
   ·go_simp;refine hK _ _ ⟨SX,?_⟩;refine iW ?_;refine fZ 3 ?_;intro K hK;go_simp;go_at_call 111;refine(sK y WF Ya _).mono ?_;rintro e w3 ⟨rfl,lE⟩;have z3:=lE.size;have Yf:=kR.next lE;have CC:=k3.next lE;have ZY:=em oq lE;have x4:Below w3.heap.size w3 (w3.alloc (.cells #[.int .i64 y,.int .i64 1,sv []] 135)):=(Below.refl _ _).alloc (af _) _;have kn4:Blk (w3.alloc (.cells #[.int .i64 y,.int .i64 1,sv []] 135)) w3.heap.size 135 [.int .i64 y,.int .i64 1,sv []]:=Blk.new' (l:=[.int .i64 y,.int .i64 1,sv []]);have Jm:=CC.cell 1;simp only[ah,ag]at Jm;have Jn:=(CC.next x4).cell 1;simp only[ah,ag]at Jn;have KG:=ij bel lE;refine hK _ _ ⟨bO,?_⟩;refine iW ?_;refine fZ 4 ?_;intro K hK;go_simp;refine hK _ _ ⟨bO,?_⟩;refine iW ?_;refine fZ 5 ?_;intro K hK;refine gL (A:=Aq) (n:=j) (c:=cq) (b:=w3.heap.size) (m:=1) (xs:=((l.take j).map l_).map Item.toD) (F:=Fq) (d:=(l_ y).toD) (F':=[]) (te:=135) (cs:=[.int .i64 y,.int .i64 1,sv []]) kM ?_ ?_ (.tmp 18) (.tmp 21) ?_ ?_ ?_ ?_ ?_ ?_ ?_ ?_ ?_ ?_ ?_
    ·kernel_rfl
    ·rfl
    ·rfl
    ·rfl
    ·exact lz
    ·rfl
    ·exact kn4
    ·exact pI
    ·rfl
    ·exact lw
    ·exact g8
    ·omega
    intro gg gc w5 F5 o5 ap5 md5;simp only[dT]at ap5;have U8:=Blk.mod (g:=w.heap.size) (Yf.next x4) md5 (qL.notin dP);have vB:=Blk.mod (g:=w.heap.size+1) (CC.next x4) md5 (qL.notin dP);have z5:=md5.size;simp only[dT]at z5;have uW:=jN (ij KG x4) md5 (λy hy=>by have:=qL.2 y hy;omega) eA;have pU:=vB.cell 1;simp only[ah,ag]at pU;have Zr:=vB.frozen 1;have UL:w.heap.size+1<w5.heap.size:=vB.lt;refine hK _ _ ⟨bO,?_⟩;refine iW ?_;have SX2:=(show _ from bO);refine ey 6 ?_;refine fZ 7 ?_;intro K hK;go_simp;refine hK _ _ ⟨bO,?_⟩;refine iW ?_;refine bv dU ?_ _;refine ba ?_;clear Jm Jn pU;go_wp2_with fail;go_roundw
    case rel=>
     have Tt:∀y∈F5,y∈Fq\/w.heap.size+1+1<=y:=λy hy=>pF
     have MU:∀y∈F5,w.heap.size+1+1<=y:=λy hy=>pG
     refine⟨j+1,some ⟨gg,0,none⟩,gc,F5,by omega,by go_num,Blk.pk (p:=⟨w.heap.size+1,1,none⟩) iT U8,vB.set_ 1 _,?_,⟨ap5.1,MU⟩,uW.setCell kt _⟩;rw[eJ HX.out,aI,aI];exact ft o5 (λhm=>by have:=MU _ hm;simp at this;omega)
    case measure=>simp [intOf];omega
   ·
    go_simp;go_at_call 111;refine(sK y WF Ya _).mono ?_;rintro e w3 ⟨rfl,lE⟩;have z3:=lE.size;have Yf:=kR.next lE;have CC:=k3.next lE;have ZY:=em oq lE;have x4:Below w3.heap.size w3 (w3.alloc (.cells #[.int .i64 y,.int .i64 1,sv []] 135)):=(Below.refl _ _).alloc (af _) _;have kn4:Blk (w3.alloc (.cells #[.int .i64 y,.int .i64 1,sv []] 135)) w3.heap.size 135 [.int .i64 y,.int .i64 1,sv []]:=Blk.new' (l:=[.int .i64 y,.int .i64 1,sv []]);have Jm:=CC.cell 1;simp only[ah,ag]at Jm;have Jn:=(CC.next x4).cell 1;simp only[ah,ag]at Jn;have KG:=ij bel lE;refine hK _ _ ⟨bO,?_⟩;refine iW ?_;refine dG (rs:=[1,4]) dU dR (λi hi=>?_);simp only[aX,df,or_false]at hi;rcases hi with rfl|rfl;all_goals refine dD gO (λK hK=>?_)
    ·go_simp;refine hK _ _ ⟨bO,?_⟩;refine iW ?_;refine fZ 4 ?_;intro K hK;go_simp;refine hK _ _ ⟨bO,?_⟩;refine iW ?_;refine fZ 5 ?_;intro K hK;refine gL (A:=Aq) (n:=j) (c:=cq) (b:=w3.heap.size) (m:=1) (xs:=((l.take j).map l_).map Item.toD) (F:=Fq) (d:=(l_ y).toD) (F':=[]) (te:=135) (cs:=[.int .i64 y,.int .i64 1,sv []]) kM ?_ ?_ (.tmp 18) (.tmp 21) ?_ ?_ ?_ ?_ ?_ ?_ ?_ ?_ ?_ ?_ ?_
     ·kernel_rfl
     ·rfl
     ·rfl
     ·rfl
     ·exact lz
     ·rfl
     ·exact kn4
     ·exact pI
     ·rfl
     ·exact lw
     ·exact g8
     ·omega
     intro gg gc w5 F5 o5 ap5 md5;simp only[dT]at ap5;have U8:=Blk.mod (g:=w.heap.size) (Yf.next x4) md5 (qL.notin dP);have vB:=Blk.mod (g:=w.heap.size+1) (CC.next x4) md5 (qL.notin dP);have z5:=md5.size;simp only[dT]at z5;have uW:=jN (ij KG x4) md5 (λy hy=>by have:=qL.2 y hy;omega) eA;have pU:=vB.cell 1;simp only[ah,ag]at pU;have Zr:=vB.frozen 1;have UL:w.heap.size+1<w5.heap.size:=vB.lt;refine hK _ _ ⟨bO,?_⟩;refine iW ?_;have SX2:=(show _ from bO);refine ey 6 ?_;refine fZ 7 ?_;intro K hK;go_simp;refine hK _ _ ⟨bO,?_⟩;refine iW ?_;refine bv dU ?_ _;refine ba ?_;clear Jm Jn pU;go_wp2_with fail;go_roundw
     case rel=>
      have Tt:∀y∈F5,y∈Fq\/w.heap.size+1+1<=y:=λy hy=>pF
      have MU:∀y∈F5,w.heap.size+1+1<=y:=λy hy=>pG
      refine⟨j+1,some ⟨gg,0,none⟩,gc,F5,by omega,by go_num,Blk.pk (p:=⟨w.heap.size+1,1,none⟩) iT U8,vB.set_ 1 _,?_,⟨ap5.1,MU⟩,uW.setCell kt _⟩;rw[eJ HX.out,aI,aI];exact ft o5 (λhm=>by have:=MU _ hm;simp at this;omega)
     case measure=>simp [intOf];omega
    ·go_simp;refine hK _ _ ⟨bO,?_⟩;refine iW ?_;refine fZ 1 ?_;intro K hK;go_simp;refine hK _ _ ⟨bO,?_⟩;refine iW ?_;refine fZ 5 ?_;intro K hK;refine gL (A:=Aq) (n:=j) (c:=cq) (b:=w3.heap.size) (m:=1) (xs:=((l.take j).map l_).map Item.toD) (F:=Fq) (d:=(l_ y).toD) (F':=[]) (te:=135) (cs:=[.int .i64 y,.int .i64 1,sv []]) kM ?_ ?_ (.tmp 18) (.tmp 21) ?_ ?_ ?_ ?_ ?_ ?_ ?_ ?_ ?_ ?_ ?_
     ·kernel_rfl
     ·rfl
     ·rfl
     ·rfl
     ·exact lz
     ·rfl
     ·exact kn4
     ·exact pI
     ·rfl
     ·exact lw
     ·exact g8
     ·omega
     intro gg gc w5 F5 o5 ap5 md5;simp only[dT]at ap5;have U8:=Blk.mod (g:=w.heap.size) (Yf.next x4) md5 (qL.notin dP);have vB:=Blk.mod (g:=w.heap.size+1) (CC.next x4) md5 (qL.notin dP);have z5:=md5.size;simp only[dT]at z5;have uW:=jN (ij KG x4) md5 (λy hy=>by have:=qL.2 y hy;omega) eA;have pU:=vB.cell 1;simp only[ah,ag]at pU;have Zr:=vB.frozen 1;have UL:w.heap.size+1<w5.heap.size:=vB.lt;refine hK _ _ ⟨bO,?_⟩;refine iW ?_;have SX2:=(show _ from bO);refine ey 6 ?_;refine fZ 7 ?_;intro K hK;go_simp;refine hK _ _ ⟨bO,?_⟩;refine iW ?_;refine bv dU ?_ _;refine ba ?_;clear Jm Jn pU;go_wp2_with fail;go_roundw
     case rel=>
      have Tt:∀y∈F5,y∈Fq\/w.heap.size+1+1<=y:=λy hy=>pF
      have MU:∀y∈F5,w.heap.size+1+1<=y:=λy hy=>pG
      refine⟨j+1,some ⟨gg,0,none⟩,gc,F5,by omega,by go_num,Blk.pk (p:=⟨w.heap.size+1,1,none⟩) iT U8,vB.set_ 1 _,?_,⟨ap5.1,MU⟩,uW.setCell kt _⟩;rw[eJ HX.out,aI,aI];exact ft o5 (λhm=>by have:=MU _ hm;simp at this;omega)
     case measure=>simp [intOf];omega
  ·obtain rfl:j=n:=dP;rw[aC ws]at oq;obtain⟨a0,a1,a2,a3,a4,a5,a6,a7⟩:=k3.c8;obtain⟨r0,r1,r2,r3,r4,r5,r6,r7⟩:=kR.c8;have zr:=λi=>kR.frozen i
   have Tq:=zr 0;have zr1:=zr 1;have zr2:=zr 2;have zr3:=zr 3;have zr4:=zr 4;have zr5:=zr 5;have zr6:=zr 6;have zr7:=zr 7;have XB:w.heap.size<wr.heap.size:=dP;clear zr;go_wp2_with fail;refine bM (v:= .agg #[.int .i64 2,.slice Aq j cq,(),(),(),(),.int .i64 0,.int .i64 0]) (by simp [results,results43,go_sem,r0,r1,r2,r3,r4,r5,r6,r7,XB]) rfl ⟨_,Fq++([]++([]++([]++([]++[])))),rfl,?_,?_,?_⟩
   ·exact Gz
   ·simpa using qL.mono dP
   ·exact mg
theorem vY (l:List Int) (jb:∀y∈l,1<=y/\y<=40) (A:Option Addr) (n c:Nat) (w:World) (h:rep w w.heap.size (.sl (l.map (D.i .i64))) [.slice A n c]) (hn:(n:Int)<=40):Calls prog 54 #[.slice A n c] w (gM (nU l).toD 38 w):=by
 obtain⟨A',n',c',he,Nh,hnm,hr,-⟩:=(qy _ _ _ _).1 h;injection he with he;injection he with f1 f2 f3;subst f1 f2 f3
 have HL:=aa hr.len;have HA:=aa jb;clear jb;have O6:Below w.heap.size w ((w.alloc (.cells #[.int .i64 0,(),(),(),(),(),.int .i64 0,.int .i64 0] 38)).alloc (.cells #[.int .i64 2,(),(),(),(),(),.int .i64 0,.int .i64 0] 38)):=((Below.refl _ _).alloc (af _) _).alloc dR _;have kR0:Blk ((w.alloc (.cells #[.int .i64 0,(),(),(),(),(),.int .i64 0,.int .i64 0] 38)).alloc (.cells #[.int .i64 2,(),(),(),(),(),.int .i64 0,.int .i64 0] 38)) w.heap.size 38 [.int .i64 0,(),(),(),(),(),.int .i64 0,.int .i64 0]:=(Blk.new' (l:=[.int .i64 0,.slice none 0 0,.slice none 0 0,.slice none 0 0,.slice none 0 0,.slice none 0 0,.int .i64 0,.int .i64 0])).al;have k30:Blk ((w.alloc (.cells #[.int .i64 0,(),(),(),(),(),.int .i64 0,.int .i64 0] 38)).alloc (.cells #[.int .i64 2,(),(),(),(),(),.int .i64 0,.int .i64 0] 38)) (w.heap.size+1) 38 [.int .i64 2,(),(),(),(),(),.int .i64 0,.int .i64 0]:=Gs;go_enter func54,ntmps54;go_wp2_with fail;obtain⟨W,hW⟩:∃W,W=((w.alloc (.cells #[.int .i64 0,(),(),(),(),(),.int .i64 0,.int .i64 0] 38)).alloc (.cells #[.int .i64 2,(),(),(),(),(),.int .i64 0,.int .i64 0] 38)):=⟨_,rfl⟩;rw[<-hW]at O6 kR0 k30 ⊢;clear hW;go_loopw [4] (λi wr=>∃(j:Nat) (Aq:Option Addr) (cq:Nat) (Fq:List Nat),j<=n/\i= .int .i64 j/\Blk wr w.heap.size 38 [.int .i64 0,(),(),(),(),(),.int .i64 0,.int .i64 0]/\Blk wr (w.heap.size+1) 38 [.int .i64 2,.slice Aq j cq,(),(),(),(),.int .i64 0,.int .i64 0]/\own prog wr (.sl (((l.take j).map l_).map Item.toD)) 35 Fq [.slice Aq j cq]/\Fresh (w.heap.size+1+1) Fq/\Below w.heap.size w wr) (λi _=>n - (intOf i).toNat)
 case atStart=>exact⟨0,none,0,[],by omega,rfl,kR0,k30,kY underlying35,Fresh.nil,O6⟩
 case round=>
  clear kR0 k30 O6;obtain⟨j,Aq,cq,Fq,hj,rfl,kR,k3,oq,qL,bel⟩:=hrel;have hwr:w.heap.size+1<wr.heap.size:=k3.lt;by_cases hlj:j<n
  ·obtain⟨b,off,y,rfl,gD,hy,R9⟩:=hr.atI hlj;obtain⟨WF,Ya⟩:=HA.out y (aA hy);have HX:=aa hy;have hcy:=(bel.cell (p:=⟨b,off+j,none⟩) gD).trans R9;have j0:(0:Int)<=(j:Int):=dP;have j1:(j:Int)<(n:Int):=dP;clear hy;go_wp2_with fail;refine bu ?_;refine aW (S:=λV=>V.cell? ⟨b,off+j,none⟩=some (.int .i64 y)) dU hcy (λhH=>?_);replace kR:=kR.dw;replace k3:=k3.dw;replace oq:=gX oq;replace bel:=bel.drew;have abE:w.heap.size+1<wr.drew.heap.size:=hwr;have XH:wr.drew.cell? ⟨b,off+j,none⟩=some (.int .i64 y):=hcy;have SX:=(show wr.drew.cell? ⟨b,off+j,none⟩=some (.int .i64 y) from XH);generalize wr.drew=v0 at kR k3 oq bel abE XH SX ⊢;have cv0:=k3.cell 1;simp only[ah,ag]at cv0;refine ey 0 ?_;refine ey 2 ?_;refine ey 3 ?_;refine ey 4 ?_;refine ey 5 ?_;refine dG (rs:=[1,6]) dU dR (λi hi=>?_);simp only[aX,df,or_false]at hi;rcases hi with rfl|rfl;all_goals refine dD gO (λK hK=>?_)
   ·go_simp;refine hK _ _ ⟨SX,?_⟩;refine iW ?_;refine fZ 6 ?_;intro K hK;go_simp;go_at_call 126;refine(xD y WF Ya _).mono ?_;rintro e w3 ⟨rfl,lE⟩;have z3:=lE.size;have Yf:=kR.next lE;have CC:=k3.next lE;have ZY:=em oq lE;have x4:Below w3.heap.size w3 (w3.alloc (.cells #[.int .i64 y,.int .i64 1,sv []] 135)):=(Below.refl _ _).alloc (af _) _;have kn4:Blk (w3.alloc (.cells #[.int .i64 y,.int .i64 1,sv []] 135)) w3.heap.size 135 [.int .i64 y,.int .i64 1,sv []]:=Blk.new' (l:=[.int .i64 y,.int .i64 1,sv []]);have Jm:=CC.cell 1;simp only[ah,ag]at Jm;have Jn:=(CC.next x4).cell 1;simp only[ah,ag]at Jn;have XG:=(bel.trans (lE.mono bel.size)).cell (p:=⟨b,off+j,none⟩) gD |>.trans R9
    have Uq:=(bel.trans ((ij lE x4).mono bel.size)).cell (p:=⟨b,off+j,none⟩) gD |>.trans R9
    have KG:=ij bel lE;refine hK _ _ ⟨XG,?_⟩;refine iW ?_;refine fZ 7 ?_;intro K hK;go_simp;refine hK _ _ ⟨Uq,?_⟩;refine iW ?_;refine fZ 8 ?_;intro K hK;refine gL (A:=Aq) (n:=j) (c:=cq) (b:=w3.heap.size) (m:=1) (xs:=((l.take j).map l_).map Item.toD) (F:=Fq) (d:=(l_ y).toD) (F':=[]) (te:=135) (cs:=[.int .i64 y,.int .i64 1,sv []]) kM ?_ ?_ (.tmp 18) (.tmp 24) ?_ ?_ ?_ ?_ ?_ ?_ ?_ ?_ ?_ ?_ ?_
    ·kernel_rfl
    ·rfl
    ·rfl
    ·rfl
    ·exact lz
    ·rfl
    ·exact kn4
    ·exact pI
    ·rfl
    ·exact lw
    ·exact g8
    ·omega
    intro gg gc w5 F5 o5 ap5 md5;simp only[dT]at ap5;have U8:=Blk.mod (g:=w.heap.size) (Yf.next x4) md5 (qL.notin dP);have vB:=Blk.mod (g:=w.heap.size+1) (CC.next x4) md5 (qL.notin dP);have z5:=md5.size;simp only[dT]at z5;have uW:=jN (ij KG x4) md5 (λy hy=>by have:=qL.2 y hy;omega) eA;have pU:=vB.cell 1;simp only[ah,ag]at pU;have Zr:=vB.frozen 1;have UL:w.heap.size+1<w5.heap.size:=vB.lt;have M7:=uW.cell (p:=⟨b,off+j,none⟩) gD |>.trans R9
    refine hK _ _ ⟨M7,?_⟩;refine iW ?_;have SX2:=(show _ from M7);refine ey 9 ?_;refine fZ 10 ?_;intro K hK;go_simp;have Ur:=(uW.setCell (p:=⟨w.heap.size+1,1,none⟩) kt (.slice (some ⟨gg,0,none⟩) (j+1) gc)).cell (p:=⟨b,off+j,none⟩) gD |>.trans R9
    refine hK _ _ ⟨Ur,?_⟩;refine iW ?_;refine bv dU ?_ _;refine ba ?_;clear Jm Jn pU;go_wp2_with fail;go_roundw
    case rel=>
     have Tt:∀y∈F5,y∈Fq\/w.heap.size+1+1<=y:=λy hy=>pF
     have MU:∀y∈F5,w.heap.size+1+1<=y:=λy hy=>pG
     refine⟨j+1,some ⟨gg,0,none⟩,gc,F5,by omega,by go_num,Blk.pk (p:=⟨w.heap.size+1,1,none⟩) iT U8,vB.set_ 1 _,?_,⟨ap5.1,MU⟩,uW.setCell kt _⟩;rw[eJ HX.out,aI,aI];exact ft o5 (λhm=>by have:=MU _ hm;simp at this;omega)
    case measure=>simp [intOf];omega
   ·
    go_simp;go_at_call 126;refine(xD y WF Ya _).mono ?_;rintro e w3 ⟨rfl,lE⟩;have z3:=lE.size;have Yf:=kR.next lE;have CC:=k3.next lE;have ZY:=em oq lE;have x4:Below w3.heap.size w3 (w3.alloc (.cells #[.int .i64 y,.int .i64 1,sv []] 135)):=(Below.refl _ _).alloc (af _) _;have kn4:Blk (w3.alloc (.cells #[.int .i64 y,.int .i64 1,sv []] 135)) w3.heap.size 135 [.int .i64 y,.int .i64 1,sv []]:=Blk.new' (l:=[.int .i64 y,.int .i64 1,sv []]);have Jm:=CC.cell 1;simp only[ah,ag]at Jm;have Jn:=(CC.next x4).cell 1;simp only[ah,ag]at Jn;have XG:=(bel.trans (lE.mono bel.size)).cell (p:=⟨b,off+j,none⟩) gD |>.trans R9
    have Uq:=(bel.trans ((ij lE x4).mono bel.size)).cell (p:=⟨b,off+j,none⟩) gD |>.trans R9
    have KG:=ij bel lE;refine hK _ _ ⟨XG,?_⟩;refine iW ?_;refine dG (rs:=[1,7]) dU dR (λi hi=>?_);simp only[aX,df,or_false]at hi;rcases hi with rfl|rfl;all_goals refine dD gO (λK hK=>?_)
    ·go_simp;refine hK _ _ ⟨XG,?_⟩;refine iW ?_;refine fZ 7 ?_;intro K hK;go_simp;refine hK _ _ ⟨Uq,?_⟩;refine iW ?_;refine fZ 8 ?_;intro K hK;refine gL (A:=Aq) (n:=j) (c:=cq) (b:=w3.heap.size) (m:=1) (xs:=((l.take j).map l_).map Item.toD) (F:=Fq) (d:=(l_ y).toD) (F':=[]) (te:=135) (cs:=[.int .i64 y,.int .i64 1,sv []]) kM ?_ ?_ (.tmp 18) (.tmp 24) ?_ ?_ ?_ ?_ ?_ ?_ ?_ ?_ ?_ ?_ ?_
     ·kernel_rfl
     ·rfl
     ·rfl
     ·rfl
     ·exact lz
     ·rfl
     ·exact kn4
     ·exact pI
     ·rfl
     ·exact lw
     ·exact g8
     ·omega
     intro gg gc w5 F5 o5 ap5 md5;simp only[dT]at ap5;have U8:=Blk.mod (g:=w.heap.size) (Yf.next x4) md5 (qL.notin dP);have vB:=Blk.mod (g:=w.heap.size+1) (CC.next x4) md5 (qL.notin dP);have z5:=md5.size;simp only[dT]at z5;have uW:=jN (ij KG x4) md5 (λy hy=>by have:=qL.2 y hy;omega) eA;have pU:=vB.cell 1;simp only[ah,ag]at pU;have Zr:=vB.frozen 1;have UL:w.heap.size+1<w5.heap.size:=vB.lt;have M7:=uW.cell (p:=⟨b,off+j,none⟩) gD |>.trans R9
     refine hK _ _ ⟨M7,?_⟩;refine iW ?_;have SX2:=(show _ from M7);refine ey 9 ?_;refine fZ 10 ?_;intro K hK;go_simp;have Ur:=(uW.setCell (p:=⟨w.heap.size+1,1,none⟩) kt (.slice (some ⟨gg,0,none⟩) (j+1) gc)).cell (p:=⟨b,off+j,none⟩) gD |>.trans R9
     refine hK _ _ ⟨Ur,?_⟩;refine iW ?_;refine bv dU ?_ _;refine ba ?_;clear Jm Jn pU;go_wp2_with fail;go_roundw
     case rel=>
      have Tt:∀y∈F5,y∈Fq\/w.heap.size+1+1<=y:=λy hy=>pF
      have MU:∀y∈F5,w.heap.size+1+1<=y:=λy hy=>pG
      refine⟨j+1,some ⟨gg,0,none⟩,gc,F5,by omega,by go_num,Blk.pk (p:=⟨w.heap.size+1,1,none⟩) iT U8,vB.set_ 1 _,?_,⟨ap5.1,MU⟩,uW.setCell kt _⟩;rw[eJ HX.out,aI,aI];exact ft o5 (λhm=>by have:=MU _ hm;simp at this;omega)
     case measure=>simp [intOf];omega
    ·go_simp;refine hK _ _ ⟨Uq,?_⟩;refine iW ?_;refine fZ 1 ?_;intro K hK;go_simp;refine hK _ _ ⟨Uq,?_⟩;refine iW ?_;refine fZ 8 ?_;intro K hK;refine gL (A:=Aq) (n:=j) (c:=cq) (b:=w3.heap.size) (m:=1) (xs:=((l.take j).map l_).map Item.toD) (F:=Fq) (d:=(l_ y).toD) (F':=[]) (te:=135) (cs:=[.int .i64 y,.int .i64 1,sv []]) kM ?_ ?_ (.tmp 18) (.tmp 24) ?_ ?_ ?_ ?_ ?_ ?_ ?_ ?_ ?_ ?_ ?_
     ·kernel_rfl
     ·rfl
     ·rfl
     ·rfl
     ·exact lz
     ·rfl
     ·exact kn4
     ·exact pI
     ·rfl
     ·exact lw
     ·exact g8
     ·omega
     intro gg gc w5 F5 o5 ap5 md5;simp only[dT]at ap5;have U8:=Blk.mod (g:=w.heap.size) (Yf.next x4) md5 (qL.notin dP);have vB:=Blk.mod (g:=w.heap.size+1) (CC.next x4) md5 (qL.notin dP);have z5:=md5.size;simp only[dT]at z5;have uW:=jN (ij KG x4) md5 (λy hy=>by have:=qL.2 y hy;omega) eA;have pU:=vB.cell 1;simp only[ah,ag]at pU;have Zr:=vB.frozen 1;have UL:w.heap.size+1<w5.heap.size:=vB.lt;have M7:=uW.cell (p:=⟨b,off+j,none⟩) gD |>.trans R9
     refine hK _ _ ⟨M7,?_⟩;refine iW ?_;have SX2:=(show _ from M7);refine ey 9 ?_;refine fZ 10 ?_;intro K hK;go_simp;have Ur:=(uW.setCell (p:=⟨w.heap.size+1,1,none⟩) kt (.slice (some ⟨gg,0,none⟩) (j+1) gc)).cell (p:=⟨b,off+j,none⟩) gD |>.trans R9
     refine hK _ _ ⟨Ur,?_⟩;refine iW ?_;refine bv dU ?_ _;refine ba ?_;clear Jm Jn pU;go_wp2_with fail;go_roundw
     case rel=>
      have Tt:∀y∈F5,y∈Fq\/w.heap.size+1+1<=y:=λy hy=>pF
      have MU:∀y∈F5,w.heap.size+1+1<=y:=λy hy=>pG
      refine⟨j+1,some ⟨gg,0,none⟩,gc,F5,by omega,by go_num,Blk.pk (p:=⟨w.heap.size+1,1,none⟩) iT U8,vB.set_ 1 _,?_,⟨ap5.1,MU⟩,uW.setCell kt _⟩;rw[eJ HX.out,aI,aI];exact ft o5 (λhm=>by have:=MU _ hm;simp at this;omega)
     case measure=>simp [intOf];omega
  ·obtain rfl:j=n:=dP;rw[aC ws]at oq;obtain⟨a0,a1,a2,a3,a4,a5,a6,a7⟩:=k3.c8;obtain⟨r0,r1,r2,r3,r4,r5,r6,r7⟩:=kR.c8;have zr:=λi=>kR.frozen i
   have Tq:=zr 0;have zr1:=zr 1;have zr2:=zr 2;have zr3:=zr 3;have zr4:=zr 4;have zr5:=zr 5;have zr6:=zr 6;have zr7:=zr 7;have XB:w.heap.size<wr.heap.size:=dP;clear zr;go_wp2_with fail;refine bM (v:= .agg #[.int .i64 2,.slice Aq j cq,(),(),(),(),.int .i64 0,.int .i64 0]) (by simp [results,results54,go_sem,r0,r1,r2,r3,r4,r5,r6,r7,XB]) rfl ⟨_,Fq++([]++([]++([]++([]++[])))),rfl,?_,?_,?_⟩
   ·exact Gz
   ·simpa using qL.mono dP
   ·exact mg
theorem SG (x:Int) (w:World):Calls prog 167 #[x] w λe w'=>e= .returned (Me ⟨x,1,[]⟩)/\Below w.heap.size w w':=by
 go_enter func167,ntmps167;go_wp2_with fail;refine bM (v:=Me ⟨x,1,[]⟩) (by simp [results,results167,go_sem]) rfl ⟨rfl,?_⟩
 (repeat'(first|with_reducible assumption|with_reducible exact Below.refl _ _|with_reducible refine jR ?_|with_reducible refine gT ?_ ?_|with_reducible refine ie ?_ ?_|with_reducible refine gR ?_ dY ?_|((try simp only[dW,dT,dX]);omega)))
def xB (w:World) (g:Nat):Nat->List Value->World
 |_,[]=>w
 |o,v::t=>xB (w.setCell ⟨g,o,none⟩ v) g (o+1) t
theorem J0:∀{w:World} {g o:Nat} {cs:List Value},Mod [g] w (xB w g o cs)
 |_,_,_,[]=>Mod.refl
 |w,g,o,v::t=>by rw[xB];exact(JR (F:=[g]) (p:=⟨g,o,none⟩) dR v).trans J0 (λx hx=> .inl hx)
theorem JZ:∀{cs' cs pre post:List Value} {w:World} {g:Nat} {t:TypeId},Blk w g t (pre++(cs++post))->cs'.length=cs.length->Blk (xB w g pre.length cs') g t (pre++(cs'++post))
 |[],cs,pre,post,w,g,t,h,hl=>by obtain rfl:cs=[]:=aR.1 (by simpa using hl.symm);exact h
 |v::r,[],pre,post,w,g,t,h,hl=>by simp at hl
 |v::r,c::ct,pre,post,w,g,t,h,hl=>by rw[xB];have h1:=h.set_ pre.length v;rw[dI _ _ (af _),Nat.sub_self,cK,a_]at h1;have h2:Blk (w.setCell ⟨g,pre.length,none⟩ v) g t ((pre++[v])++(ct++post)):=mt;have h3:=JZ (cs':=r) h2 (by simpa using hl);rw[aY]at h3;simpa using h3
section
variable {P:Program} {w0 w:World} {X:List Nat} {R:List As} {xs:List D} {t e:TypeId} {A:Option Addr} {n c k:Nat} {d d':D} {cs':List Value}
theorem Mem.setEl (M:Mem P w0 X w (.ow (.sl xs) t [.slice A n c]:: .ow d' e cs'::R)) (ht:P.underlying t=some (.slice e)) (hk:xs[k]?=some d) (hl:∀F cs,own P w d e F cs->cs'.length=cs.length):
 ∃g,A=some ⟨g,0,none⟩/\(∀j,j<cs'.length->∃u,w.cell? ⟨g,k*cs'.length+j,none⟩=some u)/\(∀j,w.frozen? ⟨g,j,none⟩=false)/\g<w.heap.size/\Mem P w0 X (xB w g (k*cs'.length) cs') (.ow (.sl (xs.set k d')) t [.slice (some ⟨g,0,none⟩) n c]::R):=by
 obtain⟨F,h1,h2,h3⟩:=Mem.split [_,_] M;obtain⟨F1,F2,rfl,h4,h5⟩:=fJ.1 h1;have h5:=iQ.1 h5;obtain⟨g,Fa,Fd,Fb,cs,pre,post,rfl,rfl,o1,o2,o3,o4⟩:=ta ht h4 hk;have gK:=hl _ _ o1;rw[<-gK]at o2;have hn:=aE.1 h2;have hg2:g ∉ F2:=λhh=>hn.2.2 g dR g hh rfl
 have hg:=aQ.1 hn.1;refine⟨g,rfl,λj hj=>?_,λj=>o3.frozen j,o3.lt,?_⟩
 ·have:(pre++(cs++post))[k*cs'.length+j]?=some ((cs[j]?).getD undef):=by rw[cV dP,cY dP];have:k*cs'.length+j - pre.length=j:=dP;rw[this];have XM:j<cs.length:=dP;simp [XM]
  exact⟨_,(o3.cell _).trans this⟩
 ·have hb:=JZ (cs':=cs') o3 gK;rw[o2]at hb;have Pu:Mod [g] w (xB w g (k*cs'.length) cs'):=J0;have UI:∀x,x∈Fa++Fb->(xB w g (k*cs'.length) cs').heap[x]?=w.heap[x]?:=λx hx=>Pu.2.2 x (jT _ _ _ _ h4 x wt) (by simp only[List.mem_singleton];rintro rfl;exact hg.1 wt)
  have h6:own P (xB w g (k*cs'.length) cs') d' e F2 cs':=nJ _ _ _ _ (λx hx=>Pu.2.2 x (jT _ _ _ _ h5 x hx) (by simp only[List.mem_singleton];rintro rfl;exact hg2 hx)) h5;have h7:=o4 _ d' cs' F2 dP h6 hb UI;refine h3 _ [_] _ (iQ.2 h7) ?_ ?_ (Pu.mono dR)
  ·have q1:=hg.1;have q2:=hg.2;simp only[aG,not_or]at q1;have q3:=aE.1 q2;have q4:=aE.1 q3.2.1;refine aQ.2 ⟨by simp only[aG,not_or];exact⟨q1.1,hg2,q1.2.2⟩,?_⟩;refine aE.2 ⟨q3.1,aE.2 ⟨hn.2.1,q4.2.1,?_⟩,?_⟩
   ·intro a ha b Tv e';subst e';exact hn.2.2 a (by simp [Tv]) a ha rfl
   ·intro a ha b Tv e';subst e';rcases aG.1 Tv with Tv|Tv
    ·exact hn.2.2 a (by simp [ha]) a Tv rfl
    ·exact q3.2.2 a ha a (by simp [Tv]) rfl
  ·intro x hx;left;simp only[aX,aG]at hx ⊢;rcases hx with rfl|hx|hx|hx<;>simp_all
theorem Mem.some0 (M:Mem P w0 X w (.ow (.sl xs) t [.slice A n c]::R)) (ht:P.underlying t=some (.slice e)) (hn:0<n):∃g,A=some ⟨g,0,none⟩:=by obtain⟨F,h1,h2,h3⟩:=Mem.split [_] M;have h4:=iQ.1 h1;have hl:=(ef (eW _ _ _ _ h4)).1;obtain⟨g,Fa,Fd,Fb,cs,pre,post,h5,_⟩:=ta (k:=0) (d:=xs[0]' dP) ht h4 (aw dP);exact⟨g,h5⟩
end
section
variable {w0 w:World} {X:List Nat} {R:List As} {A:Option Addr} {n c k:Nat} {l:List Item} {x y:Item}
theorem Mem.setItem (M:Mem prog w0 X w (.ow (.sl (l.map Item.toD)) 35 [.slice A n c]::R)) (hk:l[k]?=some x) (hy:itOK y):
 ∃g,A=some ⟨g,0,none⟩/\(∃u,w.cell? ⟨g,k*3,none⟩=some u)/\(∃u,w.cell? ⟨g,k*3+1,none⟩=some u)/\(∃u,w.cell? ⟨g,k*3+2,none⟩=some u)/\(∀j,w.frozen? ⟨g,j,none⟩=false)/\g<w.heap.size/\
  Mem prog w0 X (((w.setCell ⟨g,k*3,none⟩ (.int .i64 y.num)).setCell ⟨g,k*3+1,none⟩ (.int .i64 y.den)).setCell ⟨g,k*3+2,none⟩ (sv y.text)) (.ow (.sl ((l.set k y).map Item.toD)) 35 [.slice (some ⟨g,0,none⟩) n c]::R):=by
 obtain⟨g,h1,h2,h3,h4,h5⟩:=Mem.setEl (k:=k) (d:=x.toD) (d':=y.toD) (cs':=[.int .i64 y.num,.int .i64 y.den,sv y.text]) ((M.item hy).pull 1 rfl) underlying35 sC (λF cs h=>by obtain⟨_,rfl,_⟩:=yZ h;rfl);refine⟨g,h1,h2 0 dR,h2 1 dR,h2 2 dR,h3,h4,?_⟩;rw[<-dH]at h5;exact h5
theorem Mem.setStr {l:List Str} {x y:Str} (M:Mem prog w0 X w (.ow (.sl (l.map .s)) 25 [.slice A n c]::R)) (hk:l[k]?=some x) (hy:y.length<=maxLen):
 ∃g,A=some ⟨g,0,none⟩/\(∃u,w.cell? ⟨g,k,none⟩=some u)/\(∀j,w.frozen? ⟨g,j,none⟩=false)/\g<w.heap.size/\
  Mem prog w0 X (w.setCell ⟨g,k,none⟩ (sv y)) (.ow (.sl ((l.set k y).map .s)) 25 [.slice (some ⟨g,0,none⟩) n c]::R):=by
 obtain⟨g,h1,h2,h3,h4,h5⟩:=Mem.setEl (k:=k) (d:= .s x) (d':= .s y) (cs':=[sv y]) ((M.str (t:=9) hy).pull 1 rfl) underlying25 sC (λF cs h=>by obtain⟨_,rfl⟩:=Yz _ _ _ h;rfl);refine⟨g,h1,by have:=h2 0 dR;simpa using this,h3,h4,?_⟩;rw[<-dH]at h5;simp only[bt,cu]at h5;exact h5
theorem Mem.setVec {l:List Vec} {x y:Vec} {cs:List Value} (M:Mem prog w0 X w (.ow (.sl (l.map Vec.toD)) 36 [.slice A n c]:: .ow y.toD 38 cs::R)) (hk:l[k]?=some x):
 ∃g,A=some ⟨g,0,none⟩/\cs.length=8/\(∀j,j<8->∃u,w.cell? ⟨g,k*8+j,none⟩=some u)/\(∀j,w.frozen? ⟨g,j,none⟩=false)/\g<w.heap.size/\
  Mem prog w0 X (xB w g (k*8) cs) (.ow (.sl ((l.set k y).map Vec.toD)) 36 [.slice (some ⟨g,0,none⟩) n c]::R):=by
 have h8:∀{w:World} {z:Vec} {F:List Nat} {cs:List Value},own prog w z.toD 38 F cs->cs.length=8:=λh=>by obtain⟨_,_,_,_,_,_,_,_,_,_,_,_,_,_,_,_,_,_,_,_,rfl,-⟩:=jE h;rfl
 obtain⟨F,ho⟩:=M.own_ (d:=y.toD) (t:=38) (cs:=cs) dR;have hc:=h8 ho;obtain⟨g,h1,h2,h3,h4,h5⟩:=Mem.setEl (k:=k) (d:=x.toD) M underlying36 sC (λF cs h=>by rw[hc,h8 h]);rw[hc]at h2 h5;rw[<-dH]at h5;exact⟨g,h1,hc,h2,h3,h4,h5⟩
end
theorem pN (k:Int) (hk:¬k=5) (Ai:Option Addr) (ni ci:Nat) (Ap:Option Addr) (np cp:Nat) (An:Option Addr) (nn cn:Nat) (Ac:Option Addr) (nc cc:Nat) (Al:Option Addr) (nl cl:Nat) (co en:Int) (hl:(ni:Int)+np<=1000000) (w:World):
 Calls prog 107 #[.agg #[k,.slice Ai ni ci,.slice Ap np cp,.slice An nn cn,.slice Ac nc cc,.slice Al nl cl,co,en]] w λe w'=>e= .returned (.int .i64 ((ni+np:Nat):Int))/\Below w.heap.size w w':=by
 have hd:(k==5)=false:=jg;go_enter func107,ntmps107;go_wp2_with fail;go_ret;exact⟨eZ dP,(Below.refl _ _).alloc (af _) _⟩
theorem t8 (k:Int) (hk:¬k=5) (Ai:Option Addr) (ni ci:Nat) (Ap:Option Addr) (np cp:Nat) (An:Option Addr) (nn cn:Nat) (Ac:Option Addr) (nc cc:Nat) (Al:Option Addr) (nl cl:Nat) (co en:Int) (hl:(ni:Int)+np<=1000000) (w:World):
 Calls prog 118 #[.agg #[k,.slice Ai ni ci,.slice Ap np cp,.slice An nn cn,.slice Ac nc cc,.slice Al nl cl,co,en]] w λe w'=>e= .returned (.int .i64 ((ni+np:Nat):Int))/\Below w.heap.size w w':=by
 have hd:(k==5)=false:=jg;go_enter func118,ntmps118;go_wp2_with fail;go_ret;exact⟨eZ dP,(Below.refl _ _).alloc (af _) _⟩
def gI (frm tk:Int) (x:Item):Item:=if eI x=true\/frm=tk\/tk=2 then x else if frm=2 then sN (qq x) else if x.num=1 then sN [84,82,85,69] else sN [70,65,76,83,69]
def qw (k:Int) (x:Item):Vec:=⟨k,[x],[],[],[],[],0,0⟩
def conv (v:Vec) (k:Int):Vec:=if k=4 then⟨4,[],v.parts++v.items.map (qw v.kind),v.names,[],[],0,0⟩ else⟨k,v.items.map (gI v.kind k),[],v.names,[],[],0,0⟩
def SU (w:Vec):Vec:=if w.levels=[] then⟨w.kind,w.items,[],[],[],[],0,0⟩ else⟨3,w.items.map (λx=>if eI x then x else sN (ZT w.levels (x.num - 1).toNat)),[],[],[],[],0,0⟩
def Eh (levels:List Str) (y:Item):Item:=if eI y=true\/ix levels y.text 0<0 then⟨0,0,[]⟩ else l_ (ix levels y.text 0+1)
def eY {α:Type} (l:List α) (n:Nat) (z:α):List α:=l++List.replicate (n - l.length) z
def gZ (v:Vec):Vec:=if lR v.names then {v with names:=[]} else v
def kG (v:Vec):Vec × Str:=if isVec v=true then (v,[]) else (zeroV,E_)
section
variable {w0 w:World} {X:List Nat} {R:List As}
theorem Mem.vec8 {r:Vec} {cs:List Value} (M:Mem prog w0 X w (.ow r.toD 38 cs::R)):∃a0 a1 a2 a3 a4 a5 a6 a7,cs=[a0,a1,a2,a3,a4,a5,a6,a7]:=by obtain⟨_,_,_,_,_,_,_,_,_,_,_,_,_,_,_,h,_⟩:=M.openVec;exact⟨_,_,_,_,_,_,_,_,h⟩
theorem Mem.vecL {rv:Vec} {cs:List Value} (M:Mem prog w0 X w (.ow rv.toD 38 cs::R)):∃(Ai:Option Addr) (ci:Nat) (Ap:Option Addr) (cp:Nat) (An:Option Addr) (cn:Nat) (Ac:Option Addr) (cc:Nat) (Al:Option Addr) (cl:Nat),cs=[.int .i64 rv.kind,.slice Ai rv.items.length ci,.slice Ap rv.parts.length cp,.slice An rv.names.length cn,.slice Ac rv.cls.length cc,.slice Al rv.levels.length cl,.int .i64 rv.code,.int .i64 rv.env]:=by obtain⟨Ai,ci,Ap,cp,An,cn,Ac,cc,Al,cl,h,_⟩:=d_ (M.rp 0 rfl);exact⟨Ai,ci,Ap,cp,An,cn,Ac,cc,Al,cl,h⟩
theorem Mem.newTwoL {rv:Vec} {y:Value} {w':World} {e:Ending} (M:Mem prog w0 X w R) (hn:eH rv.toD 38 y w e w'):∃(Ai:Option Addr) (ci:Nat) (Ap:Option Addr) (cp:Nat) (An:Option Addr) (cn:Nat) (Ac:Option Addr) (cc:Nat) (Al:Option Addr) (cl:Nat),
 e= .returned (.tuple #[.agg #[rv.kind,.slice Ai rv.items.length ci,.slice Ap rv.parts.length cp,.slice An rv.names.length cn,.slice Ac rv.cls.length cc,.slice Al rv.levels.length cl,rv.code,rv.env],y])/\
 Mem prog w0 X w' (.ow rv.toD 38 [rv.kind,.slice Ai rv.items.length ci,.slice Ap rv.parts.length cp,.slice An rv.names.length cn,.slice Ac rv.cls.length cc,.slice Al rv.levels.length cl,rv.code,rv.env]::R):=by
 obtain⟨cs,F,rfl,ho,hf,hb⟩:=hn;have M':=M.gain ho hf hb;obtain⟨Ai,ci,Ap,cp,An,cn,Ac,cc,Al,cl,rfl⟩:=M'.vecL;exact⟨Ai,ci,Ap,cp,An,cn,Ac,cc,Al,cl,rfl,M'⟩
theorem Mem.zeroVec (M:Mem prog w0 X w R):Mem prog w0 X w (.ow zeroV.toD 38 [.int .i64 0,(),(),(),(),(),.int .i64 0,.int .i64 0]::R):=
 Mem.joinVec (v:=zeroV) (((((M.nil (t:=25) underlying25).nil (t:=25) underlying25).nil (t:=25) underlying25).nil (t:=36) underlying36).nil (t:=35) underlying35) le le le
theorem Th {r:Vec} {cs:List Value} (M:Mem prog w0 X w (.ow r.toD 38 cs::R)):Calls prog 154 #[av cs] w λe w'=>∃a0 a1 a2 a3 a4 a5 a6 a7,e= .returned (.agg #[a0,a1,a2,a3,a4,a5,a6,a7])/\Mem prog w0 X w' (.ow (gZ r).toD 38 [a0,a1,a2,a3,a4,a5,a6,a7]::R):=by
 have hr:=M.rp 0 rfl;obtain⟨Ai,ni,ci,Ap,np,cp,An,nn,cn,Ac,nc,cc,Al,nl,cl,rfl,wk,-,-,-,-,-,wc,we⟩:=fw hr;refine(I7 r Ai ni ci Ap np cp An nn cn Ac nc cc Al nl cl w hr).mono ?_;rintro e w' ⟨rfl,hb⟩;have M1:=M.next hb;cases he:lR r.names with
 |false=>exact⟨_,_,_,_,_,_,_,_,by rw[aH dQ],by rw[show gZ r=r by unfold gZ;rw[he];rfl];exact M1⟩
 |true=>
  obtain⟨_,_,_,_,_,_,_,_,_,_,_,_,_,_,_,hc,M2⟩:=M1.openVec;simp only[bF,bG,dy,cO]at hc;obtain⟨⟨rfl,rfl,rfl⟩,⟨rfl,rfl,rfl⟩,⟨rfl,rfl,rfl⟩,⟨rfl,rfl,rfl⟩,rfl,rfl,rfl⟩:=hc;refine⟨_,_,_,_,_,_,_,_,by rw[aN rfl],?_⟩;rw[show gZ r={r with names:=[]} by unfold gZ;rw[he];rfl];have M3:=((M2.pull 2 rfl).drop).nil (t:=25) underlying25;have M4:=(M3.pull 2 rfl).pull 2 rfl;exact Mem.joinVec (v:={r with names:=[]}) M4 wk wc we
theorem RZ {r rv:Vec} {rs:Str} {cs:List Value} (M:Mem prog w0 X w (.ow r.toD 38 cs::R)) (ga:bigV r) (he:kG r=(rv,rs)):Calls prog 161 #[av cs] w λe w'=>∃a0 a1 a2 a3 a4 a5 a6 a7,e= .returned (.tuple #[.agg #[a0,a1,a2,a3,a4,a5,a6,a7],sv rs])/\Mem prog w0 X w' (.ow rv.toD 38 [a0,a1,a2,a3,a4,a5,a6,a7]::R):=by
 obtain⟨a0,a1,a2,a3,a4,a5,a6,a7,rfl⟩:=M.vec8;refine(Ue r _ w (M.rp 0 rfl) ga).mono ?_;rintro e w' ⟨rfl,hb⟩;unfold kG at he;cases hv:isVec r with
 |true=>
  rw[hv,aN rfl]at he;injection he with e1 e2;subst e1 e2
  exact⟨_,_,_,_,_,_,_,_,rfl,M.next hb⟩
 |false=>
  rw[hv,aH dQ]at he;injection he with e1 e2;subst e1 e2
  exact⟨_,_,_,_,_,_,_,_,rfl,(M.next hb).drop.zeroVec⟩
theorem PJ {r rv:Vec} {rs:Str} {cs:List Value} (M:Mem prog w0 X w (.ow r.toD 38 cs::R)) (ga:bigV r) (he:kG r=(rv,rs)):Calls prog 124 #[av cs] w λe w'=>∃a0 a1 a2 a3 a4 a5 a6 a7,e= .returned (.tuple #[.agg #[a0,a1,a2,a3,a4,a5,a6,a7],sv rs])/\Mem prog w0 X w' (.ow rv.toD 38 [a0,a1,a2,a3,a4,a5,a6,a7]::R):=by
 obtain⟨a0,a1,a2,a3,a4,a5,a6,a7,rfl⟩:=M.vec8;refine(SJ r _ w (M.rp 0 rfl) ga).mono ?_;rintro e w' ⟨rfl,hb⟩;unfold kG at he;cases hv:isVec r with
 |true=>
  rw[hv,aN rfl]at he;injection he with e1 e2;subst e1 e2
  exact⟨_,_,_,_,_,_,_,_,rfl,M.next hb⟩
 |false=>
  rw[hv,aH dQ]at he;injection he with e1 e2;subst e1 e2
  exact⟨_,_,_,_,_,_,_,_,rfl,(M.next hb).drop.zeroVec⟩
theorem v9 {r rv:Vec} {cs:List Value} (M:Mem prog w0 X w (.ow r.toD 38 cs::R)) (he:gZ r=rv):Calls prog 154 #[av cs] w λe w'=>∃(Ai:Option Addr) (ci:Nat) (Ap:Option Addr) (cp:Nat) (An:Option Addr) (cn:Nat) (Ac:Option Addr) (cc:Nat) (Al:Option Addr) (cl:Nat),e= .returned (.agg #[rv.kind,.slice Ai rv.items.length ci,.slice Ap rv.parts.length cp,.slice An rv.names.length cn,.slice Ac rv.cls.length cc,.slice Al rv.levels.length cl,rv.code,rv.env])/\Mem prog w0 X w' (.ow rv.toD 38 [rv.kind,.slice Ai rv.items.length ci,.slice Ap rv.parts.length cp,.slice An rv.names.length cn,.slice Ac rv.cls.length cc,.slice Al rv.levels.length cl,rv.code,rv.env]::R):=by refine(Th M).mono ?_;rintro e w' ⟨a0,a1,a2,a3,a4,a5,a6,a7,rfl,M'⟩;rw[he]at M';obtain⟨Ai,ci,Ap,cp,An,cn,Ac,cc,Al,cl,h⟩:=M'.vecL;rw[h]at M';simp only[bF,cO]at h;obtain⟨rfl,rfl,rfl,rfl,rfl,rfl,rfl,rfl⟩:=h;exact⟨Ai,ci,Ap,cp,An,cn,Ac,cc,Al,cl,rfl,M'⟩
theorem zA {r rv:Vec} {rs:Str} {cs:List Value} (M:Mem prog w0 X w (.ow r.toD 38 cs::R)) (ga:bigV r) (he:kG r=(rv,rs)):Calls prog 161 #[av cs] w λe w'=>∃(Ai:Option Addr) (ci:Nat) (Ap:Option Addr) (cp:Nat) (An:Option Addr) (cn:Nat) (Ac:Option Addr) (cc:Nat) (Al:Option Addr) (cl:Nat),e= .returned (.tuple #[.agg #[rv.kind,.slice Ai rv.items.length ci,.slice Ap rv.parts.length cp,.slice An rv.names.length cn,.slice Ac rv.cls.length cc,.slice Al rv.levels.length cl,rv.code,rv.env],sv rs])/\Mem prog w0 X w' (.ow rv.toD 38 [rv.kind,.slice Ai rv.items.length ci,.slice Ap rv.parts.length cp,.slice An rv.names.length cn,.slice Ac rv.cls.length cc,.slice Al rv.levels.length cl,rv.code,rv.env]::R):=by refine(RZ M ga he).mono ?_;rintro e w' ⟨a0,a1,a2,a3,a4,a5,a6,a7,rfl,M'⟩;obtain⟨Ai,ci,Ap,cp,An,cn,Ac,cc,Al,cl,h⟩:=M'.vecL;rw[h]at M';simp only[bF,cO]at h;obtain⟨rfl,rfl,rfl,rfl,rfl,rfl,rfl,rfl⟩:=h;exact⟨Ai,ci,Ap,cp,An,cn,Ac,cc,Al,cl,rfl,M'⟩
theorem wU {r rv:Vec} {rs:Str} {cs:List Value} (M:Mem prog w0 X w (.ow r.toD 38 cs::R)) (ga:bigV r) (he:kG r=(rv,rs)):Calls prog 124 #[av cs] w λe w'=>∃(Ai:Option Addr) (ci:Nat) (Ap:Option Addr) (cp:Nat) (An:Option Addr) (cn:Nat) (Ac:Option Addr) (cc:Nat) (Al:Option Addr) (cl:Nat),e= .returned (.tuple #[.agg #[rv.kind,.slice Ai rv.items.length ci,.slice Ap rv.parts.length cp,.slice An rv.names.length cn,.slice Ac rv.cls.length cc,.slice Al rv.levels.length cl,rv.code,rv.env],sv rs])/\Mem prog w0 X w' (.ow rv.toD 38 [rv.kind,.slice Ai rv.items.length ci,.slice Ap rv.parts.length cp,.slice An rv.names.length cn,.slice Ac rv.cls.length cc,.slice Al rv.levels.length cl,rv.code,rv.env]::R):=by refine(PJ M ga he).mono ?_;rintro e w' ⟨a0,a1,a2,a3,a4,a5,a6,a7,rfl,M'⟩;obtain⟨Ai,ci,Ap,cp,An,cn,Ac,cc,Al,cl,h⟩:=M'.vecL;rw[h]at M';simp only[bF,cO]at h;obtain⟨rfl,rfl,rfl,rfl,rfl,rfl,rfl,rfl⟩:=h;exact⟨Ai,ci,Ap,cp,An,cn,Ac,cc,Al,cl,rfl,M'⟩
end
section
variable {w0 w:World} {X:List Nat} {R:List As} {g n c k:Nat}
theorem Mem.itemAt {l:List Item} {x:Item} (M:Mem prog w0 X w (.ow (.sl (l.map Item.toD)) 35 [.slice (some ⟨g,0,none⟩) n c]::R)) (hk:l[k]?=some x):
 w.cell? ⟨g,k*3,none⟩=some (.int .i64 x.num)/\w.cell? ⟨g,k*3+1,none⟩=some (.int .i64 x.den)/\w.cell? ⟨g,k*3+2,none⟩=some (sv x.text):=by
 have hr:=M.rp 0 rfl;have hn:=(ef hr).1;rw[au]at hn;obtain⟨b,o,z,e,-,hz,-,c0,c1,c2⟩:=pK (k:=k) hr sa;injection e with e;injection e with e1 e2;subst e1 e2
 rw[hk]at hz;injection hz with hz;subst hz
 rw[bI]at c0 c1 c2;exact⟨c0,c1,c2⟩
theorem Mem.setItemG {l:List Item} {x y:Item} (M:Mem prog w0 X w (.ow (.sl (l.map Item.toD)) 35 [.slice (some ⟨g,0,none⟩) n c]::R)) (hk:l[k]?=some x) (hy:itOK y):
 (∃u,w.cell? ⟨g,k*3,none⟩=some u)/\(∃u,w.cell? ⟨g,k*3+1,none⟩=some u)/\(∃u,w.cell? ⟨g,k*3+2,none⟩=some u)/\(∀j,w.frozen? ⟨g,j,none⟩=false)/\g<w.heap.size/\
  Mem prog w0 X (((w.setCell ⟨g,k*3,none⟩ (.int .i64 y.num)).setCell ⟨g,k*3+1,none⟩ (.int .i64 y.den)).setCell ⟨g,k*3+2,none⟩ (sv y.text)) (.ow (.sl ((l.set k y).map Item.toD)) 35 [.slice (some ⟨g,0,none⟩) n c]::R):=by
 obtain⟨g',e,h⟩:=M.setItem hk hy;injection e with e;injection e with e;subst e
 exact h
theorem Mem.intAt {l:List Int} {x:Int} (M:Mem prog w0 X w (.ow (.sl (l.map (.i .i64))) 26 [.slice (some ⟨g,0,none⟩) n c]::R)) (hk:l[k]?=some x):w.cell? ⟨g,k,none⟩=some (.int .i64 x)/\g<w.heap.size:=by
 have hr:=M.rp 0 rfl;have hn:=(ef hr).1;rw[au]at hn;obtain⟨_,_,_,he,-,-,hR,-⟩:=(qy _ _ _ _).1 hr;injection he with he;injection he with e1 e2 e3;subst e1 e2 e3
 obtain⟨b,o,z,e,hb,hz,c0⟩:=hR.atI (k:=k) sa;injection e with e;injection e with e1 e2;subst e1 e2
 rw[hk]at hz;injection hz with hz;subst hz
 rw[bI]at c0;exact⟨c0,hb⟩
theorem Mem.setStrG {l:List Str} {x y:Str} (M:Mem prog w0 X w (.ow (.sl (l.map .s)) 25 [.slice (some ⟨g,0,none⟩) n c]::R)) (hk:l[k]?=some x) (hy:y.length<=maxLen):
 (∃u,w.cell? ⟨g,k,none⟩=some u)/\(∀j,w.frozen? ⟨g,j,none⟩=false)/\g<w.heap.size/\
  Mem prog w0 X (w.setCell ⟨g,k,none⟩ (sv y)) (.ow (.sl ((l.set k y).map .s)) 25 [.slice (some ⟨g,0,none⟩) n c]::R):=by
 obtain⟨g',e,h⟩:=M.setStr hk hy;injection e with e;injection e with e;subst e
 exact h
end
theorem jn {l:List α} {z:α}:eY l l.length z=l:=by simp [eY]
theorem pD {l:List α} {z:α} (h:l.length<=m):(eY l m z).length=m:=by simp [eY];omega
theorem iM {l:List α} {z:α} (h:l.length<=m):eY l (m+1) z=eY l m z++[z]:=by unfold eY;rw[show m+1 - l.length=(m - l.length)+1 by omega,List.replicate_succ',aS]
theorem pE {l:List α} {z:α} (h:m<=l.length):eY l m z=l:=by simp [eY,show m - l.length=0 by omega]
def gS (l:List Str) (m:Nat):List Str:=if l=[] then[] else eY l m []
theorem sQ (h:l=[]\/l.length=m):gS l m=l:=by
 unfold gS;rcases h with rfl|rfl
 ·simp
 ·rw[jn];split<;>simp_all
theorem wN (h:l=[]\/l.length<=m) (hp:0<(gS l m).length):gS l (m+1)=gS l m++[[]]:=by
 unfold gS at hp ⊢;by_cases e:l=[]
 ·simp [e]at hp
 ·rw[aH e,aH e,iM (h.resolve_left e)]
theorem wM (hp:(gS l m).length=0):gS l n=gS l m:=by
 unfold gS at hp ⊢;by_cases e:l=[]
 ·simp [e]
 ·rw[aH e]at hp;simp only[eY,aY]at hp;exact absurd (aR.1 dP) e
theorem rR (h:l=[]\/l.length=n) (hm:m<=40) (hn:n<=40:=by omega):(gS l m).length<=40:=by
 unfold gS;split
 ·simp
 ·rename_i jC
  have:=h.resolve_left jC;simp only[eY,aY,List.length_replicate];omega
theorem Mem.lit1 (M:Mem P w0 X w (.bk g e cs:: .ow d e cs::R)) (ht:P.underlying t=some (.slice e)) (hs:P.cellsOf e=cs.length):
 Mem P w0 X w (.ow (.sl [d]) t [.slice (some ⟨g,0,none⟩) 1 1]::R):=
 Mem.as (C:=[_,_]) (C':=[_]) M λF hF _=>by
  obtain⟨F1,_,rfl,⟨rfl,hb⟩,F2,_,rfl,h2,rfl⟩:=hF;refine iQ.2 ?_;show own P w (.sl [d]) t _ _
  rw[own];refine⟨e,_,1,1,cs.length,[⟨cs,rfl⟩],F2,ht,hs,rfl,by decide,⟨rfl,by simp [Row.v],.inr ⟨g,1,cs.toArray,rfl,dj _,hb,af _,by decide,by simp,by simp [Row.v]⟩⟩,by simp [oz],?_⟩;rw[br,bL,iv];exact⟨F2,[],cs,[],by simp,rfl,h2,by rw[iv];exact⟨rfl,rfl⟩⟩
theorem Mem.open1 (M:Mem P w0 X w (.ow (.sl [d]) t [.slice (some ⟨g,0,none⟩) n c]::R)) (ht:P.underlying t=some (.slice e)):
 ∃cs post,Mem P w0 X w (.bk g e (cs++post):: .ow d e cs::R):=by
 obtain⟨F,h1,h2,h3⟩:=Mem.split [_] M;obtain⟨g',Fa,Fd,Fb,cs,pre,post,he,rfl,o1,o2,o3,-⟩:=ta (k:=0) ht (iQ.1 h1) rfl;injection he with he;injection he with he;subst he
 obtain rfl:pre=[]:=aR.1 (by simpa using o2);refine⟨cs,post,h3 w [_,_] (g::Fd) (fJ.2 ⟨[g],Fd,rfl,⟨rfl,o3⟩,iQ.2 o1⟩) ?_ (λx hx=> .inl wt) Mod.refl⟩;have q:=aQ.1 h2;simp only[aG,not_or]at q;exact aQ.2 ⟨q.1.2.1,(aE.1 (aE.1 q.2).2.1).1⟩
theorem Mem.setVecG {k:Nat} {l:List Vec} {x y:Vec} {a0 a1 a2 a3 a4 a5 a6 a7:Value} (M:Mem prog w0 X w (.ow (.sl (l.map Vec.toD)) 36 [.slice (some ⟨g,0,none⟩) n c]:: .ow y.toD 38 [a0,a1,a2,a3,a4,a5,a6,a7]::R)) (hk:l[k]?=some x):
 (∃u,w.cell? ⟨g,k*8,none⟩=some u)/\(∀j,j<8->∃u,w.cell? ⟨g,k*8+j,none⟩=some u)/\(∀j,w.frozen? ⟨g,j,none⟩=false)/\g<w.heap.size/\
  Mem prog w0 X ((((((((w.setCell ⟨g,k*8,none⟩ a0).setCell ⟨g,k*8+1,none⟩ a1).setCell ⟨g,k*8+2,none⟩ a2).setCell ⟨g,k*8+3,none⟩ a3).setCell ⟨g,k*8+4,none⟩ a4).setCell ⟨g,k*8+5,none⟩ a5).setCell ⟨g,k*8+6,none⟩ a6).setCell ⟨g,k*8+7,none⟩ a7) (.ow (.sl ((l.set k y).map Vec.toD)) 36 [.slice (some ⟨g,0,none⟩) n c]::R):=by
 obtain⟨g',e,-,h2,h3,h4,h5⟩:=M.setVec hk;injection e with e;injection e with e;subst e
 exact⟨h2 0 dQ,h2,h3,h4,h5⟩
theorem Mem.focus (C:List As) (M:Mem P w0 X w (C++R)):∃F,Mem P w F w C/\∀(w':World) (C':List As),Mem P w F w' C'->Mem P w0 X w' (C'++R):=by obtain⟨F,h1,h2,h3⟩:=Mem.split C M;refine⟨F,⟨Mod.refl,F,h1,h2,λg hg=> .inl hg⟩,λw' C' hm=>?_⟩;obtain⟨k1,G,k2,k3,k4⟩:=hm;exact h3 w' C' G k2 k3 k4 k1
structure FV (v:Vec):Prop where
 kind:0<=v.kind/\v.kind<=5
 len:v.items.length+v.parts.length<=40
 np:0<v.parts.length->v.kind=4
 ni:0<v.items.length->atomK v.kind=true
 names:∀x∈v.names,x.length<=60
 nn:v.names.length=0\/v.names.length=lenV v
 it:∀x∈v.items,itemOK v.kind x=true
 cls:v.cls.length<=3/\∀x∈v.cls,x.length<=60
 lev:v.levels.length<=20/\∀x∈v.levels,x.length<=60
 n5:v.kind=5->v.items.length=0/\v.parts.length=0/\v.names.length=0
theorem Yi {a l:List Str} (h:vE a l=true):∀x∈l,x.length<=60:=by
 induction l generalizing a with
 |nil=>simp
 |cons y t ih=>
  rw[vE]at h;simp only[ax,aL]at h;intro x hx;rcases aX.1 hx with rfl|hx
  ·exact h.1.1.2
  ·exact ih h.2 x hx
theorem Q0 (h:mF l m=true):l.length<=m/\∀x∈l,x.length<=60:=by simp only[mF,ax,aL]at h;exact⟨h.1,Yi h.2⟩
theorem FV.of (h:h_ v=true):FV v:=by
 simp only[h_,ax]at h;obtain⟨⟨⟨hA,hN⟩,hC⟩,hI⟩:=h;simp only[CO,ax,aL]at hA;obtain⟨⟨⟨k0,k5,hl⟩,hc⟩,kQ⟩:=hA;have hC2:IZ v.kind v.code v.env v.items.length v.parts.length v.names.length v.cls.length v.levels.length:=cD hC;obtain⟨c1,c2,c3,c4,c5⟩:=hC2;simp only[IY,ax,bX,aL,aV]at hN;rw[aV]at hI;have ad0:v.kind=5->v.parts.length=0:=λh5=>by
  rcases bz v.parts.length with h|h
  ·exact h
  ·have:=c2 h;omega
 have gK:v.items.length+v.parts.length<=40:=by
  by_cases h5:v.kind=5
  ·have:=c4 h5;have:=ad0 h5;omega
  ·rw[lenV,aH h5]at hl;exact hl
 have Uu:∀x∈v.items,atomK v.kind=true/\itemOK v.kind x=true:=λx hx=>by have:=hI x hx;simp only[wZ,SB,ax]at this;exact⟨this.1,this.2.1⟩
 refine⟨⟨k0,k5⟩,gK,c2,λh0=>?_,hN.2,?_,λx hx=>(Uu x hx).2,Q0 hc,Q0 kQ,λh5=>⟨(c4 h5).1,ad0 h5,(c4 h5).2.1⟩⟩
 ·exact(Uu _ (dA h0)).1
 ·rcases hN.1 with h|h
  ·exact .inl h
  ·exact .inr h.1
theorem jB {d:Nat} (h:okD d v=true):h_ v=true:=by cases d<;>(rw[okD]at h;simp only[ax]at h;exact h.1)
theorem JE (h1:1<=y) (h2:y<=40):nZ (l_ y)=true:=by unfold nZ l_;simp;omega
theorem DX (h1:1<=y) (h2:y<=40):isVec (nU [y])=true:=by
 have hi:=JE h1 h2;have hs:h_ (nU [y])=true:=by simp [h_,CO,IY,P6,wZ,SB,IZ,nU,lenV,mF,vE,atomK,itemOK,hi]
 unfold isVec;rw[show okD 3 (nU [y])=true by rw[okD,hs];rfl];simp [nU,jF,ik,lenV]
theorem Jh:bigV (nU [y]):=by unfold bigV;rw[go];simp [nU,szD,gv,l_,Item.toD]
theorem kV {B:Nat} (h:rep w B (nU [y]).toD cs):∃(sb so c1:Nat) (A2:Option Addr) (c2:Nat) (A3:Option Addr) (c3:Nat) (A4:Option Addr) (c4:Nat) (A5:Option Addr) (c5:Nat),
 cs=[.int .i64 2,.slice (some ⟨sb,so,none⟩) 1 c1,.slice A2 0 c2,.slice A3 0 c3,.slice A4 0 c4,.slice A5 0 c5,.int .i64 0,.int .i64 0]/\sb<B/\w.cell? ⟨sb,so,none⟩=some (.int .i64 y)/\w.cell? ⟨sb,so+1,none⟩=some (.int .i64 1)/\w.cell? ⟨sb,so+2,none⟩=some (sv []):=by
 obtain⟨Ai,ci,Ap,cp,An,cn,Ac,cc,Al,cl,rfl,wk,ri,rp,rn,rc,rl,wc,we⟩:=d_ h;have ri:rep w B (.sl ([l_ y].map Item.toD)) [.slice Ai 1 ci]:=ri;obtain⟨b,o,x,rfl,hb,hx,-,e0,e1,e2⟩:=pK ri (k:=0) dQ;obtain rfl:l_ y=x:=oh;simp only[dx,cF]at e0 e1 e2;exact⟨b,o,ci,Ap,cp,An,cn,Ac,cc,Al,cl,rfl,hb,e0,e1,e2⟩
def jq (l:List Int) (p:Str) (w:World) (e:Ending) (w':World):Prop:=∃(A:Option Addr) (c:Nat) (F:List Nat),e= .returned (.tuple #[.slice A l.length c,sv p])/\own prog w' (.sl (l.map (D.i .i64))) 26 F [.slice A l.length c]/\Fresh w.heap.size F/\Below w.heap.size w w'
theorem Mem.newPos {w':World} {e:Ending} {l:List Int} (M:Mem prog w0 X w R) (hn:jq l p w e w'):∃(A:Option Addr) (c:Nat),e= .returned (.tuple #[.slice A l.length c,sv p])/\Mem prog w0 X w' (.ow (.sl (l.map (D.i .i64))) 26 [.slice A l.length c]::R):=by obtain⟨A,c,F,rfl,ho,hf,hb⟩:=hn;exact⟨A,c,rfl,M.gain ho hf hb⟩
theorem Mem.retPos {l:List Int} {A:Option Addr} (h:Mem prog w0 [] w (.ow (.sl (l.map (D.i .i64))) 26 [.slice A l.length c]::R)):jq l p w0 (.returned (.tuple #[.slice A l.length c,sv p])) w:=by obtain⟨F,h1,h2,h3⟩:=h.fin;exact⟨A,c,F,rfl,h1,h2,h3⟩
section
variable {P:Program} {w0 w:World} {X:List Nat} {R:List As} {t e:TypeId}
theorem zX:∀{a b:List D} {F:List Nat} {css:List (List Value)},iv P w (a++b) e F css↔∃F1 F2 c1 c2,F=F1++F2/\css=c1++c2/\iv P w a e F1 c1/\iv P w b e F2 c2
 |[],b,F,css=>by
  constructor
  ·intro h;exact⟨[],F,[],css,rfl,rfl,by rw[iv];exact⟨rfl,rfl⟩,h⟩
  ·rintro⟨F1,F2,c1,c2,rfl,rfl,h1,h2⟩;rw[iv]at h1;obtain⟨rfl,rfl⟩:=h1;exact h2
 |x::t,b,F,css=>by
  rw[cK,iv];constructor
  ·rintro⟨F1,F2,c1,c2,rfl,rfl,h1,h2⟩;obtain⟨G1,G2,d1,d2,rfl,rfl,h3,h4⟩:=zX.1 h2;exact⟨F1++G1,G2,c1::d1,d2,by simp,rfl,by rw[iv];exact⟨F1,G1,c1,d1,rfl,rfl,h1,h3⟩,h4⟩
  ·rintro⟨F1,F2,c1,c2,rfl,rfl,h1,h2⟩;rw[iv]at h1;obtain⟨G1,G2,d1,d2,rfl,rfl,h3,h4⟩:=h1;exact⟨G1,G2++F2,d1,d2++c2,by simp,rfl,h3,zX.2 ⟨G2,F2,d2,c2,rfl,rfl,h4,h2⟩⟩
theorem Mem.hole {g n c k s:Nat} {xs:List D} {d:D} (M:Mem P w0 X w (.ow (.sl xs) t [.slice (some ⟨g,0,none⟩) n c]::R)) (ht:P.underlying t=some (.slice e)) (hs:P.cellsOf e=s) (hk:xs[k]?=some d):
 ∃cs pre post ca cb,pre.length=k*s/\cs.length=s/\n=xs.length/\Mem P w0 X w (.bk g e (pre++(cs++post)):: .ow d e cs:: .oa (xs.take k) e ca:: .oa (xs.drop (k+1)) e cb::R)/\
  ∀(Y4 w':World) (X':List Nat) (R':List As) (d':D) (cs':List Value),cs'.length=s->Mem P Y4 X' w' (.bk g e (pre++(cs'++post)):: .ow d' e cs':: .oa (xs.take k) e ca:: .oa (xs.drop (k+1)) e cb::R')->
   Mem P Y4 X' w' (.ow (.sl (xs.set k d')) t [.slice (some ⟨g,0,none⟩) n c]::R'):=by
 have Ch:k<xs.length:=(ay.1 hk).1;have ex:∀d',xs.set k d'=xs.take k++(d'::xs.drop (k+1)):=λd'=>(List.set_eq_take_append_cons_drop ..).trans (by rw[aN Ch])
 have ex0:xs=xs.take k++(d::xs.drop (k+1)):=by
  have h1:xs[k]=d:=by have:=aw Ch;rw[hk]at this;injection this with this;exact this.symm
  rw[<-h1,<-cR Ch,cA]
 obtain⟨F,hS,hF,h3⟩:=Mem.split [_] M;have h:=iQ.1 hS;change own P w (.sl xs) t F _ at h;rw[own]at h;obtain⟨e',A',n',c',s',fB,F2,h1,h2,h3',hm,h4,rfl,h6⟩:=h;obtain rfl:e=e':=by rw[ht]at h1;injection h1 with h1;injection h1
 obtain rfl:s=s':=hs.symm.trans h2;injection h3' with h3';injection h3' with e1 e2 e3;subst e1 e2 e3
 have gK:=zY h6;rw[au]at gK;have hn:=h4.1;rcases h4.2.2 with ⟨h0,h00⟩|⟨g',cap,pq,h0,hg,hh,hc,hmm,hz,hr⟩
 ·cases h0
 injection h0 with h0 _ h01
 injection h0 with h0
 injection h0 with h0
 subst h0 h01;have WA:k<fB.length:=dP;have er:∀r',fB.set k r'=fB.take k++(r'::fB.drop (k+1)):=λr'=>(List.set_eq_take_append_cons_drop ..).trans (by rw[aN WA])
 have er0:fB=fB.take k++(fB[k]::fB.drop (k+1)):=by rw[<-cR WA,cA]
 have h6':=h6;rw[ex0,er0,aI,br]at h6';obtain⟨Fa,Fz,ca,cz,rfl,ec,ha,hz6⟩:=zX.1 h6';rw[iv]at hz6;obtain⟨Fd,Fb,cd,cb,rfl,rfl,hd,hb⟩:=hz6;have hla:=zY ha;have hlk:(xs.take k).length=k:=sc;have hlr:((fB.take k).map Row.v).length=k:=by rw[au,de];omega
 obtain⟨rfl,ec2⟩:=List.append_inj ec dP;injection ec2 with ec2 ec3
 subst ec2 ec3;have lp:((fB.take k).flatMap Row.v).length=k*s:=by rw[gN Row.len,de];congr 1;omega
 have adl:pq.toList=(fB.take k).flatMap Row.v++(fB[k].v++((fB.drop (k+1)).flatMap Row.v++pq.toList.drop (n*s))):=by
  have h9:=cA (n*s) pq.toList;have h10:fB.flatMap Row.v=(fB.take k).flatMap Row.v++(fB[k].v++(fB.drop (k+1)).flatMap Row.v):=by
   conv=>lhs;rw[er0]
   rw[cj,cB]
  rw[hr,h10]at h9;refine h9.symm.trans ?_;simp only[aS]
 refine⟨fB[k].v,(fB.take k).flatMap Row.v,(fB.drop (k+1)).flatMap Row.v++pq.toList.drop (n*s),(fB.take k).map Row.v,(fB.drop (k+1)).map Row.v,lp,Row.len _,by omega,?_,?_⟩
 ·have hB:Blk w g e ((fB.take k).flatMap Row.v++(fB[k].v++((fB.drop (k+1)).flatMap Row.v++pq.toList.drop (n*s)))):=by unfold Blk;rw[<-adl];exact hh
  have ZD:(g::(Fd++(Fa++(Fb++[])))).Perm (oz (some ⟨g,0,none⟩)++(Fa++(Fd++Fb))):=by simp only[oz,bP,List.singleton_append];refine List.Perm.cons _ ?_;rw[<-aS,<-aS];exact List.perm_append_comm.append_right _
  refine h3 w [_,_,_,_] (g::(Fd++(Fa++(Fb++[])))) (fJ.2 ⟨[g],_,rfl,⟨rfl,hB⟩,fJ.2 ⟨Fd,_,rfl,hd,fJ.2 ⟨Fa,_,rfl,ha,fJ.2 ⟨Fb,_,rfl,hb,rfl⟩⟩⟩⟩) ?_ (λx hx=> .inl (ZD.mem_iff.1 hx)) Mod.refl;exact ZD.nodup_iff.2 hF
 ·intro Y4 w' X' R' d' cs' JC M';have M2:=M'.perm (M:=_::_::_::_::R') ((List.Perm.swap _ _ _).cons _);refine Mem.as (C:=[_,_,_,_]) (C':=[_]) M2 λG hG _=>?_
  obtain⟨G1,_,rfl,⟨rfl,hB⟩,G2,_,rfl,q2,G3,_,rfl,q3,G4,_,rfl,q4,rfl⟩:=hG;refine iQ.2 ?_;show own P w' (.sl (xs.set k d')) t _ _
  rw[own];have e5:(fB.set k ⟨cs',JC⟩).map Row.v=(fB.take k).map Row.v++(cs'::(fB.drop (k+1)).map Row.v):=by rw[er,aI,br]
  have e6:(fB.set k ⟨cs',JC⟩).flatMap Row.v=(fB.take k).flatMap Row.v++(cs'++(fB.drop (k+1)).flatMap Row.v):=by rw[er,cj,cB]
  refine⟨e,_,n,c,s,fB.set k ⟨cs',JC⟩,G2++(G3++G4),ht,hs,rfl,hm,⟨by rw[da];exact hn,by rw[gN Row.len,da,hn],.inr ⟨g,c,((fB.take k).flatMap Row.v++(cs'++((fB.drop (k+1)).flatMap Row.v++pq.toList.drop (n*s)))).toArray,rfl,dj _,hB,hc,hmm,?_,?_⟩⟩,by simp [oz],?_⟩
  ·have h7:pq.toList.length=c*s:=by rw[Array.length_toList];exact hz
   rw[adl]at h7;have:fB[k].v.length=s:=Row.len _;simp only[List.size_toArray,aY]at h7 ⊢;omega
  ·exact GO
  ·rw[e5,ex];exact zX.2 ⟨G2,G3++G4,_,_,rfl,rfl,q2,by rw[iv];exact⟨G3,G4,cs',_,rfl,rfl,q3,q4⟩⟩
end
section
variable {P:Program} {w0 w:World} {X:List Nat} {R:List As} {t:TypeId} {g:Nat} {d:D} {cs:List Value}
theorem Mem.bxOpen (M:Mem P w0 X w (.bx g d t::R)):∃cs,Mem P w0 X w (.bk g t cs:: .ow d t cs::R):=by obtain⟨hm,FF,s1,s2,s3⟩:=M;obtain⟨G,Fr,rfl,⟨cs,F',rfl,hB,ho⟩,hr⟩:=s1;exact⟨cs,hm,_,⟨[g],_,rfl,⟨rfl,hB⟩,F',Fr,rfl,ho,hr⟩,s2,s3⟩
theorem Mem.bxShut (M:Mem P w0 X w (.bk g t cs:: .ow d t cs::R)):Mem P w0 X w (.bx g d t::R):=by obtain⟨hm,FF,s1,s2,s3⟩:=M;obtain⟨_,_,rfl,⟨rfl,hB⟩,F',Fr,rfl,ho,hr⟩:=s1;exact⟨hm,_,⟨g::F',Fr,rfl,⟨cs,F',rfl,hB,ho⟩,hr⟩,s2,s3⟩
theorem Blk.seg {m j:Nat} {pre post:List Value} {v:Value} (q:Blk w g t (pre++(cs++post))) (hp:pre.length=m) (hj:cs[j]?=some v):w.cell? ⟨g,m+j,none⟩=some v:=by refine(q.cell (m+j)).trans ?_;subst hp;rw[cV dP,Nat.add_sub_cancel_left,cY (ay.1 hj).1,hj]
theorem Mem.putSeg {m j:Nat} {pre post:List Value} {u:Value} (M:Mem P w0 X w (.bk g t (pre++(cs++post))::R)) (hp:pre.length=m) (hj:j<cs.length):Mem P w0 X (w.setCell ⟨g,m+j,none⟩ u) (.bk g t (pre++(cs.set j u++post))::R):=by
 have M2:=M.put (m+j) u;subst hp
 rwa [dI _ _ dP,Nat.add_sub_cancel_left,List.set_append_left _ _ hj]at M2
end
section
variable {w0 w:World} {X:List Nat} {R:List As}
theorem Mem.heapCall {f:Nat} {args:Array Value} {Ψ:Ending->World->Prop} {v:Value} {h h':Hp} {g:Nat} (M:Mem prog w0 X w (.bx g h.toD 28::R))
 (hc:∀F,HB w g h F->(∀y∈g::F,y∈X\/w0.heap.size<=y)->Calls prog f args w λe w'=>e= .returned v/\∃F',HB w' g h' F'/\Sub w.heap.size F F'/\Mod (g::F) w w')
 (hK:∀w',Mem prog w0 X w' (.bx g h'.toD 28::R)->Ψ (.returned v) w'):Calls prog f args w Ψ:=by
 obtain⟨hm,FF,s1,s2,s3⟩:=M;obtain⟨G,Fr,rfl,⟨cs,F,rfl,kB,o⟩,hr⟩:=s1;have q:=aE.1 s2;refine(hc F ⟨cs,kB,o,q.1⟩ (λy hy=>s3 y (aG.2 (.inl hy)))).mono ?_;rintro e w' ⟨rfl,F',⟨cs',IG,o',nd'⟩,hS,hM⟩;refine hK w' ⟨hm.trans hM (λx hx=>s3 x (aG.2 (.inl hx))),(g::F')++Fr,⟨g::F',Fr,rfl,⟨cs',F',rfl,IG,o'⟩,th hr λx hx=>hM.2.2 x (wY hr x hx) λhc=>q.2.2 x hc x hx rfl⟩,?_,?_⟩
 ·exact aE.2 ⟨nd',q.2.1,λa ha b hb e=>by
   subst e;rcases kj hS a ha with h1|h1
   ·exact q.2.2 a h1 a hb rfl
   ·have:=wY hr a hb;omega⟩
 ·intro x hx;rcases aG.1 hx with hx|hx
  ·rcases kj hS x hx with h1|h1
   ·exact s3 x (aG.2 (.inl h1))
   ·right;have:=hm.size;omega
  ·exact s3 x (aG.2 (.inr hx))
theorem Mem.openHeap {h:Hp} {cs:List Value} (M:Mem prog w0 X w (.ow h.toD 28 cs::R)):∃(Ac:Option Addr) (cc:Nat) (An:Option Addr) (cn:Nat) (As:Option Addr) (ck:Nat),cs=[.slice Ac h.cells.length cc,.slice An h.names.length cn,.slice As h.slots.length ck,.int .i64 h.copies]/\(Lit.int .i64 h.copies).wf=true/\
 Mem prog w0 X w (.ow (.sl (h.cells.map Cel.toD)) 24 [.slice Ac h.cells.length cc]:: .ow (.sl (h.names.map .s)) 25 [.slice An h.names.length cn]:: .ow (.sl (h.slots.map (.i .i64))) 26 [.slice As h.slots.length ck]::R):=by
 obtain⟨F,h1,h2,h3⟩:=Mem.split [_] M;obtain⟨A1,n1,c1,A2,n2,c2,A3,n3,c3,F1,F2,F3,rfl,rfl,o1,o2,o3⟩:=tC (iQ.1 h1);obtain⟨_,_,_,_,_,_,_,_,_,_,_,_,_,wf⟩:=iP (eW _ _ _ _ (iQ.1 h1));have l1:=(ef (eW _ _ _ _ o1)).1;have l2:=(ef (eW _ _ _ _ o2)).1;have l3:=(ef (eW _ _ _ _ o3)).1;rw[au]at l1 l2 l3;subst l1 l2 l3;exact⟨A1,c1,A2,c2,A3,c3,rfl,wf,h3 w [_,_,_] _ ⟨F1,_,rfl,o1,F2,_,rfl,o2,F3,_,rfl,o3,rfl⟩ h2 (λg hg=> .inl hg) Mod.refl⟩
theorem Mem.openVecL {v:Vec} {Ai:Option Addr} {ni ci:Nat} {Ap:Option Addr} {np cp:Nat} {An:Option Addr} {nn cn:Nat} {Ac:Option Addr} {nc cc:Nat} {Al:Option Addr} {nl cl:Nat} {k co en:Value} (M:Mem prog w0 X w (.ow v.toD 38 [k,.slice Ai ni ci,.slice Ap np cp,.slice An nn cn,.slice Ac nc cc,.slice Al nl cl,co,en]::R)):
 Mem prog w0 X w (.ow (.sl (v.items.map Item.toD)) 35 [.slice Ai ni ci]:: .ow (.sl (v.parts.map Vec.toD)) 36 [.slice Ap np cp]:: .ow (.sl (v.names.map .s)) 25 [.slice An nn cn]:: .ow (.sl (v.cls.map .s)) 25 [.slice Ac nc cc]:: .ow (.sl (v.levels.map .s)) 25 [.slice Al nl cl]::R):=by
 obtain⟨_,_,_,_,_,_,_,_,_,_,_,_,_,_,_,he,M'⟩:=M.openVec;simp only[bF,bG,cO]at he;obtain⟨-,⟨rfl,rfl,rfl⟩,⟨rfl,rfl,rfl⟩,⟨rfl,rfl,rfl⟩,⟨rfl,rfl,rfl⟩,⟨rfl,rfl,rfl⟩,-⟩:=he;exact M'
theorem Mem.openCell {x:Cel} {cs:List Value} (M:Mem prog w0 X w (.ow x.toD 43 cs::R)):∃(cv:List Value) (Aq:Option Addr) (cq:Nat),cs= .int .i64 x.count::(cv++[.slice Aq x.parts.length cq])/\(Lit.int .i64 x.count).wf=true/\
 Mem prog w0 X w (.ow x.value.toD 38 cv:: .ow (.sl (x.parts.map (.i .i64))) 26 [.slice Aq x.parts.length cq]::R):=by
 obtain⟨F,h1,h2,h3⟩:=Mem.split [_] M;obtain⟨A1,n1,c1,A2,n2,c2,A3,n3,c3,A4,n4,c4,A5,n5,c5,Aq,nq,cq,F1,F2,F3,F4,F5,Fp,rfl,rfl,o1,o2,o3,o4,o5,op⟩:=jp (iQ.1 h1);obtain⟨_,_,_,_,_,_,_,_,_,_,_,_,_,_,_,_,_,_,-,wf,rv,-⟩:=i8 (eW _ _ _ _ (iQ.1 h1));obtain⟨_,_,_,_,_,_,_,_,_,_,-,wk,-,-,-,-,-,wc,we⟩:=d_ rv;have l1:=(ef (eW _ _ _ _ op)).1;rw[au]at l1;subst l1;exact⟨_,Aq,cq,rfl,wf,h3 w [_,_] _ ⟨_,_,rfl,jD wk o1 o2 o3 o4 o5 wc we,Fp,_,rfl,op,rfl⟩ h2 (λg hg=> .inl hg) Mod.refl⟩
theorem Mem.cellOut {g n c k:Nat} {l:List Cel} {x:Cel} (M:Mem prog w0 X w (.ow (.sl (l.map Cel.toD)) 24 [.slice (some ⟨g,0,none⟩) n c]::R)) (hk:l[k]?=some x):
 ∃(Ai:Option Addr) (ci:Nat) (Ap:Option Addr) (cp:Nat) (An:Option Addr) (cn:Nat) (Ac:Option Addr) (cc:Nat) (Al:Option Addr) (cl:Nat) (Aq:Option Addr) (cq:Nat) (pre post:List Value) (ca cb:List (List Value)),pre.length=k*10/\n=l.length/\(Lit.int .i64 x.count).wf=true/\(Lit.int .i64 x.value.kind).wf=true/\(Lit.int .i64 x.value.code).wf=true/\(Lit.int .i64 x.value.env).wf=true/\
  Mem prog w0 X w (.bk g 43 (pre++([.int .i64 x.count,.int .i64 x.value.kind,.slice Ai x.value.items.length ci,.slice Ap x.value.parts.length cp,.slice An x.value.names.length cn,.slice Ac x.value.cls.length cc,.slice Al x.value.levels.length cl,.int .i64 x.value.code,.int .i64 x.value.env,.slice Aq x.parts.length cq]++post)):: .ow (.sl (x.value.items.map Item.toD)) 35 [.slice Ai x.value.items.length ci]:: .ow (.sl (x.value.parts.map Vec.toD)) 36 [.slice Ap x.value.parts.length cp]:: .ow (.sl (x.value.names.map .s)) 25 [.slice An x.value.names.length cn]:: .ow (.sl (x.value.cls.map .s)) 25 [.slice Ac x.value.cls.length cc]:: .ow (.sl (x.value.levels.map .s)) 25 [.slice Al x.value.levels.length cl]:: .ow (.sl (x.parts.map (.i .i64))) 26 [.slice Aq x.parts.length cq]:: .oa ((l.map Cel.toD).take k) 43 ca:: .oa ((l.map Cel.toD).drop (k+1)) 43 cb::R)/\
  ∀(Y4 w':World) (X':List Nat) (R':List As) (y:Cel) (Ai:Option Addr) (ni ci:Nat) (Ap:Option Addr) (np cp:Nat) (An:Option Addr) (nn cn:Nat) (Ac:Option Addr) (nc cc:Nat) (Al:Option Addr) (nl cl:Nat) (Aq:Option Addr) (nq cq:Nat),(Lit.int .i64 y.count).wf=true->(Lit.int .i64 y.value.kind).wf=true->(Lit.int .i64 y.value.code).wf=true->(Lit.int .i64 y.value.env).wf=true->
   Mem prog Y4 X' w' (.bk g 43 (pre++([.int .i64 y.count,.int .i64 y.value.kind,.slice Ai ni ci,.slice Ap np cp,.slice An nn cn,.slice Ac nc cc,.slice Al nl cl,.int .i64 y.value.code,.int .i64 y.value.env,.slice Aq nq cq]++post)):: .ow (.sl (y.value.items.map Item.toD)) 35 [.slice Ai ni ci]:: .ow (.sl (y.value.parts.map Vec.toD)) 36 [.slice Ap np cp]:: .ow (.sl (y.value.names.map .s)) 25 [.slice An nn cn]:: .ow (.sl (y.value.cls.map .s)) 25 [.slice Ac nc cc]:: .ow (.sl (y.value.levels.map .s)) 25 [.slice Al nl cl]:: .ow (.sl (y.parts.map (.i .i64))) 26 [.slice Aq nq cq]:: .oa ((l.map Cel.toD).take k) 43 ca:: .oa ((l.map Cel.toD).drop (k+1)) 43 cb::R')->
   Mem prog Y4 X' w' (.ow (.sl ((l.set k y).map Cel.toD)) 24 [.slice (some ⟨g,0,none⟩) n c]::R'):=by
 obtain⟨cs,pre,post,ca,cb,h1,h2,h3,M1,h4⟩:=M.hole underlying24 (s:=10) dU (show (l.map Cel.toD)[k]?=some x.toD by rw[cg,hk];rfl);have M2:=M1.pull 1 rfl;obtain⟨cv,Aq,cq,rfl,wf1,M3⟩:=M2.openCell;obtain⟨Ai,ci,Ap,cp,An,cn,Ac,cc,Al,cl,rfl,wk,-,-,-,-,-,wc,we⟩:=d_ (M3.rp 0 rfl);have M4:=M3.openVecL;refine⟨Ai,ci,Ap,cp,An,cn,Ac,cc,Al,cl,Aq,cq,pre,post,ca,cb,h1,by rw[h3,au],wf1,wk,wc,we,M4.pull 6 rfl,?_⟩;intro Y4 w' X' R' y Ai ni ci Ap np cp An nn cn Ac nc cc Al nl cl Aq nq cq q1 q2 q3 q4 M';have e:(l.set k y).map Cel.toD=(l.map Cel.toD).set k y.toD:=by rw[dH]
 rw[e];refine h4 Y4 w' X' R' y.toD ([y.count,y.value.kind,.slice Ai ni ci,.slice Ap np cp,.slice An nn cn,.slice Ac nc cc,.slice Al nl cl,y.value.code,y.value.env,.slice Aq nq cq]) rfl ?_;have M5:Mem prog Y4 X' w' (.ow (.sl (y.value.items.map Item.toD)) 35 [.slice Ai ni ci]:: .ow (.sl (y.value.parts.map Vec.toD)) 36 [.slice Ap np cp]:: .ow (.sl (y.value.names.map .s)) 25 [.slice An nn cn]:: .ow (.sl (y.value.cls.map .s)) 25 [.slice Ac nc cc]:: .ow (.sl (y.value.levels.map .s)) 25 [.slice Al nl cl]:: .ow (.sl (y.parts.map (.i .i64))) 26 [.slice Aq nq cq]:: .bk g 43 (pre++([.int .i64 y.count,.int .i64 y.value.kind,.slice Ai ni ci,.slice Ap np cp,.slice An nn cn,.slice Ac nc cc,.slice Al nl cl,.int .i64 y.value.code,.int .i64 y.value.env,.slice Aq nq cq]++post)):: .oa ((l.map Cel.toD).take k) 43 ca:: .oa ((l.map Cel.toD).drop (k+1)) 43 cb::R'):=M'.perm (by refine List.Perm.trans (List.perm_middle (l₁:=[_,_,_,_,_,_])).symm ?_;exact List.Perm.refl _)
 have M6:=(M5.joinVec q2 q3 q4).joinCell (x:=y) q1;exact M6.pull 1 rfl
end
section
variable {P:Program} {ops:Array Oper} {Q:Exit->Act->World->Prop} {o:Oper} {rest:List Oper} {D0:List Deferred} {T T':Array Value} {w w' w0:World} {X:List Nat} {L L':List As} {g:Nat} {t e:TypeId} {cs cs':List Value}
def AD (w:World) (g m:Nat):Nat->List Value->Prop
 |_,[]=>True
 |k,v::t=>w.cell? ⟨g,m+k,none⟩=some v/\AD w g m (k+1) t
theorem Jk {w:World} {g m:Nat} {t:TypeId} {pre cs post:List Value} (h:Blk w g t (pre++(cs++post))) (hp:pre.length=m):∀(l:List Value) (k:Nat),(∀i,i<l.length->l[i]?=cs[k+i]?)->AD w g m k l
 |[],_,_=>bO
 |v::l,k,hl=>⟨h.seg hp (by rw[<-cF k,<-hl 0 dR];rfl),Jk h hp l (k+1) λi hi=>by have:=hl (i+1) dS;rw[ag]at this;rw[this];congr 1;omega⟩
theorem Blk.mid {w:World} {g m:Nat} {t:TypeId} {pre cs post:List Value} (h:Blk w g t (pre++(cs++post))) (hp:pre.length=m):AD w g m 0 cs:=Jk h hp cs 0 λi _=>by rw[bI]
inductive PutsM (g m:Nat) (w:World) (cs:List Value):World->List Value->Prop
 |nil:PutsM g m w cs w cs
 |zero {w1:World} {cs1:List Value} {u:Value}:PutsM g m w cs w1 cs1->0<cs1.length->PutsM g m w cs (w1.setCell ⟨g,m,none⟩ u) (cs1.set 0 u)
 |cons {w1:World} {cs1:List Value} {k:Nat} {u:Value}:PutsM g m w cs w1 cs1->k<cs1.length->PutsM g m w cs (w1.setCell ⟨g,m+k,none⟩ u) (cs1.set k u)
 |two {w1:World} {cs1:List Value} {a b:Nat} {u:Value}:PutsM g m w cs w1 cs1->a+b<cs1.length->PutsM g m w cs (w1.setCell ⟨g,m+a+b,none⟩ u) (cs1.set (a+b) u)
theorem Mem.putsM {X:List Nat} {R:List As} {t:TypeId} {g m:Nat} {w w':World} {cs cs' pre post:List Value} (hp:PutsM g m w cs w' cs') (iZ:pre.length=m) (M:Mem P w0 X w (.bk g t (pre++(cs++post))::R)):Mem P w0 X w' (.bk g t (pre++(cs'++post))::R):=by
 induction hp with
 |nil=>exact M
 |@zero w1 cs1 u _ hl ih=>have:=Mem.putSeg (j:=0) (u:=u) ih iZ hl;simpa using this
 |cons _ hl ih=>exact Mem.putSeg ih iZ hl
 |two _ hl ih=>rw[Nat.add_assoc];exact Mem.putSeg ih iZ hl
theorem Sh {p:Prop} (hp:p) (M:Mem P w0 X w L) (rs:List Nat) (n:Nat) {os:List Oper} (h:WL P ops Q rest ⟨T',D0⟩ w) (h0:∀(K:Act->World->Prop) (Z:Exit->Act->World->Prop),p->xm w L rs->K ⟨T',D0⟩ w->BN P ops K Z (os.take n) ⟨T,D0⟩ w:=by intro K Z hq hc hK;(simp only[xm,ju,AD,cF,ag,ah,Nat.reduceAdd,and_assoc]at hq hc);(try simp only[cG,cL]);(repeat (refine Qu ?_;go_simp;(try(rw[FM];rotate_left;omega))));exact Kt hK) (hd:os.drop n=rest:=by(simp only[dN,List.drop_zero])<;>with_reducible rfl):WL P ops Q os ⟨T,D0⟩ w:=Cu n os _ _ (h0 _ _ hp (M.facts rs) (by rw[hd];exact h))
theorem Sm {pre post:List Value} {m:Nat} (M:Mem P w0 X w (.bk g t (pre++(cs++post))::L)) (iZ:pre.length=m) (h:∀w',Mem P w0 X w' (.bk g t (pre++(cs'++post))::L)->WL P ops Q rest ⟨T',D0⟩ w')
 (h0:∀(K:Act->World->Prop) (Z:Exit->Act->World->Prop),AD w g m 0 cs->(∀i,w.frozen? ⟨g,i,none⟩=false)->g<w.heap.size->K ⟨T',D0⟩ w'->if Region.wanted o (yielded ops T)=true then Oper.wp P o ⟨T,D0⟩ w K Z else K ((Act.mk T D0).put o.dst undef) w:=by intro K Z hc hf hg hK;simp only[AD,Nat.reduceAdd,cF]at hc;go_simp;exact hK)
 {cs1:List Value} (hp:PutsM g m w cs w' cs1:=by(repeat'(first|with_reducible exact PutsM.nil|(with_reducible apply PutsM.cons)|(with_reducible apply PutsM.zero)|(with_reducible apply PutsM.two)))<;>simp) (hL:cs1=cs':=by(simp only[a_,be,Nat.reduceAdd])<;>with_reducible rfl):WL P ops Q (o::rest) ⟨T,D0⟩ w:=
 oL λK hK=>h0 K Q ((M.bl 0 rfl).mid iZ) (M.bl 0 rfl).frozen (M.bl 0 rfl).lt (hK _ _ (h _ (by rw[<-hL];exact Mem.putsM hp iZ M)))
end
def apL:List As->List As->List As
 |[],r=>r
 |x::t,r=>x::apL t r
theorem Ij {ops:Array Oper} {Q:Exit->Act->World->Prop} {o:Oper} {rest:List Oper} {D0:List Deferred} {T:Array Value} {L:List As} (M:Mem P w0 X w L) (n:Nat) (V:Gh->Value) (N:Gh->List As) {T1:Gh->Array Value} {L2:Gh->List As}
 (h0:∀(K:Act->World->Prop) (Z:Exit->Act->World->Prop),(∀x w',Mem P w0 X w' (apL (N x) (L.drop n))->K ((Act.mk T D0).put o.dst (V x)) w')->if Region.wanted o (yielded ops T)=true then Oper.wp P o ⟨T,D0⟩ w K Z else K ((Act.mk T D0).put o.dst undef) w)
 (h:∀x w',Mem P w0 X w' (L2 x)->WL P ops Q rest ⟨T1 x,D0⟩ w')
 (hT:∀x,(Act.mk T D0).put o.dst (V x)=⟨T1 x,D0⟩:=by intro x;(simp only[Act.put,bh,a_,be])<;>with_reducible rfl) (hL:∀x,apL (N x) (L.drop n)=L2 x:=by intro x;(simp only[dN,List.drop_zero,apL])<;>with_reducible rfl):WL P ops Q (o::rest) ⟨T,D0⟩ w:=
 oL λK hK=>h0 K Q λx w' M'=>hK _ _ (by rw[hT];exact h x w' (by rw[<-hL];exact M'))
theorem lS {f:Nat} {args:Array Value} {Ψ:Ending->World->Prop} {v:Value} (hc:Calls P f args w λe w'=>e= .returned v/\Mem P w0 X w' R) (hK:∀(_:Gh) w',Mem P w0 X w' R->Ψ (.returned v) w'):Calls P f args w Ψ:=
 hc.mono λe w' q=>by obtain⟨rfl,M⟩:=q;exact hK (mA 0) w' M
theorem Mem.turn {C:List As} (M:Mem P w0 X w (C++R)):∃F,Sats P w C F/\F.Nodup/\∀(w':World) (C':List As),Sats P w' C' F->Mod F w w'->Mem P w0 X w' (C'++R):=by obtain⟨hm,G,h1,h2,h3⟩:=M;obtain⟨F1,F2,rfl,h4,h5⟩:=nL.1 h1;obtain⟨n1,n2,n3⟩:=aE.1 h2;refine⟨F1,h4,n1,λw' C' hs md=>⟨hm.trans md (λg hg=>h3 g fe),F1++F2,nL.2 ⟨F1,F2,rfl,hs,th h5 λg hg=>md.2.2 g (wY h5 g hg) (λhf=>n3 g hf g hg rfl)⟩,h2,h3⟩⟩
section
variable {w0 w:World} {X:List Nat} {R:List As} {f:Nat} {args:Array Value} {Ψ:Ending->World->Prop} {v:Vec} {y:Value}
theorem Ik {α:Type} {g:α->D} {l:List α} {t:TypeId} (h:Calls prog f args w (oK (l.map g) t w)) (M:Mem prog w0 X w R) (hK:∀(x:Gh) w',Mem prog w0 X w' (.ow (.sl (l.map g)) t [.slice x.a l.length x.c]::R)->Ψ (.returned (.slice x.a l.length x.c)) w'):Calls prog f args w Ψ:=
 h.mono λe w' hn=>by obtain⟨A',c',rfl,M'⟩:=M.newMap hn;exact hK (Ov A' c') w' M'
theorem Xe (h:Calls prog f args w (gM v.toD 38 w)) (M:Mem prog w0 X w R) (hK:∀(x:Gh) w',Mem prog w0 X w' (.ow (.sl (v.items.map Item.toD)) 35 [.slice (x.A 1) v.items.length (x.C 1)]:: .ow (.sl (v.parts.map Vec.toD)) 36 [.slice (x.A 2) v.parts.length (x.C 2)]:: .ow (.sl (v.names.map .s)) 25 [.slice (x.A 3) v.names.length (x.C 3)]:: .ow (.sl (v.cls.map .s)) 25 [.slice (x.A 4) v.cls.length (x.C 4)]:: .ow (.sl (v.levels.map .s)) 25 [.slice (x.A 5) v.levels.length (x.C 5)]::R)->Ψ (.returned (.agg #[v.kind,.slice (x.A 1) v.items.length (x.C 1),.slice (x.A 2) v.parts.length (x.C 2),.slice (x.A 3) v.names.length (x.C 3),.slice (x.A 4) v.cls.length (x.C 4),.slice (x.A 5) v.levels.length (x.C 5),v.code,v.env])) w'):Calls prog f args w Ψ:=
 h.mono λe w' hn=>by obtain⟨Ai,ci,Ap,cp,An,cn,Ac,cc,Al,cl,rfl,M'⟩:=M.newVec hn;exact hK (Ow [(none,0),(Ai,ci),(Ap,cp),(An,cn),(Ac,cc),(Al,cl)]) w' M'
theorem qS (h:Calls prog f args w (eH v.toD 38 y w)) (M:Mem prog w0 X w R) (hK:∀(x:Gh) w',Mem prog w0 X w' (.ow (.sl (v.items.map Item.toD)) 35 [.slice (x.A 1) v.items.length (x.C 1)]:: .ow (.sl (v.parts.map Vec.toD)) 36 [.slice (x.A 2) v.parts.length (x.C 2)]:: .ow (.sl (v.names.map .s)) 25 [.slice (x.A 3) v.names.length (x.C 3)]:: .ow (.sl (v.cls.map .s)) 25 [.slice (x.A 4) v.cls.length (x.C 4)]:: .ow (.sl (v.levels.map .s)) 25 [.slice (x.A 5) v.levels.length (x.C 5)]::R)->Ψ (.returned (.tuple #[.agg #[v.kind,.slice (x.A 1) v.items.length (x.C 1),.slice (x.A 2) v.parts.length (x.C 2),.slice (x.A 3) v.names.length (x.C 3),.slice (x.A 4) v.cls.length (x.C 4),.slice (x.A 5) v.levels.length (x.C 5),v.code,v.env],y])) w'):Calls prog f args w Ψ:=
 h.mono λe w' hn=>by obtain⟨Ai,ci,Ap,cp,An,cn,Ac,cc,Al,cl,rfl,M'⟩:=M.newVecTwo hn;exact hK (Ow [(none,0),(Ai,ci),(Ap,cp),(An,cn),(Ac,cc),(Al,cl)]) w' M'
theorem tI (h:Calls prog f args w (gM v.toD 38 w)) (M:Mem prog w0 X w R) (hK:∀(x:Gh) w',Mem prog w0 X w' (.ow v.toD 38 [v.kind,.slice (x.A 1) v.items.length (x.C 1),.slice (x.A 2) v.parts.length (x.C 2),.slice (x.A 3) v.names.length (x.C 3),.slice (x.A 4) v.cls.length (x.C 4),.slice (x.A 5) v.levels.length (x.C 5),v.code,v.env]::R)->Ψ (.returned (.agg #[v.kind,.slice (x.A 1) v.items.length (x.C 1),.slice (x.A 2) v.parts.length (x.C 2),.slice (x.A 3) v.names.length (x.C 3),.slice (x.A 4) v.cls.length (x.C 4),.slice (x.A 5) v.levels.length (x.C 5),v.code,v.env])) w'):Calls prog f args w Ψ:=
 h.mono λe w' hn=>by obtain⟨cs,rfl,M'⟩:=M.newSt hn;obtain⟨Ai,ci,Ap,cp,An,cn,Ac,cc,Al,cl,rfl⟩:=M'.vecL;exact hK (Ow [(none,0),(Ai,ci),(Ap,cp),(An,cn),(Ac,cc),(Al,cl)]) w' M'
theorem AH (h:Calls prog f args w (eH v.toD 38 y w)) (M:Mem prog w0 X w R) (hK:∀(x:Gh) w',Mem prog w0 X w' (.ow v.toD 38 [v.kind,.slice (x.A 1) v.items.length (x.C 1),.slice (x.A 2) v.parts.length (x.C 2),.slice (x.A 3) v.names.length (x.C 3),.slice (x.A 4) v.cls.length (x.C 4),.slice (x.A 5) v.levels.length (x.C 5),v.code,v.env]::R)->Ψ (.returned (.tuple #[.agg #[v.kind,.slice (x.A 1) v.items.length (x.C 1),.slice (x.A 2) v.parts.length (x.C 2),.slice (x.A 3) v.names.length (x.C 3),.slice (x.A 4) v.cls.length (x.C 4),.slice (x.A 5) v.levels.length (x.C 5),v.code,v.env],y])) w'):Calls prog f args w Ψ:=
 h.mono λe w' hn=>by obtain⟨Ai,ci,Ap,cp,An,cn,Ac,cc,Al,cl,rfl,M'⟩:=M.newTwoL hn;exact hK (Ow [(none,0),(Ai,ci),(Ap,cp),(An,cn),(Ac,cc),(Al,cl)]) w' M'
theorem Mw {l:List Int} {p:Str} (h:Calls prog f args w (jq l p w)) (M:Mem prog w0 X w R) (hK:∀(x:Gh) w',Mem prog w0 X w' (.ow (.sl (l.map (.i .i64))) 26 [.slice x.a l.length x.c]::R)->Ψ (.returned (.tuple #[.slice x.a l.length x.c,sv p])) w'):Calls prog f args w Ψ:=
 h.mono λe w' hn=>by obtain⟨A',c',rfl,M'⟩:=M.newPos hn;exact hK (Ov A' c') w' M'
theorem Wt (h:Calls prog f args w λe w'=>∃(Ai:Option Addr) (ci:Nat) (Ap:Option Addr) (cp:Nat) (An:Option Addr) (cn:Nat) (Ac:Option Addr) (cc:Nat) (Al:Option Addr) (cl:Nat),e= .returned (.agg #[v.kind,.slice Ai v.items.length ci,.slice Ap v.parts.length cp,.slice An v.names.length cn,.slice Ac v.cls.length cc,.slice Al v.levels.length cl,v.code,v.env])/\Mem prog w0 X w' (.ow v.toD 38 [v.kind,.slice Ai v.items.length ci,.slice Ap v.parts.length cp,.slice An v.names.length cn,.slice Ac v.cls.length cc,.slice Al v.levels.length cl,v.code,v.env]::R)) (hK:∀(x:Gh) w',Mem prog w0 X w' (.ow v.toD 38 [v.kind,.slice (x.A 1) v.items.length (x.C 1),.slice (x.A 2) v.parts.length (x.C 2),.slice (x.A 3) v.names.length (x.C 3),.slice (x.A 4) v.cls.length (x.C 4),.slice (x.A 5) v.levels.length (x.C 5),v.code,v.env]::R)->Ψ (.returned (.agg #[v.kind,.slice (x.A 1) v.items.length (x.C 1),.slice (x.A 2) v.parts.length (x.C 2),.slice (x.A 3) v.names.length (x.C 3),.slice (x.A 4) v.cls.length (x.C 4),.slice (x.A 5) v.levels.length (x.C 5),v.code,v.env])) w'):Calls prog f args w Ψ:=
 h.mono λe w' hn=>by obtain⟨Ai,ci,Ap,cp,An,cn,Ac,cc,Al,cl,rfl,M'⟩:=hn;exact hK (Ow [(none,0),(Ai,ci),(Ap,cp),(An,cn),(Ac,cc),(Al,cl)]) w' M'
theorem Mv (h:Calls prog f args w λe w'=>∃(Ai:Option Addr) (ci:Nat) (Ap:Option Addr) (cp:Nat) (An:Option Addr) (cn:Nat) (Ac:Option Addr) (cc:Nat) (Al:Option Addr) (cl:Nat),e= .returned (.tuple #[.agg #[v.kind,.slice Ai v.items.length ci,.slice Ap v.parts.length cp,.slice An v.names.length cn,.slice Ac v.cls.length cc,.slice Al v.levels.length cl,v.code,v.env],y])/\Mem prog w0 X w' (.ow v.toD 38 [v.kind,.slice Ai v.items.length ci,.slice Ap v.parts.length cp,.slice An v.names.length cn,.slice Ac v.cls.length cc,.slice Al v.levels.length cl,v.code,v.env]::R)) (hK:∀(x:Gh) w',Mem prog w0 X w' (.ow v.toD 38 [v.kind,.slice (x.A 1) v.items.length (x.C 1),.slice (x.A 2) v.parts.length (x.C 2),.slice (x.A 3) v.names.length (x.C 3),.slice (x.A 4) v.cls.length (x.C 4),.slice (x.A 5) v.levels.length (x.C 5),v.code,v.env]::R)->Ψ (.returned (.tuple #[.agg #[v.kind,.slice (x.A 1) v.items.length (x.C 1),.slice (x.A 2) v.parts.length (x.C 2),.slice (x.A 3) v.names.length (x.C 3),.slice (x.A 4) v.cls.length (x.C 4),.slice (x.A 5) v.levels.length (x.C 5),v.code,v.env],y])) w'):Calls prog f args w Ψ:=
 h.mono λe w' hn=>by obtain⟨Ai,ci,Ap,cp,An,cn,Ac,cc,Al,cl,rfl,M'⟩:=hn;exact hK (Ow [(none,0),(Ai,ci),(Ap,cp),(An,cn),(Ac,cc),(Al,cl)]) w' M'
end
theorem YN {a b c d:Value} (h:a=c) (h':b=d):Ending.returned (.tuple #[a,b])= .returned (.tuple #[c,d]):=by rw[h,h']
theorem PD {k:Int} {l:List Int} (hi:l[i]?=some k) (hk:¬(0<=k/\k<h.cells.length)):l.all (inR h)=false:=nN hi (by simpa [inR]using hk)
def CtR (h:Hp) (n:Nat) (w:World) (e:Ending) (w':World):Prop:=
 ((refs h).all (inR h)=false/\e= .returned (.tuple #[(),.bool false])/\Below w.heap.size w w')\/
 ((refs h).all (inR h)=true/\∃g c,e= .returned (.tuple #[.slice (some ⟨g,0,none⟩) n c,.bool true])/\Own mR 1 3 w' w.heap.size (some ⟨g,0,none⟩) n c (lM n (refs h))/\Below w.heap.size w w')
theorem Cv {l:List Int} (hi:i<n):∃v:Int,(lM n l)[i]?=some v/\0<=v/\v<=l.length:=⟨_,pM l hi,by omega,by have:=List.count_le_length (a:=(i:Int)) (l:=l);omega⟩
theorem Kc {p:Nat} (hx:h.cells[p]?=some x):(h.slots++(h.cells.take p).flatMap (·.parts)).length+x.parts.length<=(refs h).length:=by
 have e:h.cells=h.cells.take p++x::h.cells.drop (p+1):=by obtain⟨hp,rfl⟩:=ay.1 hx;rw[List.getElem_cons_drop hp,cA]
 unfold refs
 conv=>rhs;rw[e]
 simp only[aY,cj,cB];omega
theorem YM {p:Nat} (hx:h.cells[p]?=some x) (hn:x.parts.all (inR h)=false):(refs h).all (inR h)=false:=by rw[List.all_eq_false]at hn ⊢;obtain⟨k,hk,hb⟩:=hn;exact⟨k,by unfold refs;exact bD _ (dM.2 ⟨x,aA hx,hk⟩),hb⟩
theorem Lz (h:Hp):(refs h).length<=szD h.toD:=by
 have h1:=nM h;have h2:∀l:List Cel,(l.flatMap (·.parts)).length<=gv (l.map Cel.toD):=λl=>by
  induction l with
  |nil=>simp
  |cons c t ih=>
   have:=wF c;rw[cB,aY,br,gv];simp only[szD,au]at this;omega
 have h3:=h2 h.cells;unfold refs;rw[aY];simp only[szD,au]at h1;omega
theorem Ej (n:Nat):(madeCells #[.int .i64 0] n).toList=(List.replicate n (0:Int)).flatMap mR:=by
 rw[dr]
 induction n with
 |zero=>rfl
 |succ n ih=>rw[dE,dE,cB,<-ih];rfl
theorem Dl (h:Hp) (hz:szD h.toD<=4194304) (K9:h.cells.length<=4194304) (TB:(refs h).length<=4194304) (cs:List Value) (w:World) (hr:rep w w.heap.size h.toD cs):Calls prog 59 #[av cs] w (CtR h h.cells.length w):=by
 obtain⟨A,n,c,Am,nm,cm,As,ns,ca,rfl,rc,rn,rs,wc⟩:=iP hr;have hl:=(ef rc).1;rw[au]at hl;obtain⟨Wl,WG,ca',he,_,hsm,hs,_⟩:=(qy _ _ _ _).1 rs;injection he with he;injection he with f1 f2 f3;subst f1 f2 f3
 have hn:n<=4194304:=dP;have q0:=(Below.refl w.heap.size w).alloc (af _) (.cells #[.slice A n c,.slice Am nm cm,.slice As ns ca,h.copies] 28);obtain⟨i0,DI,rJ,tW,hz2⟩:=cZ CB;have xx:=λW=>iw (P:=prog) 26 3 i0 _ underlying26 DI rJ .i64 .i64 n n (af _) jj dP W
 rw[tW,cu]at xx;have kh:Blk ((w.alloc (.cells #[.slice A n c,.slice Am nm cm,.slice As ns ca,h.copies] 28)).alloc (.cells (madeCells #[.int .i64 0] n) 3)) w.heap.size 28 [.slice A n c,.slice Am nm cm,.slice As ns ca,h.copies]:=(Blk.new' (l:=[.slice A n c,.slice Am nm cm,.slice As ns ca,.int .i64 h.copies])).al;have q1:=q0.alloc eA (.cells (madeCells #[.int .i64 0] n) 3);have o0:Own mR 1 3 ((w.alloc (.cells #[.slice A n c,.slice Am nm cm,.slice As ns ca,h.copies] 28)).alloc (.cells (madeCells #[.int .i64 0] n) 3)) (w.heap.size+1) (some ⟨w.heap.size+1,0,none⟩) n n (lM n []):=
  Own.new_ iu _ _ _ (by rw[MB];exact Ej n) (uX n []) eb eA (by simp only[dT])
 have HL:=aa hl;have ahS:=TB;rw[refs,aY]at ahS;have hss:h.slots.length=ns:=hs.len;have HSS:=aa hss;have hns:ns<=4194304:=dP;clear hl hss;go_enter func59,ntmps59;go_wp2_with fail;clear xx;go_loopw [18] (λv wr=>∃m:Nat,m<=ns/\v= .int .i64 m/\Own mR 1 3 wr (w.heap.size+1) (some ⟨w.heap.size+1,0,none⟩) n n (lM n (h.slots.take m))/\(h.slots.take m).all (inR h)=true/\Blk wr w.heap.size 28 [.slice A n c,.slice Am nm cm,.slice As ns ca,h.copies]/\Below w.heap.size w wr) (λv _=>ns - (intOf v).toNat)
 case atStart=>exact⟨0,by omega,rfl,o0,by simp,kh,q1⟩
 case round=>
  clear kh o0 q1;obtain⟨m,hm,rfl,o0,jb,kh,bb⟩:=hrel;obtain⟨g0,g1,g2,g3⟩:=kh.c4;have Kw:=aa jb;clear jb;by_cases hlt:m<ns
  ·obtain⟨b,off,k,rfl,gD,hk,xO⟩:=(hs.below bb).atI hlt;have im:(m:Int)<(ns:Int):=dP;by_cases hin:0<=k/\k<(n:Int)
   ·obtain⟨i,rfl⟩:∃i:Nat,k=i:=⟨k.toNat,by omega⟩;have hi:i<n:=dP;obtain⟨v,hv,hv0,Nk⟩:=Cv (l:=h.slots.take m) hi;have hvb:v<=4194304:=by have:=dO m h.slots;omega
    obtain⟨_,_,v',e1,_,xg,AA⟩:=(o0.reads iu).atI hi;injection e1 with e1;injection e1 with e1 e2;subst e1 e2
    rw[hv]at xg;injection xg with xg;subst xg
    rw[bI]at AA;have zf:=(o0.fil).1.frozen i;have HV:=aa hv;have HK:=aa hk;have i1:(i:Int)<(n:Int):=dP;have i0:(0:Int)<=(i:Int):=dP;have jC:¬(n:Int)<=(i:Int):=dP;clear hin hv hk;go_wp2_with fail;go_roundw
    case rel=>
     have o1:=Own.set_ iu o0 i 0 v (v+1) (.int .i64 (v+1)) HV.out dP rfl;rw[cu,cF]at o1;have hvc:v=((List.count (i:Int) (h.slots.take m):Nat):Int):=by have:=pM (h.slots.take m) hi;rw[HV.out]at this;injection this
     refine⟨m+1,by omega,by go_num,?_,?_,?_,?_⟩
     ·rw[eJ HK.out,<-wJ _ hi,<-hvc];exact o1
     ·exact iY HK.out Kw.out wh
     ·exact kh.pk ig
     ·exact ie bb ig
    case measure=>simp [intOf];omega
   ·have DL:=PD (h:=h) hk (by rw[HL.out];exact hin);have HN:Hid ((refs h).all (inR h)=false):=aa (by rw[refs,List.all_append,DL];rfl);by_cases h0:k<0
    ·clear hin DL hk;go_wp2_with fail;go_ret2;exact .inl ⟨HN.out,rfl,bb⟩
    ·have h1:(n:Int)<=k:=dP;clear hin DL hk;go_wp2_with fail;go_ret2;exact .inl ⟨HN.out,rfl,bb⟩
  ·obtain rfl:m=ns:=dP;have ha:=Kw.out;rw[aC (by rw[HSS.out];omega)]at o0 ha;have HA:=aa ha;clear ha Kw;go_wp2_with fail;go_loopw [41] (λv wr=>∃p:Nat,p<=n/\v= .int .i64 p/\Own mR 1 3 wr (w.heap.size+1) (some ⟨w.heap.size+1,0,none⟩) n n (lM n (h.slots++(h.cells.take p).flatMap (·.parts)))/\(h.slots++(h.cells.take p).flatMap (·.parts)).all (inR h)=true/\Blk wr w.heap.size 28 [.slice A n c,.slice Am nm cm,.slice As m ca,h.copies]/\Below w.heap.size w wr) (λv _=>n - (intOf v).toNat)
   case atStart=>exact⟨0,by omega,rfl,by simpa using o0,by simpa using HA.out,kh,bb⟩
   case round=>
    clear kh o0 bb g0 g1 g2 g3;obtain⟨p,hp,rfl,o0,jb,kh,bb⟩:=hrel;obtain⟨g0,g1,g2,g3⟩:=kh.c4;have Kw:=aa jb;clear jb;by_cases hlp:p<n
    ·obtain⟨b,off,x,Ai,ni,ci,Ap,np,cp,An,nn,cn,Ac,nc,cc,Al,nl,cl,Aq,nq,cq,rfl,gD,hx,fE,e0,e1,e2,e3,e4,e5,e6,e7,e8,e9⟩:=lm (fF rc bb) hlp;obtain⟨_,_,_,_,_,_,_,_,_,_,_,_,_,_,_,_,_,_,lK,_,_,rq⟩:=i8 fE;simp only[bF,bG,dy,cO]at lK;obtain⟨⟨rfl,rfl,rfl⟩,⟨rfl,rfl,rfl⟩,⟨rfl,rfl,rfl⟩,⟨rfl,rfl,rfl⟩,⟨rfl,rfl,rfl⟩,rfl,rfl,rfl⟩:=lK;obtain⟨WQ,Yp,Xi,he,_,hqm,hq,_⟩:=(qy _ _ _ _).1 rq;injection he with he;injection he with f1 f2 f3;subst f1 f2 f3
     have mD:x.parts.length=nq:=hq.len;have xe:(h.slots++(h.cells.take p).flatMap (·.parts)).length+nq<=4194304:=by have:=Kc (h:=h) hx;omega
     have RQ0:Reads mR 1 w w.heap.size Aq nq x.parts:=hq.keep (λp hp=>(bb.cell hp).symm);have RQ:=aa RQ0;clear RQ0;have HX:=aa hx;have Mn:=aa mD;have TN:=aa xe;have hnq:nq<=4194304:=dP;have z0:=bb.size;have yb:b<wr.heap.size:=dP;have yh:=kh.lt;have ip:(p:Int)<(n:Int):=dP;have OG:=kh.al (o:= .cells #[x.count,x.value.kind,.slice Ai ni ci,.slice Ap np cp,.slice An nn cn,.slice Ac nc cc,.slice Al nl cl,x.value.code,x.value.env,.slice Aq nq cq] 43);have zi:=gT (o:= .cells #[x.count,x.value.kind,.slice Ai ni ci,.slice Ap np cp,.slice An nn cn,.slice Ac nc cc,.slice Al nl cl,x.value.code,x.value.env,.slice Aq nq cq] 43) bb z0;have o2:=o0.al (o:= .cells #[x.count,x.value.kind,.slice Ai ni ci,.slice Ap np cp,.slice An nn cn,.slice Ac nc cc,.slice Al nl cl,x.value.code,x.value.env,.slice Aq nq cq] 43);clear hx mD xe rq;go_wp2_with fail;clear e0 e1 e2 e3 e4 e5 e6 e7 e8 e9 g0 g1 g2 g3;obtain⟨wo,hwo⟩:∃wo:World,wo=wr:=⟨_,rfl⟩;subst hwo;go_loopw [48] (λv wr=>∃q:Nat,q<=nq/\v= .int .i64 q/\Own mR 1 3 wr (w.heap.size+1) (some ⟨w.heap.size+1,0,none⟩) n n (lM n ((h.slots++(h.cells.take p).flatMap (·.parts))++x.parts.take q))/\(x.parts.take q).all (inR h)=true/\Blk wr w.heap.size 28 [.slice (some ⟨b,off,none⟩) n c,.slice Am nm cm,.slice As m ca,h.copies]/\Below w.heap.size w wr) (λv _=>nq - (intOf v).toNat)
     case atStart=>exact⟨0,by omega,rfl,by simpa using o2,by simp,OG,zi⟩
     case round=>
      clear OG o2 zi;obtain⟨q,hqq,rfl,o2,jb,OG,zi⟩:=hrel;obtain⟨g0,g1,g2,g3⟩:=OG.c4;have HAQ:=aa jb;clear jb;by_cases hlq:q<nq
      ·obtain⟨b3,o3,k,rfl,lE,hk,xO⟩:=(RQ.out.below zi).atI hlq;have iq:(q:Int)<(nq:Int):=dP;by_cases hin:0<=k/\k<(n:Int)
       ·obtain⟨i,rfl⟩:∃i:Nat,k=i:=⟨k.toNat,by omega⟩;have hi:i<n:=dP;obtain⟨v,hv,hv0,Nk⟩:=Cv (l:=(h.slots++(h.cells.take p).flatMap (·.parts))++x.parts.take q) hi;have hvb:v<=4194304:=by have:=TN.out;have:=dO q x.parts;rw[aY,de,Mn.out]at Nk;omega
        obtain⟨_,_,v',e1,_,xg,AA⟩:=(o2.reads iu).atI hi;injection e1 with e1;injection e1 with e1 e2;subst e1 e2
        rw[hv]at xg;injection xg with xg;subst xg
        rw[bI]at AA;have zf:=(o2.fil).1.frozen i;have HV:=aa hv;have HK:=aa hk;have i1:(i:Int)<(n:Int):=dP;have i0:(0:Int)<=(i:Int):=dP;have jC:¬(n:Int)<=(i:Int):=dP;clear hin hv hk Nk;go_wp2_with fail;go_roundw
        case rel=>
         have o3:=Own.set_ iu o2 i 0 v (v+1) (.int .i64 (v+1)) HV.out dP rfl;rw[cu,cF]at o3;have hvc:v=((List.count (i:Int) ((h.slots++(h.cells.take p).flatMap (·.parts))++x.parts.take q):Nat):Int):=by have:=pM ((h.slots++(h.cells.take p).flatMap (·.parts))++x.parts.take q) hi;rw[HV.out]at this;injection this
         refine⟨q+1,by omega,by go_num,?_,?_,?_,?_⟩
         ·rw[eJ HK.out,<-aS,<-wJ _ hi,<-hvc];exact o3
         ·exact iY HK.out HAQ.out wh
         ·exact OG.pk ig
         ·exact ie zi ig
        case measure=>simp [intOf];omega
       ·have DL:=PD (h:=h) hk (by rw[HL.out];exact hin);have HN:Hid ((refs h).all (inR h)=false):=aa (YM HX.out DL);by_cases h0:k<0
        ·clear hin DL hk;go_wp2_with fail;go_ret2;exact .inl ⟨HN.out,rfl,zi⟩
        ·have h1:(n:Int)<=k:=dP;clear hin DL hk;go_wp2_with fail;go_ret2;exact .inl ⟨HN.out,rfl,zi⟩
      ·obtain rfl:q=nq:=dP;have e1:h.slots++(h.cells.take (p+1)).flatMap (·.parts)=(h.slots++(h.cells.take p).flatMap (·.parts))++x.parts.take q:=Hg;have E1:=aa e1;clear e1;go_wp2_with fail;go_roundw
       case rel=>exact⟨p+1,by omega,by go_num,by rw[E1.out];exact o2,by rw[E1.out,List.all_append,Kw.out,HAQ.out];rfl,OG,zi⟩
       case measure=>simp [intOf];omega
    ·obtain rfl:p=n:=dP;rw[aC ji]at o0;have ha:=Kw.out;rw[aC ji]at ha;have HA2:=aa ha;clear ha;go_wp2_with fail;go_ret2;refine .inr ⟨HA2.out,w.heap.size+1,p,?_,?_,bb⟩
     ·exact YN (by rw[HL.out];rfl) rfl
     ·rw[HL.out];exact o0.mono dP
end Go.Proofs.YtekcpadlmfaihaaGreat
