/- l10Extend. -/
import Derived.Test.YtekcpadlmfaihaaGreatWHe
import Derived.Test.YtekcpadlmfaihaaGreatWMeg
import Derived.Test.YtekcpadlmfaihaaGreatWHu
import Derived.Test.YtekcpadlmfaihaaGreatWLm
import Derived.Test.YtekcpadlmfaihaaGreatWLh
namespace Go.Proofs.YtekcpadlmfaihaaGreat
open Go.RowKit Proofs.Tryz
set_option maxHeartbeats 8000000
set_option maxRecDepth 100000
set_option linter.unusedSimpArgs false
set_option linter.unusedVariables false
theorem Xp (k:Int) (Sk:0<=k) (hk:k<4) (l:List Item) (ns:List Str) (q:Nat) (hq:q<40) (hl:l.length<=40) (hnn:ns=[]\/ns.length=l.length) (Ai:Option Addr) (ci:Nat) (An:Option Addr) (cn:Nat) (Bp:Option Addr) (bp:Nat) (Bc:Option Addr) (bc:Nat) (Bl:Option Addr) (bl:Nat) (X:List Nat) (w:World)
 (M0:Mem prog w X w [.ow (.sl (l.map Item.toD)) 35 [.slice Ai l.length ci],.ow (.sl (ns.map D.s)) 25 [.slice An ns.length cn]]):
 Calls prog 123 #[.agg #[k,.slice Ai l.length ci,.slice Bp 0 bp,.slice An ns.length cn,.slice Bc 0 bc,.slice Bl 0 bl,.int .i64 0,.int .i64 0],.int .i64 ((q+1:Nat):Int)] w λe w'=>∃Aq cq Ar cr,e= .returned (.agg #[k,.slice Aq (max l.length (q+1)) cq,.slice Bp 0 bp,.slice Ar (gS ns (max l.length (q+1))).length cr,.slice Bc 0 bc,.slice Bl 0 bl,.int .i64 0,.int .i64 0])/\Mem prog w X w' [.ow (.sl ((eY l (max l.length (q+1)) ⟨0,0,[]⟩).map Item.toD)) 35 [.slice Aq (max l.length (q+1)) cq],.ow (.sl ((gS ns (max l.length (q+1))).map D.s)) 25 [.slice Ar (gS ns (max l.length (q+1))).length cr]]:=by
 have hk5:=aa (show ¬k=5 by omega);have q1:(k==4)=false:=dS;have M:=M0;go_enter func123,ntmps123;refine Sq (Sa M (λJ1 wv M=>?_));refine Sa M (λJ2 wv M=>Sz (ae (aJ ?_)));refine fy (ι:=Nat × Option Addr × Nat × Option Addr × Nat) [5,6,7,8,9,10,11,12,13,14,15,16,17,18,19,20,21,22,23,24,25,26,27,28,29,30,31,32] (λfu=>match fu with|(m,Aq,cq,Ar,cr)=>[]) (λfu=>match fu with|(m,Aq,cq,Ar,cr)=>l.length<=m/\m<=max l.length (q+1)) (λfu=>match fu with|(m,Aq,cq,Ar,cr)=>[.ow (.sl ((eY l m ⟨0,0,[]⟩).map Item.toD)) 35 [.slice Aq m cq],.ow (.sl ((gS ns m).map D.s)) 25 [.slice Ar (gS ns m).length cr],.bk (J1.b) 38 [k,.slice Aq m cq,.slice Bp 0 bp,.slice Ar (gS ns m).length cr,.slice Bc 0 bc,.slice Bl 0 bl,.int .i64 0,.int .i64 0],.bk (J2.b) 38 [.int .i64 0,(),(),(),(),(),.int .i64 0,.int .i64 0]]) (λfu=>match fu with|(m,Aq,cq,Ar,cr)=>q+1 - m) (l.length,Ai,ci,An,cn) dP BU ?_;rintro⟨m,Aq,cq,Ar,cr⟩ Mf W1 K1 h1 M rH;try dsimp only at h1 M ⊢
 refine uM ?_;refine ae (Sq (Sb M [2] 1 ?_));refine Sc (f_ (t8 k hk5.out _ m _ _ 0 _ _ _ _ _ _ _ _ _ _ 0 0 dP _) M λJ3 wv M=>Sp ?_);refine Sb M [] 2 (Sz ?_);refine lW (λhlt=>?_) (λhlt=>?_)
 ·rw[hlt];replace hlt:=aa hlt;have Ux:m<q+1:=eX;refine bd (dV (aJ (ae (Ra M [2] ?_))));refine lW (λjC=>?_) (λjC=>?_)
  ·rw[jC];replace jC:=aa jC;have hpos:0<(gS ns m).length:=n_;refine Sg (Sb M [2] 2 ?_);refine Sa M (λJ4 wv M=>?_);replace M:=M.up [2];have mu:m<=40:=dP;have M:=M.str (t:=9) (s:=[]) dQ;replace M:=M.up [2,1,2];refine nQ M jm (hn:=by have:=rR hnn mu;unfold maxLen;omega) (h63:=by have:=rR hnn mu;omega) (λJ5 wv M=>Sw ?_);refine Sb M [] 1 ?_;refine Ss M 3 (λwv M=>Sy (dV ?_));refine Ra M [3] ?_;refine cf (Sg ?_);refine Sb M [3] 3 ?_;refine Sa M (λJ6 wv M=>?_);replace M:=M.up [3];have M:=M.item (x:=⟨0,0,[]⟩) ⟨by decide,by decide,by decide⟩;replace M:=M.up [2,1,2];refine nQ M kM (λJ7 wv M=>Sw ?_);refine Sb M [] 1 ?_;refine Ss M 4 (λwv M=>Sy (fA (dV ?_)));exact rH (m+1,(some ⟨J7.b,0,none⟩),J7.c,(some ⟨J5.b,0,none⟩),J5.c) _ _ dU (by(try dsimp only);omega) (by(try dsimp only);omega) (by(try dsimp only);rw[iM dP,wN sm hpos,aI,aI,aY];exact M.sel [0,2,4,5] dQ)
  ·rw[jC];replace jC:=aa jC;have DM:=aa (show (gS ns m).length=0 by have z:=jC.out;simp only[bB]at z;omega);refine bd (dV (Ra M [2] ?_));refine cf (Sg ?_);refine Sb M [2] 3 ?_;refine Sa M (λJ8 wv M=>?_);replace M:=M.up [1];have M:=M.item (x:=⟨0,0,[]⟩) ⟨by decide,by decide,by decide⟩;replace M:=M.up [2,1,2];refine nQ M kM (λJ9 wv M=>Sw ?_);refine Sb M [] 1 ?_;refine Ss M 3 (λwv M=>Sy (fA (dV ?_)));exact rH (m+1,(some ⟨J9.b,0,none⟩),J9.c,Ar,cr) _ _ dU (by(try dsimp only);omega) (by(try dsimp only);omega) (by(try dsimp only);rw[iM dP,wM (m:=m) (n:=m+1) DM.out,aI];exact M.sel [0,2,3,4] dQ)
 ·exact Hk
theorem QK (l:List Vec) (ns:List Str) (q:Nat) (hq:q<40) (hl:l.length<=40) (hnn:ns=[]\/ns.length=l.length) (Ai:Option Addr) (ci:Nat) (An:Option Addr) (cn:Nat) (Bi:Option Addr) (bi:Nat) (Bc:Option Addr) (bc:Nat) (Bl:Option Addr) (bl:Nat) (X:List Nat) (w:World)
 (M0:Mem prog w X w [.ow (.sl (l.map Vec.toD)) 36 [.slice Ai l.length ci],.ow (.sl (ns.map D.s)) 25 [.slice An ns.length cn]]):
 Calls prog 123 #[.agg #[.int .i64 4,.slice Bi 0 bi,.slice Ai l.length ci,.slice An ns.length cn,.slice Bc 0 bc,.slice Bl 0 bl,.int .i64 0,.int .i64 0],.int .i64 ((q+1:Nat):Int)] w λe w'=>∃Aq cq Ar cr,e= .returned (.agg #[.int .i64 4,.slice Bi 0 bi,.slice Aq (max l.length (q+1)) cq,.slice Ar (gS ns (max l.length (q+1))).length cr,.slice Bc 0 bc,.slice Bl 0 bl,.int .i64 0,.int .i64 0])/\Mem prog w X w' [.ow (.sl ((eY l (max l.length (q+1)) zeroV).map Vec.toD)) 36 [.slice Aq (max l.length (q+1)) cq],.ow (.sl ((gS ns (max l.length (q+1))).map D.s)) 25 [.slice Ar (gS ns (max l.length (q+1))).length cr]]:=by
 have M:=M0;go_enter func123,ntmps123;refine Sq (Sa M (λJ1 wv M=>?_));refine Sa M (λJ2 wv M=>Sz (ae (aJ ?_)));refine fy (ι:=Nat × Option Addr × Nat × Option Addr × Nat) [5,6,7,8,9,10,11,12,13,14,15,16,17,18,19,20,21,22,23,24,25,26,27,28,29,30,31,32] (λfu=>match fu with|(m,Aq,cq,Ar,cr)=>[]) (λfu=>match fu with|(m,Aq,cq,Ar,cr)=>l.length<=m/\m<=max l.length (q+1)) (λfu=>match fu with|(m,Aq,cq,Ar,cr)=>[.ow (.sl ((eY l m zeroV).map Vec.toD)) 36 [.slice Aq m cq],.ow (.sl ((gS ns m).map D.s)) 25 [.slice Ar (gS ns m).length cr],.bk (J1.b) 38 [.int .i64 4,.slice Bi 0 bi,.slice Aq m cq,.slice Ar (gS ns m).length cr,.slice Bc 0 bc,.slice Bl 0 bl,.int .i64 0,.int .i64 0],.bk (J2.b) 38 [.int .i64 0,(),(),(),(),(),.int .i64 0,.int .i64 0]]) (λfu=>match fu with|(m,Aq,cq,Ar,cr)=>q+1 - m) (l.length,Ai,ci,An,cn) dP BU ?_;rintro⟨m,Aq,cq,Ar,cr⟩ Mf W1 K1 h1 M rH;try dsimp only at h1 M ⊢
 refine uM ?_;refine ae (Sq (Sb M [2] 1 ?_));refine Sc (aF (t8 4 dQ _ 0 _ _ m _ _ _ _ _ _ _ _ _ _ 0 0 dP _) ?_);rintro e w' ⟨rfl,hb⟩;rw[bI];replace M:=M.next hb;refine Sp ?_;refine Sb M [] 2 (Sz ?_);refine lW (λhlt=>?_) (λhlt=>?_)
 ·rw[hlt];replace hlt:=aa hlt;have Ux:m<q+1:=eX;refine bd (dV (aJ (ae (Ra M [2] ?_))));refine lW (λjC=>?_) (λjC=>?_)
  ·rw[jC];replace jC:=aa jC;have hpos:0<(gS ns m).length:=n_;refine Sg (Sb M [2] 2 ?_);refine Sa M (λJ4 wv M=>?_);replace M:=M.up [2];have mu:m<=40:=dP;have M:=M.str (t:=9) (s:=[]) dQ;replace M:=M.up [2,1,2];refine nQ M jm (hn:=by have:=rR hnn mu;unfold maxLen;omega) (h63:=by have:=rR hnn mu;omega) (λJ5 wv M=>Sw ?_);refine Sb M [] 1 ?_;refine Ss M 3 (λwv M=>Sy (dV ?_));refine Ra M [3] ?_;refine ct (Sg ?_);refine Sb M [3] 3 ?_;refine Sa M (λJ6 wv M=>?_);replace M:=M.up [3];have M:=M.zeroVec;replace M:=M.up [2,1,2];refine nQ M jM (λJ7 wv M=>Sw ?_);refine Sb M [] 1 ?_;refine Ss M 4 (λwv M=>Sy (fA (dV ?_)));exact rH (m+1,(some ⟨J7.b,0,none⟩),J7.c,(some ⟨J5.b,0,none⟩),J5.c) _ _ dU (by(try dsimp only);omega) (by(try dsimp only);omega) (by(try dsimp only);rw[iM dP,wN sm hpos,aI,aI,aY];exact M.sel [0,2,4,5] dQ)
  ·rw[jC];replace jC:=aa jC;have DM:=aa (show (gS ns m).length=0 by have z:=jC.out;simp only[bB]at z;omega);refine bd (dV (Ra M [2] ?_));refine ct (Sg ?_);refine Sb M [2] 3 ?_;refine Sa M (λJ8 wv M=>?_);replace M:=M.up [1];have M:=M.zeroVec;replace M:=M.up [2,1,2];refine nQ M jM (λJ9 wv M=>Sw ?_);refine Sb M [] 1 ?_;refine Ss M 3 (λwv M=>Sy (fA (dV ?_)));exact rH (m+1,(some ⟨J9.b,0,none⟩),J9.c,Ar,cr) _ _ dU (by(try dsimp only);omega) (by(try dsimp only);omega) (by(try dsimp only);rw[iM dP,wM (m:=m) (n:=m+1) DM.out,aI];exact M.sel [0,2,3,4] dQ)
 ·exact Hk
theorem UY {nm:Str} (jC:nm.isEmpty=false):∀(k:Nat) (i:Nat),ix (List.replicate k []) nm i= -1
 |0,i=>rfl
 |k+1,i=>by
  have hn:¬([]:Str)=nm:=by intro e;rw[<-e]at jC;simp at jC
  show (if ([]:Str)=nm then (i:Int) else ix (List.replicate k []) nm (i+1))= -1;rw[aH hn,UY jC k]
theorem UX {nm:Str} (jC:nm.isEmpty=false):∀(ns:List Str) (k:Nat) (i:Nat),ix (ns++List.replicate k []) nm i=ix ns nm i
 |[],k,i=>UY jC k i
 |x::t,k,i=>by rw[cK,ix,ix,UX jC t k]
theorem YL {w:World} {B:Nat} {l:List Str} {A:Option Addr} {n c:Nat} (_:l.length=n) (h:rep w B (.sl (l.map .s)) [.slice A n c]):Reads encS 1 w B A n l:=pd h
theorem LH (n:Nat) (hn:n<=40) (ns:List Str) (An:Option Addr) (cn:Nat) (hnn:ns.length=0\/ns.length=n) (nm:Str) (hnm:nm.length<=maxLen) (AS:nm.length<=60) (jC:nm.isEmpty=false) (cs:List Value) (w:World) (rn:rep w w.heap.size (.sl (ns.map .s)) [.slice An ns.length cn]) (hs:rep w w.heap.size (iA [nm]).toD cs):
 Calls prog 117 #[.int .i64 (n:Nat),.slice An ns.length cn,av cs] w (jq [pu ns n nm] [] w):=by
 obtain⟨sb,so,c1,A2,c2,A3,c3,A4,c4,A5,c5,rfl,tV,e0,e1,e2⟩:=jX hs;have Tx:=aa (DY AS);have hbt:=aa (Ji AS);have hnl:ns.length<=n:=dP;have Qv:=aa (show ix (eY ns n []) nm 0=ix ns nm 0 from UX jC ns _ 0);have xQ:=aa (pY ns nm 0);have Mm:=aa (show decide ((0:Int)<=(n:Int)/\(n:Int)<=40)=true by simp;omega);obtain⟨_,_,_,he,-,-,Nj,OE⟩:=(ls _ _ _ _).1 rn;injection he with he;injection he with e1 e2 e3;subst e1 e2 e3
 have M:Mem prog w [] w []:=Mem.start;go_enter func117,ntmps117;refine Sq (Sa M (λJ1 wv M=>?_));refine Sb M [] 2 (Sz (Sq ?_));refine Se M underlying26 (λJ2 wv M=>?_);refine Sb M [] 1 (Sz (ae (aJ (Sq ?_))));refine Sb M [1] 1 ?_;refine Sc (aF (ew (iA [nm]) _ _ (M.arg hs) hbt.out) ?_);rintro e w' ⟨rfl,hb⟩;rw[Tx.out];replace M:=M.next hb;refine Sp ?_;refine Sb M [] 2 (Sz ?_);refine cf (Sq ?_);refine Sb M [] 1 ?_;refine Sc (aF (gj (n:Int) 0 40 _) ?_);rintro e w' ⟨rfl,rfl⟩;rw[Mm.out];refine Sp ?_;refine Sb M [] 6 ?_;refine So ((bif (((ns.length:Nat):Int) != (0:Int)) then .slice An ns.length cn else undef)) (λK Z hK=>by rcases ac ((((ns.length:Nat):Int) != (0:Int))) with hg|hg<;>simp only[hg,ar,ak,aD,aB,az,aq,aj,am]at hK<;>go_simp<;>exact hK) ?_;refine So ((bif (((ns.length:Nat):Int) != (0:Int)) then .int .i64 (ns.length:Nat) else undef)) (λK Z hK=>by rcases ac ((((ns.length:Nat):Int) != (0:Int))) with hg|hg<;>simp only[hg,ar,ak,aD,aB,az,aq,aj,am]at hK<;>go_simp<;>exact hK) ?_;refine So ((bif (((ns.length:Nat):Int) != (0:Int)) then .int .i64 (n:Nat) else undef)) (λK Z hK=>by rcases ac ((((ns.length:Nat):Int) != (0:Int))) with hg|hg<;>simp only[hg,ar,ak,aD,aB,az,aq,aj,am]at hK<;>go_simp<;>exact hK) ?_;refine So ((bif (((ns.length:Nat):Int) != (0:Int)) then .bool (((ns.length:Nat):Int) != ((n:Nat):Int)) else undef)) (λK Z hK=>by rcases ac ((((ns.length:Nat):Int) != (0:Int))) with hg|hg<;>simp only[hg,ar,ak,aD,aB,az,aq,aj,am]at hK<;>go_simp<;>exact hK) ?_;refine So (.bool ((((ns.length:Nat):Int) != (0:Int))&&(((ns.length:Nat):Int) != ((n:Nat):Int)))) (λK Z hK=>by rcases ac ((((ns.length:Nat):Int) != (0:Int))) with hg|hg<;>simp only[hg,ar,ak,aD,aB,az,aq,aj,am]at hK<;>go_simp<;>exact hK) ?_;refine Sb M [] 2 (Sz ?_);refine lW (λhG=>?_) (λhG=>?_)
 ·rw[hG];replace hG:=aa hG;exfalso;have z:=hG.out;rcases hnn with h|h<;>simp [h]at z
 ·rw[hG];replace hG:=aa hG;refine Ra M [1] ?_;refine cf ?_;refine Ra M [1] ?_;refine cf ?_;refine Ra M [1] ?_;refine cf (bd (fA (dV (Sq ?_))));refine Se M underlying25 (λJ5 wv M=>?_);refine Sb M [] 1 ?_;refine AF (f:=D.s) M jm (Nj.below M.bel) (λy hy w'=>by rw[own];exact⟨rfl,rfl,OE y hy⟩) gW iK (λJ6 wv M=>Sw ?_);refine Sb M [] 1 (Sz (ae (aJ ?_)));refine fy (ι:=Nat × Option Addr × Nat) [103,104,105,106,107,108,109] (λfu=>match fu with|(m,Aq,cq)=>[(13,.slice Aq m cq)]) (λfu=>match fu with|(m,Aq,cq)=>ns.length<=m/\m<=n) (λfu=>match fu with|(m,Aq,cq)=>[.ow (.sl ((eY ns m []).map D.s)) 25 [.slice Aq m cq],.ow (.sl []) 26 [.slice (some ⟨J2.b,0,none⟩) 0 0],.bk (J1.b) 38 [.int .i64 3,.slice (some ⟨sb,so,none⟩) 1 c1,.slice A2 0 c2,.slice A3 0 c3,.slice A4 0 c4,.slice A5 0 c5,.int .i64 0,.int .i64 0]]) (λfu=>match fu with|(m,Aq,cq)=>n - m) (ns.length,(J6.a),(J6.c)) dP (by dsimp only;rw[jn];exact M.sel [0,1,2] dQ) ?_;rintro⟨m,Aq,cq⟩ zf2 W2 K2 h2 M vk;try dsimp only at h2 M ⊢
  refine uM ?_;obtain⟨DJ,DK⟩:=h2;refine ae (Ra M [] ?_);refine lW (λzL=>?_) (λzL=>?_)
  ·rw[zL];replace zL:=aa zL;have Ux:m<n:=by have z:=zL.out;simp at z;omega
   refine bd (dV (aJ (Sg (Sb M [] 1 ?_))));refine Sa M (λJ7 wv M=>?_);replace M:=M.up [1];have M:=M.str (t:=9) (s:=[]) dQ;replace M:=M.up [2,1,2];refine nQ M jm (λJ8 wv M=>Sw ?_);refine Sb M [] 1 (Sy (fA (dV ?_)));exact vk (m+1,((some ⟨J8.b,0,none⟩)),(J8.c)) _ _ dU (by(try dsimp only);omega) (by(try dsimp only);omega) (by(try dsimp only);rw[iM DJ,aI];exact M.sel [0,2,3] dQ)
  ·rw[zL];replace zL:=aa zL;have hmn:m=n:=by have z:=zL.out;simp at z;omega
   subst m;refine bo (es (es (fT (dV (ae (Ra M [] (aJ ?_)))))));refine aZ 2 ?_;refine ez (ae (Ra M [2] ?_));refine Hx (ae (aJ (Sq ?_)));refine Sb M [2] 4 ?_;refine Sf (show W2.cell? ⟨sb,so,none⟩=some (.int .i64 0)/\W2.cell? ⟨sb,so+1,none⟩=some (.int .i64 1)/\W2.cell? ⟨sb,so+2,none⟩=some (sv nm) from⟨(M.bel.cell tV).trans e0,(M.bel.cell tV).trans e1,(M.bel.cell tV).trans e2⟩) ?_;refine Sa M (λJ9 wv M=>?_);refine Ss M 0 (λwv M=>Sz (ae ?_));refine Ra M [0] ?_;refine gk (Sq ?_);refine Sb M [0] 3 ?_;replace M:=M.up [1];refine Sc (aF (gG _ n _ (eY ns n []) nm _ (YL (by rw[pD hnl]) (M.rp 0 rfl)) eb) ?_);rintro e w' ⟨rfl,rfl⟩;rw[Qv.out];refine Sp ?_;refine Sb M [] 1 (Sz (ae ?_));refine Ra M [1] ?_;refine cf ?_;refine Ra M [] ?_;refine lW (λmT=>?_) (λmT=>?_)
   ·rw[mT];replace mT:=aa mT;replace mT:=aa (show ix ns nm 0<0 by simpa using mT.out);refine Sq (Sb M [] 1 ?_);refine So (.int .i64 (n:Nat)) (λK Z hK=>tl) ?_;refine Sb M [] 1 (Sz (Sg ?_));refine Sb M [1] 3 ?_;refine Sa M (λL5 wv M=>?_);replace M:=M.up [1];have M:=M.str (t:=9) (s:=nm) hnm;replace M:=M.up [2,1,2];refine nQ M jm (λZd wv M=>Sw ?_);refine Sb M [] 1 (Sy (dV (Sg ?_)));refine Sb M [] 2 ?_;refine So (.int .i64 ((n:Int)+1)) (λK Z hK=>pH) ?_;refine Sa M (λTS wv M=>?_);replace M:=M.up [4];have M:=M.int (t:=3) (n:=((n:Int)+1)) (kP.2 (by have xQ:=xQ.out;constructor<;>omega));replace M:=M.up [2,1,2];refine nQ M rD (λI_ wv M=>Sw ?_);refine Sb M [] 1 (Sy (fA (dV ?_)));refine Rb M [] (dV (ez (ae ?_)));refine Ra M [5] ?_;refine cf (bo (es (es (fT (dV ?_)))));refine Ra M [] (aO ?_);refine vQ results117 ?_;rw[tq mT.out];exact(M.sel [0] dQ).retPos (l:=[(n:Int)+1])
   ·rw[mT];replace mT:=aa mT;replace mT:=aa (show ¬ix ns nm 0<0 by simpa using mT.out);refine bd (dV (Sg (Sb M [] 2 ?_)));refine So (.int .i64 ((ix ns nm 0)+1)) (λK Z hK=>pH) ?_;refine Sa M (λOY wv M=>?_);replace M:=M.up [3];have M:=M.int (t:=3) (n:=((ix ns nm 0)+1)) (kP.2 (by have xQ:=xQ.out;constructor<;>omega));replace M:=M.up [2,1,2];refine nQ M rD (λQx wv M=>Sw ?_);refine Sb M [] 1 (Sy (fA (dV ?_)));refine Rb M [] (dV (ez (ae ?_)));refine Ra M [4] ?_;refine cf (bo (es (es (fT (dV ?_)))));refine Ra M [] (aO ?_);refine vQ results117 ?_;rw[tt mT.out];exact(M.sel [0] dQ).retPos (l:=[(ix ns nm 0)+1])
def Vf (f:Nat):Prop:=∀(h:Hp) (v:Vec) (g:Nat) (F:List Nat) (B:Nat) (cs:List Value) (w:World),HB w g h F->rep w B v.toD cs->B<=w.heap.size->(∀y∈g::F,B<=y)->rX f h v->okD 3 v=true->
 Calls prog 51 #[.pointer (some ⟨g,0,none⟩),.agg cs.toArray] w λe w'=>e= .returned (.int .i64 (fL f h v).2)/\(Lit.int .i64 (fL f h v).2).wf=true/\∃F',HB w' g (fL f h v).1 F'/\Sub w.heap.size F F'/\Mod (g::F) w w'
theorem SH (f:Nat) (ih:Vf f):Vf (f+1):=by
 intro h v g F B cs w H hr hB hBF jV hv;rw[rX]at jV;obtain⟨UD,K9,kD,mD⟩:=jV;have QS:=hr;obtain⟨Ai,ni,ci,Ap,np,cp,An,nn,cn,Ac,nc,cc,Al,nl,cl,rfl,wk,ri,rp,rn,rc,rl,wc,we⟩:=fw hr;have hlp:=ef rp;rw[au]at hlp;have UB:(np:Int)<=1073741824:=dP;have xo:=aa ih;have OR:=aa UD;have HL:=aa hlp;have HV:=aa hv;have JA:=H.lt;clear ih UD hlp mD hr hv;have x0:Below w.heap.size w (w.alloc (.cells #[v.kind,.slice Ai ni ci,.slice Ap np cp,.slice An nn cn,.slice Ac nc cc,.slice Al nl cl,v.code,v.env] 38)):=(Below.refl _ _).alloc (af _) _;have k3:Blk (w.alloc (.cells #[v.kind,.slice Ai ni ci,.slice Ap np cp,.slice An nn cn,.slice Ac nc cc,.slice Al nl cl,v.code,v.env] 38)) w.heap.size 38 [v.kind,.slice Ai ni ci,.slice Ap np cp,.slice An nn cn,.slice Ac nc cc,.slice Al nl cl,v.code,v.env]:=Blk.new' (l:=[.int .i64 v.kind,.slice Ai ni ci,.slice Ap np cp,.slice An nn cn,.slice Ac nc cc,.slice Al nl cl,.int .i64 v.code,.int .i64 v.env]);have H0:=H.next x0;go_enter func51,ntmps51;go_wp2_with fail;refine(nT v _ _ HV.out dP (fb (gY QS hB) x0 x0.size)).mono ?_;rintro e w1 ⟨cs1,G1,rfl,o1,AP,hb1⟩;obtain⟨Bi,mi,di,Bp,mp,dp,Bn,mn,dn,Bc,mc,dc,Bl,ml,dl,I1,I2,I3,I4,I5,rfl,rfl,p1,p2,p3,p4,p5⟩:=jE o1;have z1:=hb1.size;simp only[dT]at z1 AP;have k31:=k3.next hb1;obtain⟨a0,a1,a2,a3,a4,a5,a6,a7⟩:=k31.c8;have hw1:w.heap.size<w1.heap.size:=dP;go_wp2_with fail;obtain⟨W,hW⟩:∃W,W=(((w1.alloc (.cells #[v.kind,.slice Bi mi di,.slice (some ⟨w1.heap.size+1,0,none⟩) 0 0,.slice Bn mn dn,.slice Bc mc dc,.slice Bl ml dl,v.code,v.env] 38)).alloc (.cells #[] 38)).alloc (.cells #[] 3)):=⟨_,rfl⟩;have xb:Below w1.heap.size w1 (((w1.alloc (.cells #[v.kind,.slice Bi mi di,.slice (some ⟨w1.heap.size+1,0,none⟩) 0 0,.slice Bn mn dn,.slice Bc mc dc,.slice Bl ml dl,v.code,v.env] 38)).alloc (.cells #[] 38)).alloc (.cells #[] 3)):=(((Below.refl _ _).alloc (af _) _).alloc dR _).alloc eA _;have k5:Blk (((w1.alloc (.cells #[v.kind,.slice Bi mi di,.slice (some ⟨w1.heap.size+1,0,none⟩) 0 0,.slice Bn mn dn,.slice Bc mc dc,.slice Bl ml dl,v.code,v.env] 38)).alloc (.cells #[] 38)).alloc (.cells #[] 3)) w1.heap.size 38 [v.kind,.slice Bi mi di,.slice (some ⟨w1.heap.size+1,0,none⟩) 0 0,.slice Bn mn dn,.slice Bc mc dc,.slice Bl ml dl,v.code,v.env]:=((Blk.new' (l:=[.int .i64 v.kind,.slice Bi mi di,.slice (some ⟨w1.heap.size+1,0,none⟩) 0 0,.slice Bn mn dn,.slice Bc mc dc,.slice Bl ml dl,.int .i64 v.code,.int .i64 v.env])).al).al;have oe:own prog (((w1.alloc (.cells #[v.kind,.slice Bi mi di,.slice (some ⟨w1.heap.size+1,0,none⟩) 0 0,.slice Bn mn dn,.slice Bc mc dc,.slice Bl ml dl,v.code,v.env] 38)).alloc (.cells #[] 38)).alloc (.cells #[] 3)) (.sl []) 36 [w1.heap.size+1] [.slice (some ⟨w1.heap.size+1,0,none⟩) 0 0]:=by have:=fK (o:= .cells #[] 3) (rW (w:=w1.alloc (.cells #[v.kind,.slice Bi mi di,.slice (some ⟨w1.heap.size+1,0,none⟩) 0 0,.slice Bn mn dn,.slice Bc mc dc,.slice Bl ml dl,v.code,v.env] 38)) (e:=38) underlying36);simpa only[dT]using this
 have oi:own prog (((w1.alloc (.cells #[v.kind,.slice Bi mi di,.slice (some ⟨w1.heap.size+1,0,none⟩) 0 0,.slice Bn mn dn,.slice Bc mc dc,.slice Bl ml dl,v.code,v.env] 38)).alloc (.cells #[] 38)).alloc (.cells #[] 3)) (.sl []) 26 [w1.heap.size+1+1] [.slice (some ⟨w1.heap.size+1+1,0,none⟩) 0 0]:=by have:=rW (w:=(w1.alloc (.cells #[v.kind,.slice Bi mi di,.slice (some ⟨w1.heap.size+1,0,none⟩) 0 0,.slice Bn mn dn,.slice Bc mc dc,.slice Bl ml dl,v.code,v.env] 38)).alloc (.cells #[] 38)) (e:=3) underlying26;simpa only[dT]using this
 have ov:own prog (((w1.alloc (.cells #[v.kind,.slice Bi mi di,.slice (some ⟨w1.heap.size+1,0,none⟩) 0 0,.slice Bn mn dn,.slice Bc mc dc,.slice Bl ml dl,v.code,v.env] 38)).alloc (.cells #[] 38)).alloc (.cells #[] 3)) (noParts v).toD 38 _ [v.kind,.slice Bi mi di,.slice (some ⟨w1.heap.size+1,0,none⟩) 0 0,.slice Bn mn dn,.slice Bc mc dc,.slice Bl ml dl,v.code,v.env]:=jD (x:=noParts v) wk (em p1 xb) oe (em p3 xb) (em p4 xb) (em p5 xb) wc we;have zW:W.heap.size=w1.heap.size+1+1+1:=by rw[hW];simp only[dT]
 have hIl:∀y∈I1++(I2++(I3++(I4++(I5++[])))),y<w1.heap.size:=gC o1;have hIn:w1.heap.size+1 ∉ I1++(I2++(I3++(I4++(I5++[])))):=λhm=>by have:=hIl _ hm;omega
 obtain⟨G,hG⟩:∃G,G=I1++([w1.heap.size+1]++(I3++(I4++(I5++[])))):=⟨_,rfl⟩;rw[<-hG]at ov;have hGn:G.Nodup:=by rw[hG];exact ub AP.1 dR (λy hy=>by simp only[ed]at hy;subst hy;exact .inr hIn)
 have hGf:∀y∈G,w.heap.size+1<=y:=λy hy=>by
  rw[hG]at hy;rcases aG.1 hy with hy|hy
  ·exact AP.2 y eK
  ·rcases aG.1 hy with hy|hy
   ·simp at hy;omega
   ·exact AP.2 y qj
 have hGl:∀y∈G,y<w1.heap.size+1+1:=λy hy=>by
  rw[hG]at hy;rcases aG.1 hy with hy|hy
  ·have:=hIl y eK;omega
  ·rcases aG.1 hy with hy|hy
   ·simp at hy;omega
   ·have:=hIl y qj;omega
 have hGb:w1.heap.size ∉ G:=λhm=>by
  rw[hG]at hm;rcases aG.1 hm with hm|hm
  ·have:=hIl _ (bJ _ hm);omega
  ·rcases aG.1 hm with hm|hm
   ·simp at hm
   ·have:=hIl w1.heap.size (by simp at hm;simp [hm]);omega
 have H1:=(H0.next hb1).next xb;have k3':=k31.next xb;have mm:=gU (gU (gU (F:=g::F) Mod.refl x0) hb1) xb;have XR:=H.lo;clear a0 a1 a2 a3 a4 a5 a6 a7 o1 p1 p2 p3 p4 p5 hIl hIn hG AP k31 oe;obtain⟨bW,hbW⟩:∃bW,bW=w1.heap.size:=⟨_,rfl⟩;have uK:w.heap.size+1<=bW:=dP;rw[<-hW]at k5 oi ov H1 k3' mm ⊢;rw[<-hbW]at k5 oi ov zW hGl hGb ⊢;clear hW hbW xb hb1 H0 k3 x0 z1 hw1;go_loopw [6,7] (λpt i wr=>∃(j:Nat) (F':List Nat) (Aq:Option Addr) (cq:Nat) (Fq:List Nat),j<=np/\i= .int .i64 j/\pt= .slice Aq j cq/\HB wr g ((v.parts.take j).foldl (js (fL f)) (h,[])).1 F'/\Sub w.heap.size F F'/\Blk wr w.heap.size 38 [v.kind,.slice Ai ni ci,.slice Ap np cp,.slice An nn cn,.slice Ac nc cc,.slice Al nl cl,v.code,v.env]/\Blk wr bW 38 [v.kind,.slice Bi mi di,.slice (some ⟨bW+1,0,none⟩) 0 0,.slice Bn mn dn,.slice Bc mc dc,.slice Bl ml dl,v.code,v.env]/\own prog wr (noParts v).toD 38 G [v.kind,.slice Bi mi di,.slice (some ⟨bW+1,0,none⟩) 0 0,.slice Bn mn dn,.slice Bc mc dc,.slice Bl ml dl,v.code,v.env]/\
  own prog wr (.sl (((v.parts.take j).foldl (js (fL f)) (h,[])).2.map (D.i .i64))) 26 Fq [.slice Aq j cq]/\Fresh (bW+1+1) Fq/\(∀y∈w.heap.size::bW::(G++Fq),y ∉ g::F')/\Mod (g::F) w wr) (λ_ i _=>np - (intOf i).toNat)
 case atStart=>exact⟨0,F,some ⟨bW+1+1,0,none⟩,0,[bW+1+1],by omega,rfl,rfl,H1,Sub.refl,k3',k5,ov,oi,⟨by simp,by simp⟩,λy hy hm=>by(have h1:=XR y hm;have h2:w.heap.size<=y:=by(rcases aX.1 hy with e|hy;omega;rcases aX.1 hy with e|hy;omega;rcases aG.1 hy with hy|hy;(have:=hGf y hy;omega);(simp at hy;omega)));omega,mm⟩
 case round=>
  clear H1 k3' k5 ov oi mm zW;obtain⟨j,F',Aq,cq,Fq,hj,rfl,rfl,Hj,sj,k3,k5,ov,oq,qL,Bw,mj⟩:=hrel;have bw:Below B w wr:=mj.below hBF hB;have ZS:=gC oq;have lov:=gC ov;have hW1:w.heap.size<wr.heap.size:=k3.lt;have hW2:bW<wr.heap.size:=k5.lt;have hBr:B<=wr.heap.size:=dP;obtain⟨a0,a1,a2,a3,a4,a5,a6,a7⟩:=k3.c8;by_cases hlj:j<np
  ·obtain⟨b,off,p,Ei,ui,vi,Ep,up,vp,En,un,vn,Ec,uc,vc,El,ul,vl,rfl,gD,hx,fE,e0,e1,e2,e3,e4,e5,e6,e7⟩:=my (fF rp bw) hlj;have HX:=aa hx;have ad2:okD 3 p=true:=by obtain⟨d',hd,Ya⟩:=(n7 HV.out).1 p (aA hx);obtain rfl:d'=2:=dP;exact Ew Ya
   have HOX:=aa ad2;have WY:=aa (vL OR.out hx);have XS:∀y∈w.heap.size::bW::(G++Fq),y<wr.heap.size:=λy hy=>by
    rcases aX.1 hy with e|hy
    ·omega
    ·rcases aX.1 hy with e|hy
     ·omega
     ·rcases aG.1 hy with hy|hy
      ·exact lov y hy
      ·exact ZS y hy
   have Xv:∀y∈g::F',B<=y:=λy hy=>by
    rcases kj (g:=g) sj y hy with h1|h1
    ·exact hBF y h1
    ·omega
   have XN:=Hj.lo;clear hx ad2;go_wp2_with (first
    |(go_at_call 51;refine(xo.out _ p g F' B _ wr Hj fE hBr Xv WY.out HOX.out).mono ?_;rintro e w3 ⟨rfl,X8,F3,H3,s3,m3⟩;have z3:=m3.size;obtain⟨q,hq⟩:∃q:Int,q=(fL f ((v.parts.take j).foldl (js (fL f)) (h,[])).1 p).2:=⟨_,rfl⟩;rw[<-hq]at X8 ⊢;have HQ:=aa hq;clear hq;have zJ:=AG Bw XS s3;have CC:=Blk.mod (g:=w.heap.size) k3 m3 (Bw _ dR);have UZ:=Blk.mod (g:=bW) k5 m3 (Bw _ dR);have ZY:=fH oq m3 (λy hy=>Bw y eK);have ov3:=fH ov m3 (λy hy=>Bw y eK);have x4:Below w3.heap.size w3 (w3.alloc (.cells #[q] 3)):=(Below.refl _ _).alloc (af _) _;have kn4:Blk (w3.alloc (.cells #[q] 3)) w3.heap.size 3 [q]:=Blk.new' (l:=[.int .i64 q]))
    |(at_builtin;refine n8 (xs:=((v.parts.take j).foldl (js (fL f)) (h,[])).2.map (D.i .i64)) (F:=Fq) (d:=D.i .i64 q) (F':=[]) (b:=w3.heap.size) (m:=1) (te:=3) (cs:=[.int .i64 q]) Kh dU rfl _ _ rfl rfl (em ZY x4) rfl kn4 (by rw[own];exact⟨rfl,rfl,X8⟩) rfl (by rw[bP];exact qL.1) eb dP ?_;intro gg gc w5 F5 o5 ap5 md5))
   simp only[dT]at ap5;have hFG:∀y∈G,y ∉ Fq:=λy hy hm=>by have h1:=hGl y hy;have h2:=qL.2 y hm;omega
   go_roundw
   case rel=>
    refine⟨j+1,F3,some ⟨gg,0,none⟩,gc,F5,by omega,by go_num,rfl,?_,sj.trans s3 dP,Blk.mod (g:=w.heap.size) (CC.next x4) md5 (qL.notin dP),Blk.mod (g:=bW) (UZ.next x4) md5 (qL.notin dP),fH (em ov3 x4) md5 hFG,?_,⟨ap5.1,λy hy=>?_⟩,λy hy hm=>?_,?_⟩
    ·rw[qC HX.out];exact(H3.next x4).mod md5 (λy hy hm=>zJ y eV hy)
    ·rw[qC HX.out];show own prog _ (.sl ((((v.parts.take j).foldl (js (fL f)) (h,[])).2++[(fL f ((v.parts.take j).foldl (js (fL f)) (h,[])).1 p).2]).map (D.i .i64))) _ _ _;rw[<-HQ.out,aI];exact o5
    ·rcases ap5.2 y hy with h1|h1|h1
     ·exact qL.2 y h1
     ·simp at h1
     ·omega
    ·have ahv:=H3.lo y hm;rcases aX.1 hy with e|hy
     ·exact zJ y mr hm
     ·rcases aX.1 hy with e|hy
      ·exact zJ y mr hm
      ·rcases aG.1 hy with hy|hy
       ·exact zJ y eK hm
       ·rcases ap5.2 y hy with h1|h1|h1
        ·exact zJ y kw hm
        ·simp at h1
        ·omega
    ·exact Mod.trans (gU (nO mj m3 (kj sj) (af _)) x4) md5 (λy hy=> .inr (by have:=qL.2 y hy;omega))
   case measure=>simp [intOf];omega
  ·obtain rfl:j=np:=dP;rw[aC wu]at Hj oq;obtain⟨b0,b1,b2,b3,b4,b5,b6,b7⟩:=k5.c8;have oc:own prog wr (Cel.toD ⟨0,noParts v,(v.parts.foldl (js (fL f)) (h,[])).2⟩) 43 (G++(Fq++[])) _:=uO (kP.2 dR) ov oq;have hGd:∀y∈G++(Fq++[]),y ∉ g::F':=λy hy=>Bw y qj;have agY:(G++(Fq++[])).Nodup:=by rw[bP];exact aE.2 ⟨hGn,qL.1,λa ha b hb e=>by have h1:=hGl a ha;have h2:=qL.2 b hb;omega⟩
   go_wp2_with fail;refine(Eb _ _ g F' _ _ _ Hj oc hGd agY K9).mono ?_;rintro e w6 ⟨rfl,F6,H6,s6,m6⟩;go_wp2_with fail;go_ret;have hpd:fL (f+1) h v=gH (v.parts.foldl (js (fL f)) (h,[])).1 ⟨1,noParts v,(v.parts.foldl (js (fL f)) (h,[])).2⟩:=by rw[fL]
   rw[hpd];refine⟨rfl,E6 K9,F6,H6,λy hy=>?_,?_⟩
   ·rcases s6 y hy with h1|h1|h1
    ·exact sj y h1
    ·rcases aG.1 h1 with h1|h1
     ·have:=hGf y h1;exact .inr dP
     ·have:=qL.2 y mt;exact .inr dP
    ·exact .inr dP
   ·exact nO mj m6 (kj sj) (af _)
end Go.Proofs.YtekcpadlmfaihaaGreat
