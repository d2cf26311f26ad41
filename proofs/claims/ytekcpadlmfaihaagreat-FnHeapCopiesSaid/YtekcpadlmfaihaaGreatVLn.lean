/- CoerceVector of the specification: atomic, a list, one element as a list. -/
import Derived.Test.YtekcpadlmfaihaaGreatVHf
import Derived.Test.YtekcpadlmfaihaaGreatVLd
import Derived.Test.YtekcpadlmfaihaaGreatVNf
import Derived.Test.YtekcpadlmfaihaaGreatVLg
import Derived.Test.YtekcpadlmfaihaaGreatVLe
import Derived.Test.YtekcpadlmfaihaaGreatVLi
import Derived.Test.YtekcpadlmfaihaaGreatVLk
import Derived.Test.YtekcpadlmfaihaaGreatVLv
import Derived.Test.YtekcpadlmfaihaaGreatVLx
import Derived.Test.YtekcpadlmfaihaaGreatVNsw
namespace Go.Proofs.YtekcpadlmfaihaaGreat
open Go.RowKit Proofs.Tryz
set_option maxHeartbeats 8000000
set_option maxRecDepth 100000
set_option linter.unusedSimpArgs false
set_option linter.unusedVariables false
variable {k pk xk:Int} {py x y:Item} {lv xc xl xn:List Str} {q:Nat} {α:Type} {v:Vec}
theorem Xg (v:Vec) (k:Int) (cs:List Value) (w:World) (h:rep w w.heap.size v.toD cs) (hni:v.items.length<=40) (hnn:v.names.length<=40) (h0:0<=v.kind) (hvk:v.kind<=k) (hk:k<4) (mT:∀x∈v.items,itOK (sI v.kind k x)) (hlg:∀x∈v.items,v.kind=1->0<=x.num/\x.num<2) (xg:isVec v=true) (gf:bigV v) (MY:isVec (⟨k,v.items.map (sI v.kind k),[],v.names,[],[],0,0⟩:Vec)=true) (MW:bigV (⟨k,v.items.map (sI v.kind k),[],v.names,[],[],0,0⟩:Vec)):
 Calls prog 122 #[av cs,k] w (eH (Vec.toD (⟨k,v.items.map (sI v.kind k),[],v.names,[],[],0,0⟩:Vec)) 38 (.bool true) w):=by
 obtain⟨Ai,ci,Ap,cp,An,cn,Ac,cc,Al,cl,rfl,wk,ri,rp,rn,rc,rl,wc,we⟩:=d_ h;have hv:=aa xg;have lJ:=aa gf;have AA:=aa MY;have hbg:=aa MW;have Mm:=aa (show decide ((0:Int)<=k/\k<=4)=true by simp;omega);clear xg gf MY MW;obtain⟨_,_,_,he,-,-,hri,-⟩:=(NS _ _ _ _).1 ri;injection he with he;injection he with e1 e2 e3;subst e1 e2 e3
 obtain⟨_,_,_,he,-,-,Nj,OE⟩:=(ls _ _ _ _).1 rn;injection he with he;injection he with e1 e2 e3;subst e1 e2 e3
 have Qv:=aa mT;have HLG:=aa hlg;have Z3:(Lit.int .i64 k).wf=true:=kP.2 fP;have q1:(v.kind==5)=false:=dS;have q2:decide (k<v.kind)=false:=dS;have q3:(k==4)=false:=dS;have q4:(v.kind==4)=false:=dS;clear mT hlg;have M:Mem prog w [] w []:=Mem.start;go_enter func122,ntmps122;refine Sq (Sa M (λJ1 wv M=>?_));refine Sa M (λJ2 wv M=>?_);refine Sb M [] 1 (Sz (ae (Sq ?_)));refine Sb M [1] 1 ?_;refine Sc (aF (ew _ _ _ (M.arg h) lJ.out) ?_);rintro e w' ⟨rfl,hb⟩;rw[hv.out];replace M:=M.next hb;refine Sp ?_;refine Sb M [] 3 ?_;refine Sc (aF (gj k 0 4 _) ?_);rintro e w' ⟨rfl,rfl⟩;rw[Mm.out];refine Sp ?_;refine Sb M [1] 22 (Sz ?_);refine gk (Sq ?_);refine Sb M [] 1 ?_;refine Se M underlying25 (λJ5 wv M=>?_);refine Sb M [2] 2 ?_;refine AF (f:=D.s) M jm (Nj.below M.bel) (λy hy w'=>by rw[own];exact⟨rfl,rfl,OE y hy⟩) gW iK (λJ6 wv M=>Sw ?_);refine Sb M [] 1 ?_;refine Sa M (λJ7 wv M=>?_);refine Ss M 0 (λwv M=>Sz (ae ?_));refine Ra M [3] ?_;refine cf ?_;refine Ra M [3] ?_;refine gk (ae ?_);refine Ra M [] (aJ ?_);refine fy (ι:=Nat × Option Addr × Nat) [8,58,59,60,61,62,63,64,65,66,67,68,69,70,71,72,73,74,75,76,77,78,79,80,81,82,83,84,85,86,87,88,89,90,91] (λfu=>match fu with|(j,Ao,co)=>[(7,.int .i64 (j:Nat))]) (λfu=>match fu with|(j,Ao,co)=>j<=v.items.length) (λfu=>match fu with|(j,Ao,co)=>[.ow (.sl (((v.items.take j).map (sI v.kind k)).map Item.toD)) 35 [.slice Ao j co],.ow (.sl (v.names.map D.s)) 25 [.slice J6.a v.names.length J6.c],.bk (J7.b) 38 [k,.slice Ao j co,(),.slice J6.a v.names.length J6.c,(),(),.int .i64 0,.int .i64 0],.bk (J2.b) 38 [.int .i64 0,(),(),(),(),(),.int .i64 0,.int .i64 0],.bk (J1.b) 38 [v.kind,.slice Ai v.items.length ci,.slice Ap v.parts.length cp,.slice An v.names.length cn,.slice Ac v.cls.length cc,.slice Al v.levels.length cl,v.code,v.env]]) (λfu=>match fu with|(j,Ao,co)=>v.items.length - j) (0,none,0) dP ((M.nil (t:=35) underlying35).sel [0,2,1,3,4] dQ) ?_;rintro⟨j,Ao,co⟩ Mf W1 K1 h1 M rH;try dsimp only at h1 M ⊢
 refine uM ?_;refine ae (Ra M [4] ?_);refine lW (λhlt=>?_) (λhlt=>?_)
 ·rw[hlt];replace hlt:=aa hlt;have hlj:j<v.items.length:=ko;obtain⟨b,off,x,Xu,gD,hx,c0,c1,c2⟩:=hri.at3 hlj;subst Xu;replace hx:=aa hx;have UM:=Qv.out x (aA hx.out);have X_:=HLG.out x (aA hx.out);have j0:(0:Int)<=(j:Int):=dP;have j1:(j:Int)<(v.items.length:Int):=dP;refine bd (dV (ae (aJ (Sq (Sb M [4] 4 ?_)))));refine Sf (show W1.cell? ⟨b,off+j*3,none⟩=some (.int .i64 x.num)/\W1.cell? ⟨b,off+j*3+1,none⟩=some (.int .i64 x.den)/\W1.cell? ⟨b,off+j*3+2,none⟩=some (sv x.text) from⟨(M.bel.cell gD).trans c0,(M.bel.cell gD).trans c1,(M.bel.cell gD).trans c2⟩) ?_;refine Sa M (λJ8 wv M=>?_);refine Ss M 0 (λwv M=>Sz ?_);refine Ra M [] ?_;refine cf ?_;refine CJ (M.sel [0,1,3,5,2,4] dQ) [none,some 8,some 10,none] [.o (J7.b) 1,.l 2 1,.o (J1.b) 0,.l 3 0,.i (k),.la 0,.v (.c (.agg #[.int .i64 (sI v.kind k x).num,.int .i64 (sI v.kind k x).den,sv (sI v.kind k x).text])),.v (.e 7 (λMg=> .slice (some ⟨Mg.b,0,none⟩) 1 1)),.v (vA 8 (j+1)),.p 8,.u] [.b 7 none 135 6,.e 8 none (oA 8 (.sl ((((v.items.take j).map (sI v.kind k)).map Item.toD)++[(sI v.kind k x).toD])) 35 (j+1)),.s 10 none 2 [(1,vA 8 (j+1))]] [[],[2],[],[3],[],[0],[],[],[4],[],[]] [] ?_ ?_
  ·show ∀i,i<11->_;refine On (On ?_ eh) (vI [2] [6] 1);refine On ?_ (tn [1] [5] [4] (h:=λγ wv R K M hK=>by have M:=M.item UM;exact mG (((M.pull 2 rfl).pull 1 rfl).pull 2 rfl) kM dU rfl (.tmp 83) (.tmp 89) rfl rfl rfl rfl eb dP λg c' w' M'=>hK (R3 g c') w' M'))
   refine On ?_ (kX [4]);refine On ?_ (tn [] [] [] (h:=λγ wv R K M hK=>by go_simp;go_at_call 166;exact f_ (Nw x v.kind k X_ _) M hK))
   exact On (On (On (On (On (On Oz eh) (e_ [2] 1)) eh) (e_ [3] 0)) eB) (ZX [0])
  intro Ho wv M;replace M:Mem _ _ _ _ [_,_,.bk _ _ [_,_,_],.ow _ _ _,.bk _ _ [_,_,_,_,_,_,_,_],_,_]:=M;refine fA (dV (Rb M [] (dV ?_)));exact rH (j+1,(some ⟨(Ho 8).b,0,none⟩),(Ho 8).c) _ _ dU (by(try dsimp only);omega) (by(try dsimp only);omega) (by(try dsimp only);rw[eJ hx.out,aI,aI];exact M.sel [3,5,4,6,1] dQ)
 ·rw[hlt];replace hlt:=aa hlt;obtain rfl:j=v.items.length:=ko;refine bo (es (es (fT (dV (ae ?_)))));rw[cC]at M;replace M:=(((M.nil (t:=25) underlying25).nil (t:=25) underlying25).nil (t:=36) underlying36);replace M:=M.up [4,1,4];replace M:=Mem.joinVec (v:=(⟨k,v.items.map (sI v.kind k),[],v.names,[],[],0,0⟩:Vec)) M Z3 le le;refine Sq (Sb M [1] 1 ?_);refine Sc (aF (ew _ _ _ (M.rp 0 rfl) hbg.out) ?_);rintro e w' ⟨rfl,hb⟩;rw[AA.out];replace M:=M.next hb;refine Sp ?_;refine Sb M [] 1 (Sz ?_);refine gk (Sq ?_);refine Sb M [1] 1 ?_;refine Ss M 2 (λwv M=>?_);refine Sb M [] 1 (Sz (aO ?_));refine kN results122 M 2 ?_;exact(M.sel [0] dQ).retTwo
theorem Cw (ps:List Vec) (ns Mz lv:List Str) (cs:List Value) (w:World) (h:rep w w.heap.size (Vec.toD ⟨4,[],ps,ns,Mz,lv,0,0⟩) cs) (hps:ps.length<=40) (hnn:ns.length<=40) (xy:∀y∈ps,okD 3 y=true/\szD y.toD<=500000000000) (xg:isVec (⟨4,[],ps,ns,Mz,lv,0,0⟩:Vec)=true) (gf:bigV (⟨4,[],ps,ns,Mz,lv,0,0⟩:Vec)) (MY:isVec (⟨4,[],ps,ns,[],[],0,0⟩:Vec)=true) (MW:bigV (⟨4,[],ps,ns,[],[],0,0⟩:Vec)):
 Calls prog 122 #[av cs,.int .i64 4] w (eH (Vec.toD (⟨4,[],ps,ns,[],[],0,0⟩:Vec)) 38 (.bool true) w):=by
 obtain⟨Ai,ci,Ap,cp,An,cn,Ac,cc,Al,cl,rfl,wk,ri,rp,rn,rc,rl,wc,we⟩:=d_ h;simp only[bf]at h ri;have hv:=aa xg;have lJ:=aa gf;have AA:=aa MY;have hbg:=aa MW;have Mm:=aa (show decide ((0:Int)<=(4:Int)/\(4:Int)<=4)=true by simp);clear xg gf MY MW;obtain⟨_,_,_,he,-,-,Nj,OE⟩:=(ls _ _ _ _).1 rn;injection he with he;injection he with e1 e2 e3;subst e1 e2 e3
 have HPS:=aa xy;clear xy;have M:Mem prog w [] w []:=Mem.start;go_enter func122,ntmps122;refine Sq (Sa M (λJ1 wv M=>?_));refine Sa M (λJ2 wv M=>?_);refine Sb M [] 1 (Sz (ae (Sq ?_)));refine Sb M [1] 1 ?_;refine Sc (aF (ew _ _ _ (M.arg h) lJ.out) ?_);rintro e w' ⟨rfl,hb⟩;rw[hv.out];replace M:=M.next hb;refine Sp ?_;refine Sb M [] 3 ?_;refine Sc (aF (gj 4 0 4 _) ?_);rintro e w' ⟨rfl,rfl⟩;rw[Mm.out];refine Sp ?_;refine Sb M [1] 22 (Sz ?_);refine gk (Sq ?_);refine Sb M [] 1 ?_;refine Se M underlying25 (λJ5 wv M=>?_);refine Sb M [2] 2 ?_;refine AF (f:=D.s) M jm (Nj.below M.bel) (λy hy w'=>by rw[own];exact⟨rfl,rfl,OE y hy⟩) gW iK (λJ6 wv M=>Sw ?_);refine Sb M [] 1 ?_;refine Sa M (λJ7 wv M=>?_);refine Ss M 0 (λwv M=>Sz (ae ?_));refine Ra M [3] ?_;refine ct (Sg ?_);refine Sb M [3] 2 ?_;refine Sx M 0 (λx=> .slice x.a ps.length x.c) (λx=>[.ow (.sl (ps.map Vec.toD)) 36 [.slice x.a ps.length x.c]]) (λK Z hK=>by go_simp;go_at_call 127;refine(BF ps (λy _=>nT y) HPS.out hps Ap ps.length cp _ (M.arg rp)).mono ?_;intro e w' hn;obtain⟨A',c',rfl,M'⟩:=M.newMap hn;exact hK (Ov A' c') w' M') (λJ8 wv M=>?_)
 refine Sb M [] 1 ?_;refine Ss M 1 (λwv M=>Sy (dV (ae ?_)));refine Ra M [] (aJ ?_);refine aZ 1 ?_;refine ez (ae (Ra M [4] ?_));refine cf (bo (es (es (fT (dV (ae ?_))))));replace M:=M.up [2,1];replace M:=(((M.nil (t:=25) underlying25).nil (t:=25) underlying25).nil (t:=35) underlying35);replace M:=M.up [4,4,2];replace M:=Mem.joinVec (v:=(⟨4,[],ps,ns,[],[],0,0⟩:Vec)) M LZ le le;refine Sq (Sb M [1] 1 ?_);refine Sc (aF (ew _ _ _ (M.rp 0 rfl) hbg.out) ?_);rintro e w' ⟨rfl,hb⟩;rw[AA.out];replace M:=M.next hb;refine Sp ?_;refine Sb M [] 1 (Sz ?_);refine gk (Sq ?_);refine Sb M [1] 1 ?_;refine Ss M 2 (λwv M=>?_);refine Sb M [] 1 (Sz (aO ?_));refine kN results122 M 2 ?_;exact(M.sel [0] dQ).retTwo
theorem Xh (xk:Int) (y:Item) (xn xc xl:List Str) (cs:List Value) (w:World) (h:rep w w.heap.size (Vec.toD ⟨xk,[y],[],xn,xc,xl,0,0⟩) cs) (hnn:xn.length<=40) (h1:1<=xk) (h3:xk<=3) (ZM:itOK y) (xg:isVec (⟨xk,[y],[],xn,xc,xl,0,0⟩:Vec)=true) (gf:bigV (⟨xk,[y],[],xn,xc,xl,0,0⟩:Vec)) (MY:isVec (⟨4,[],[qw xk y],xn,[],[],0,0⟩:Vec)=true) (MW:bigV (⟨4,[],[qw xk y],xn,[],[],0,0⟩:Vec)):
 Calls prog 122 #[av cs,.int .i64 4] w (eH (Vec.toD (⟨4,[],[qw xk y],xn,[],[],0,0⟩:Vec)) 38 (.bool true) w):=by
 obtain⟨Ai,ci,Ap,cp,An,cn,Ac,cc,Al,cl,rfl,wk,ri,rp,rn,rc,rl,wc,we⟩:=d_ h;simp only[bf,bt]at h ri rp;have hv:=aa xg;have lJ:=aa gf;have AA:=aa MY;have hbg:=aa MW;have Mm:=aa (show decide ((0:Int)<=(4:Int)/\(4:Int)<=4)=true by simp);clear xg gf MY MW;obtain⟨_,_,_,he,-,-,Nj,OE⟩:=(ls _ _ _ _).1 rn;injection he with he;injection he with e1 e2 e3;subst e1 e2 e3
 obtain⟨ib,io,x',Xu,Sj,qD,-,i0,i1,i2⟩:=pK ri (k:=0) dQ;obtain rfl:y=x':=by simpa using qD
 simp only[dx,cF]at i0 i1 i2;subst Xu;have q1:(xk==5)=false:=dS;have q2:decide (4<xk)=false:=dS;have q4:(xk==4)=false:=dS;clear qD;have M:Mem prog w [] w []:=Mem.start;go_enter func122,ntmps122;refine Sq (Sa M (λJ1 wv M=>?_));refine Sa M (λJ2 wv M=>?_);refine Sb M [] 1 (Sz (ae (Sq ?_)));refine Sb M [1] 1 ?_;refine Sc (aF (ew _ _ _ (M.arg h) lJ.out) ?_);rintro e w' ⟨rfl,hb⟩;rw[hv.out];replace M:=M.next hb;refine Sp ?_;refine Sb M [] 3 ?_;refine Sc (aF (gj 4 0 4 _) ?_);rintro e w' ⟨rfl,rfl⟩;rw[Mm.out];refine Sp ?_;refine Sb M [1] 22 (Sz ?_);refine gk (Sq ?_);refine Sb M [] 1 ?_;refine Se M underlying25 (λJ5 wv M=>?_);refine Sb M [2] 2 ?_;refine AF (f:=D.s) M jm (Nj.below M.bel) (λy hy w'=>by rw[own];exact⟨rfl,rfl,OE y hy⟩) gW iK (λJ6 wv M=>Sw ?_);refine Sb M [] 1 ?_;refine Sa M (λJ7 wv M=>?_);refine Ss M 0 (λwv M=>Sz (ae ?_));refine Ra M [3] ?_;refine cf ?_;refine Ra M [3] ?_;refine gk (ae ?_);refine Ra M [] (aJ ?_);refine aZ 2 ?_;refine ez (ae (Ra M [3] ?_));refine Hx (ae (aJ (Sq ?_)));refine Sb M [3] 4 ?_;refine Sf (show wv.cell? ⟨ib,io,none⟩=some (.int .i64 y.num)/\wv.cell? ⟨ib,io+1,none⟩=some (.int .i64 y.den)/\wv.cell? ⟨ib,io+2,none⟩=some (sv y.text) from⟨(M.bel.cell Sj).trans i0,(M.bel.cell Sj).trans i1,(M.bel.cell Sj).trans i2⟩) ?_;refine Sa M (λJ8 wv M=>?_);refine Ss M 0 (λwv M=>Sz ?_);refine Ra M [] ?_;refine ct (Sg ?_);refine Sb M [0,1,4] 5 ?_;refine Sa M (λJ9 wv M=>?_);refine Sb M [] 1 ?_;refine Sa M (λmO wv M=>?_);replace M:=M.up [1];have M:=Mem.lit1 (t:=35) ((M.item ZM).pull 1 rfl) underlying35 dU;replace M:=M.up [];have M:=Mem.joinVec (v:=qw xk y) (((((M.nil (t:=25) underlying25).nil (t:=25) underlying25).nil (t:=25) underlying25).nil (t:=36) underlying36).pull 4 rfl) wk le le;replace M:=M.up [];refine nQ (M.nil (t:=36) underlying36) jM (hn:=by decide) (h63:=by decide) (λL5 wv M=>Sw ?_);refine Sb M [] 1 ?_;refine Ss M 3 (λwv M=>Sy (fA (dV ?_)));refine Rb M [] (dV (ez (ae ?_)));refine Ra M [6] ?_;refine cf (bo (es (es (fT (dV (ae ?_))))));replace M:=M.up [4,1];replace M:=(((M.nil (t:=25) underlying25).nil (t:=25) underlying25).nil (t:=35) underlying35);replace M:=M.up [4,4,2];replace M:=Mem.joinVec (v:=(⟨4,[],[qw xk y],xn,[],[],0,0⟩:Vec)) M LZ le le;refine Sq (Sb M [3] 1 ?_);refine Sc (aF (ew _ _ _ (M.rp 0 rfl) hbg.out) ?_);rintro e w' ⟨rfl,hb⟩;rw[AA.out];replace M:=M.next hb;refine Sp ?_;refine Sb M [] 1 (Sz ?_);refine gk (Sq ?_);refine Sb M [3] 1 ?_;refine Ss M 4 (λwv M=>?_);refine Sb M [] 1 (Sz (aO ?_));refine kN results122 M 4 ?_;exact(M.sel [0] dQ).retTwo
theorem Vd (xk:Int) (y:Item) (xn xc xl:List Str) (t:Str) (ht:t.length<=maxLen) (X_:xl.length<=40) (ZM:itOK y) (abc:0<xl.length->(y.den=0↔eI y=true)) (hL:0<xl.length->eI y=false->∃q:Nat,y.num=(q:Int)+1/\xl[q]?=some t) (cx:List Value) (w:World) (fE:rep w w.heap.size (Vec.toD ⟨xk,[y],[],xn,xc,xl,0,0⟩) cx):
 Calls prog 121 #[av cx] w (gM (SU ⟨xk,[y],[],xn,xc,xl,0,0⟩).toD 38 w):=by
 have HL:=aa hL;obtain⟨Ai,ci,Ap,cp,An,cn,Ac,cc,Al,cl,rfl,wk,ri,rp,rn,rc,rl,wc,we⟩:=d_ fE;simp only[bf,bt]at fE ri rp;obtain⟨_,_,_,he,-,-,hri,hwi⟩:=(NS _ _ _ _).1 ri;injection he with he;injection he with e1 e2 e3;subst e1 e2 e3
 obtain⟨ib,io,x',Xu,Sj,qD,i0,i1,i2⟩:=hri.at3 (k:=0) dQ;obtain rfl:y=x':=by simpa using qD
 simp only[dx,cF]at i0 i1 i2;subst Xu;have HMS:Hid (0<xl.length->y.den=0->eI y=true):=aa (λh=>(abc h).1);have HMN:Hid (0<xl.length->¬y.den=0->eI y=false):=aa (λh h2=>by cases hm:eI y with|false=>rfl|true=>exact absurd ((abc h).2 hm) h2);clear abc;clear hL qD;have M:Mem prog w [] w []:=Mem.start;go_enter func121,ntmps121;refine Sq (Sa M (λJ1 wv M=>?_));refine Sa M (λJ2 wv M=>Sz ?_);refine mL (M.sel [1,0] dQ) [none] [.o (J1.b) 0,.l 0 0,.v (.e 2 (λqB=> .slice (some ⟨qB.b,0,none⟩) 0 0)),.o (J1.b) 1,.l 0 1,.v (vS 5 1),.v (.e 5 (λxh=> .agg #[xk,.slice xh.a 1 xh.c,(),(),(),(),.int .i64 0,.int .i64 0])),.q 7 0,.u] [.e 2 (some 5) (.e 2 (λqB=> .ow (.sl []) 35 [.slice (some ⟨qB.b,0,none⟩) 0 0])),.e 5 none (oS 5 (.sl ([y].map Item.toD)) 35 1),.e 7 (some 8) (oB 7 38 z8),.a 8 none 3 6] [[],[0],[],[],[0],[],[],[],[]] [] ?_ ?_
 ·show ∀i,i<9->_;refine On (On (On ?_ eh) (kX [3])) (vJ [3] [4]);refine On ?_ (tn [1] [2] [] (h:=λγ wv R K M hK=>by exact pO (f:=Item.toD) encItem M kM dU nW uY rfl (.tmp 7) (.tmp 9) rfl rfl (some ⟨ib,io,none⟩) 1 ci _ _ rfl (hri.below M.bel) (λy hy w'=>uR (hwi y hy).1 (hwi y hy).2.1 (hwi y hy).2.2) dP eb λA' c' w' M'=>hK (Ov A' c') w' M'))
  refine On (On ?_ eh) (e_ [0] 1);refine On ?_ (tn [] [1] [] (h:=λγ wv R K M hK=>by go_simp;exact hK (mA wv.heap.size) _ (M.emp underlying35)))
  exact On (On Oz eh) (e_ [0] 0)
 intro i7 wv M;replace M:Mem _ _ _ _ [_,.ow _ _ _,.bk _ _ [_,_,_,_,_,_,_,_],_]:=M;obtain⟨gi,Jz⟩:=(M.pull 1 rfl).some0 underlying35 (bZ);rw[Jz]at M ⊢;clear Jz;refine ae (Ra M [] (aJ ?_));refine aZ 2 ?_;refine ez (ae (Ra M [0] ?_));refine lW (λkQ=>?_) (λkQ=>?_)
 ·rw[kQ];replace kQ:=aa kQ;refine bd (dV (ae (aJ (Sq (Sb M [] 1 ?_)))));refine Ss M 2 (λwv M=>Sz (Sq ?_));refine Sb M [2] 5 ?_;replace M:=M.up [1];refine So (.int .i64 y.den) (λK Z hK=>by obtain⟨c0,c1,c2⟩:=M.itemAt (k:=0) (x:=y) rfl;simp only[dx,bI]at c0 c1 c2;clear M;go_simp;exact hK) ?_
  refine Sb M [] 1 (Sz ?_);refine lW (λCA=>?_) (λCA=>?_)
  ·rw[CA];replace CA:=aa CA;have AR:=kQ.out;obtain⟨q,Yb,Tz⟩:=HL.out (by simpa using AR) (HMN.out (by simpa using AR) kk);obtain⟨_,_,_,he,-,-,DP,-⟩:=(ls _ _ _ _).1 rl;injection he with he;injection he with e1 e2 e3;subst e1 e2 e3
   have Px:=(ay.1 Tz).1;obtain⟨lb,lo,t',hAl,hlb,Mc,l0⟩:=DP.atS Px;rw[Tz]at Mc;injection Mc with Mc;rw[<-Mc]at l0;clear Mc
   replace Yb:=aa Yb;replace Tz:=aa Tz;subst hAl;have j0:(0:Int)<=(q:Int):=dP;have j1:(q:Int)<(xl.length:Int):=dP;clear DP Px AR;refine CJ M [some 16,none,none] [.o ((i7 7).b) 1,.l 2 1,.i (0),.o (J1.b) 5,.l 1 5,.o (J1.b) 1,.l 1 1,.p 4,.o ib io,.p 0,.i (y.num),.i (q:Nat),.o lb (lo+q),.v (.c (sv t)),.v (.c (.agg #[.int .i64 0,.int .i64 1,sv t])),.o gi 0,.u] [.e 16 none (.c (.ow (.sl ([sN t].map Item.toD)) 35 [.slice (some ⟨gi,0,none⟩) 1 (i7 5).c]))] [[],[2],[],[],[1],[],[1],[],[],[],[],[],[],[],[],[],[]] [] ?_ ?_
   ·show ∀i,i<17->_;refine On ?_ (tn [0] [3] [] (h:=λγ wv R K M hK=>F9));refine On ?_ eh;refine On ?_ (tn [] [] [] (h:=λγ wv R K M hK=>by go_simp;go_at_call 168;exact f_ (t9 t _) M hK))
    refine On ?_ (mW [] (h:=λγ wv K M hK=>Gy));refine On ?_ eh;refine On ?_ (mW [] (h:=λγ wv K M hK=>F_));refine On ?_ (mW [] (h:=λγ wv K M hK=>by have c0:wv.cell? ⟨ib,io,none⟩=some (.int .i64 y.num):=(M.bel.cell Sj).trans i0;have c1:wv.cell? ⟨ib,io+1,none⟩=some (.int .i64 y.den):=(M.bel.cell Sj).trans i1;have c2:wv.cell? ⟨ib,io+2,none⟩=some (sv y.text):=(M.bel.cell Sj).trans i2;go_simp;exact hK))
    exact On (On (On (On (On (On (On (On (On (On Oz eh) (e_ [2] 1)) eB) eh) (e_ [1] 5)) eh) (e_ [1] 1)) eB) eh) eh
   intro Wf wv M;replace M:Mem _ _ _ _ [_,_,.ow _ _ _,_]:=M;refine fA (dV (Rb M [] (dV (ez (ae ?_)))));refine Ra M [0] ?_;refine cf (bo (es (es (fT (dV (ae ?_))))));refine Ra M [0] ?_;refine lW (λL8=>?_) (λL8=>?_)
   ·rw[L8];replace L8:=aa L8;refine Sg (Sb M [] 1 ?_);refine Ss M 1 (λwv M=>Sy (dV (Sq ?_)));refine Sb M [1] 1 ?_;refine Ss M 3 (λwv M=>Sz (aO ?_));refine kN results121 M 3 ?_;have MZ:=M.sel [2] dQ;simp only[lH,bH,bY,ah,ag]at MZ;have MZ:=((((MZ.nil (t:=25) underlying25).nil (t:=25) underlying25).nil (t:=25) underlying25).nil (t:=36) underlying36);replace MZ:=MZ.up [4];have h1:=kQ.out;rw[Ri h1 (HMN.out mt kk) Yb.out Tz.out];exact(Mem.joinVec (v:=⟨3,[sN t],[],[],[],[],0,0⟩) MZ Wa le le).retSt
   ·exact yo
  ·rw[CA];replace CA:=aa CA;refine bd (fA (dV (Rb M [] (dV (ez (ae ?_))))));refine Ra M [1] ?_;refine cf (bo (es (es (fT (dV (ae ?_))))));refine Ra M [1] ?_;refine lW (λL8=>?_) (λL8=>?_)
   ·rw[L8];replace L8:=aa L8;refine Sg (Sb M [] 1 ?_);refine Ss M 2 (λwv M=>Sy (dV (Sq ?_)));refine Sb M [2] 1 ?_;refine Ss M 3 (λwv M=>Sz (aO ?_));refine kN results121 M 3 ?_;have MZ:=M.sel [0] dQ;simp only[lH,bH,bY,ah,ag]at MZ;have MZ:=((((MZ.nil (t:=25) underlying25).nil (t:=25) underlying25).nil (t:=25) underlying25).nil (t:=36) underlying36);replace MZ:=MZ.up [4];have h1:=kQ.out;rw[NL h1 (HMS.out mt kk)];exact(Mem.joinVec (v:=⟨3,[y],[],[],[],[],0,0⟩) MZ Wa le le).retSt
   ·exact yo
 ·rw[kQ];replace kQ:=aa kQ;refine bo (es (es (fT (dV (ae (Ra M [0] ?_))))));refine lW (λL8=>?_) (λL8=>?_)
  ·exact yo
  ·rw[L8];replace L8:=aa L8;refine bd (dV (Sq (Sb M [2] 1 ?_)));refine Ss M 3 (λwv M=>Sz (aO ?_));refine kN results121 M 3 ?_;have MZ:=M.sel [1] dQ;simp only[lH,bH,bY,ah,ag]at MZ;have MZ:=((((MZ.nil (t:=25) underlying25).nil (t:=25) underlying25).nil (t:=25) underlying25).nil (t:=36) underlying36);replace MZ:=MZ.up [4];have h1:=kQ.out;rw[NM h1];exact(Mem.joinVec (v:=⟨xk,[y],[],[],[],[],0,0⟩) MZ wk le le).retSt
def PM (lv:List Str) (pk:Int) (py:Item):Item:=if py.den=0\/ix lv (sI pk 3 py).text 0<0 then⟨0,0,[]⟩ else l_ (ix lv (sI pk 3 py).text 0+1)
theorem Yj (h:py.den=0\/ix lv (sI pk 3 py).text 0<0):PM lv pk py=⟨0,0,[]⟩:=by unfold PM;rw[aN h]
theorem Ve (h:¬py.den=0/\0<=ix lv (sI pk 3 py).text 0):PM lv pk py=l_ (ix lv (sI pk 3 py).text 0+1):=by unfold PM;rw[aH dP]
theorem SE (xk pk:Int) (y py:Item) (xn xc xl lv:List Str) (Av:Option Addr) (cv:Nat) (cx:List Value) (w:World) (fE:rep w w.heap.size (Vec.toD ⟨xk,[y],[],xn,xc,xl,0,0⟩) cx)
 (mD:∀(cx:List Value) (w:World),rep w w.heap.size (Vec.toD ⟨xk,[y],[],xn,xc,xl,0,0⟩) cx->Calls prog 121 #[av cx] w (gM (Vec.toD ⟨pk,[py],[],[],[],[],0,0⟩) 38 w)) (adV:pk=1->0<=py.num/\py.num<2) (kQ:rep w w.heap.size (.sl (lv.map .s)) [.slice Av lv.length cv]) (hlb:lv.length<=40):
 Calls prog 120 #[av cx,.slice Av lv.length cv] w (gM (Vec.toD ⟨2,[PM lv pk py],[],[],[],[],0,0⟩) 38 w):=by
 have HP:=aa mD;have hlg:=aa adV;have xQ:=aa (pY lv (sI pk 3 py).text 0);obtain⟨Ai,ci,Ap,cp,An,cn,Ac,cc,Al,cl,rfl,wk,ri,rp,rn,rc,rl,wc,we⟩:=d_ fE;simp only[bf,bt]at fE;clear mD adV;have M:Mem prog w [] w []:=Mem.start;go_enter func120,ntmps120;refine Sq (Sa M (λJ1 wv M=>?_));refine Sa M (λJ2 wv M=>Sz (Sq ?_));refine Sb M [] 1 ?_;refine Sa M (λJ3 wv M=>?_);refine Ss M 0 (λwv M=>Sz ?_);replace M:=M.nil (t:=35) underlying35;refine Sq (Sb M [3] 1 ?_);refine Sc (Xe (HP.out _ _ (M.arg fE)) M λJ4 wv M=>Sp ?_);refine Sa M (λJ5 wv M=>?_);refine Ss M 0 (λwv M=>Sz ?_);obtain⟨gp,xw⟩:=(M.pull 1 rfl).some0 underlying35 (bZ);rw[xw]at M ⊢;clear xw;refine ae (Ra M [] (aJ ?_));refine aZ 2 ?_;refine ez (ae (Ra M [0] ?_));refine Hx (ae (aJ ?_));refine pe M [none,none] [.v (.c (.slice Av lv.length cv)),.o (J5.b) 0,.l 0 0,.o (J5.b) 1,.l 0 1,.i (0),.o gp 0,.v (.c (.agg #[py.num,py.den,sv py.text])),.v (.c (.agg #[.int .i64 (sI pk 3 py).num,.int .i64 (sI pk 3 py).den,sv (sI pk 3 py).text])),.x 0 2,.i (ix lv (sI pk 3 py).text 0),.p 0] [[],[],[0],[],[0],[],[],[1],[],[],[],[]] [] ?_ ?_
 ·show ∀i,i<12->_;refine On ?_ eB;refine On ?_ (tn [] [] [] (h:=λγ wv R K M hK=>by go_simp;go_at_call 49;exact QF (gG Av lv.length cv lv (sI pk 3 py).text _ (pd (M.arg kQ)) eb) M hK))
  refine On ?_ eh;refine On ?_ (tn [] [] [] (h:=λγ wv R K M hK=>by go_simp;go_at_call 166;exact f_ (Nw py pk 3 hlg.out _) M hK))
  refine On ?_ (mW [1] (h:=λγ wv K M hK=>Hb));exact On (On (On (On (On (On (On Oz eB) eh) (e_ [0] 0)) eh) (e_ [0] 1)) eB) eh
 intro i7 wv M;refine Sq (Sb M [0] 5 ?_);replace M:=M.up [1];refine So (.int .i64 py.den) (λK Z hK=>Hb) ?_;refine Sb M [] 2 ?_;refine So ((bif ((py.den:Int)==(0:Int)) then undef else .int .i64 (ix lv (sI pk 3 py).text 0))) (λK Z hK=>by rcases ac (((py.den:Int)==(0:Int))) with hg|hg<;>simp only[hg,ar,ak,aD,aB,az,aq,aj,am]at hK<;>go_simp<;>exact hK) ?_;refine So ((bif ((py.den:Int)==(0:Int)) then undef else .bool (decide (((ix lv (sI pk 3 py).text 0):Int)<(0:Int))))) (λK Z hK=>by rcases ac (((py.den:Int)==(0:Int))) with hg|hg<;>simp only[hg,ar,ak,aD,aB,az,aq,aj,am]at hK<;>go_simp<;>exact hK) ?_;refine So (.bool (((py.den:Int)==(0:Int))||(decide (((ix lv (sI pk 3 py).text 0):Int)<(0:Int))))) (λK Z hK=>by rcases ac (((py.den:Int)==(0:Int))) with hg|hg<;>simp only[hg,ar,ak,aD,aB,az,aq,aj,am]at hK<;>go_simp<;>exact hK) (Sz ?_);refine lW (λDL=>?_) (λDL=>?_)
 ·rw[DL];replace DL:=aa DL;refine Sg (Sb M [7] 3 ?_);refine Sa M (λJ6 wv M=>?_);replace M:=M.up [7];have M:=M.item (x:=⟨0,0,[]⟩) ⟨by decide,by decide,by decide⟩;replace M:=M.up [2,1,2];refine nQ M kM (λJ7 wv M=>Sw ?_);refine Sb M [] 1 ?_;refine Ss M 8 (λwv M=>Sy (fA (dV ?_)));refine Rb M [] (dV (ez (ae ?_)));refine Ra M [3] ?_;refine cf (bo (es (es (fT (dV (Sq ?_))))));refine Sb M [8] 1 ?_;refine Ss M 9 (λwv M=>Sz (aO ?_));refine kN results120 M 9 ?_;rw[Yj (by have z:=DL.out;simpa using z)];have MZ:=M.sel [0] dQ;simp only[lH,bH,bY,ah,ag,cJ]at MZ;have MZ:=((((MZ.nil (t:=25) underlying25).nil (t:=25) underlying25).nil (t:=25) underlying25).nil (t:=36) underlying36);replace MZ:=MZ.up [4];exact(Mem.joinVec (v:=⟨2,[⟨0,0,[]⟩],[],[],[],[],0,0⟩) MZ wf2 le le).retSt
 ·rw[DL];replace DL:=aa DL;refine CJ (M.sel [6,7,0,1,2,3,4,5,8,9] dQ) [some 6,some 8] [.o (J3.b) 1,.l 1 1,.i (ix lv (sI pk 3 py).text 0),.i ((ix lv (sI pk 3 py).text 0)+1),.v (.c (.agg #[.int .i64 ((ix lv (sI pk 3 py).text 0)+1),.int .i64 1,sv []])),.v (.e 5 (λxh=> .slice (some ⟨xh.b,0,none⟩) 1 1)),.v (vA 6 1),.p 6,.u] [.b 5 none 135 4,.e 6 none (oA 6 (.sl (([]:List D)++[Item.toD (l_ ((ix lv (sI pk 3 py).text 0)+1))])) 35 1),.s 8 none 1 [(1,vA 6 1)]] [[],[1],[],[],[],[],[2],[],[]] [] ?_ ?_
  ·show ∀i,i<9->_;refine On (On ?_ eh) (vI [1] [4] 1);refine On ?_ (tn [0] [3] [2] (h:=λγ wv R K M hK=>by have M:=M.item (x:=l_ ((ix lv (sI pk 3 py).text 0)+1)) (show itOK (l_ ((ix lv (sI pk 3 py).text 0)+1)) from⟨kP.2 (by have:=xQ.out;simp only[l_];omega),wf1,(show ([]:Str).length<=maxLen by decide)⟩);exact mG (((M.pull 2 rfl).pull 1 rfl).pull 2 rfl) kM dU rfl (.tmp 48) (.tmp 52) rfl rfl rfl rfl eb dP λg c' w' M'=>hK (R3 g c') w' M'))
   refine On ?_ (kX [2]);refine On ?_ (tn [] [] [] (h:=λγ wv R K M hK=>by go_simp;go_at_call 167;exact f_ (SG ((ix lv (sI pk 3 py).text 0)+1) _) M hK))
   refine On ?_ (mW [] (h:=λγ wv K M hK=>pH));exact On (On (On Oz eh) (e_ [1] 1)) eB
  intro Ho wv M;replace M:Mem _ _ _ _ [.bk _ _ [_,_,_],.ow _ _ _,.bk _ _ [_,_,_,_,_,_,_,_],_,_,_,_,_,_,_,_]:=M;refine fA (dV (Rb M [] (dV (ez (ae ?_)))));refine Ra M [4] ?_;refine cf (bo (es (es (fT (dV (Sq ?_))))));refine Sb M [2] 1 ?_;refine Ss M 9 (λwv M=>Sz (aO ?_));refine kN results120 M 9 ?_;rw[Ve (by have z:=DL.out;simpa using z)];have MZ:=M.sel [1] dQ;simp only[lH,bH,bY,ah,ag,cJ]at MZ;have MZ:=((((MZ.nil (t:=25) underlying25).nil (t:=25) underlying25).nil (t:=25) underlying25).nil (t:=36) underlying36);replace MZ:=MZ.up [4];exact(Mem.joinVec (v:=⟨2,[l_ ((ix lv (sI pk 3 py).text 0)+1)],[],[],[],[],0,0⟩) MZ wf2 le le).retSt
theorem MC (h:itemOK k x=true):x.den=0↔eI x=true:=by
 constructor
 ·intro h0;unfold itemOK at h;rw[bX]at h;rcases h with h|h
  ·exact h
  ·split at h
   ·simp only[ax,beq_iff_eq]at h;omega
   ·split at h
    ·have:=vw h;omega
    ·split at h
     ·simp only[ax,beq_iff_eq]at h;omega
     ·cases h
 ·intro h0;obtain rfl:x=⟨0,0,[]⟩:=by simpa [eI]using h0
  rfl
theorem TW {frm:Int}:eI (gI frm k x)=true↔eI x=true:=by
 unfold gI;split
 ·exact Iff.rfl
 ·next hc=>
  have hm:¬eI x=true:=λe=>hc (.inl e);split
  ·simp [eI,sN]at hm ⊢;exact hm
  ·split<;>(simp [eI,sN]at hm ⊢;exact hm)
theorem abS {l:List Str} (h:∀x∈l,x.length<=60) (k:Nat):(ZT l k).length<=60:=by
 unfold ZT;cases hx:l[k]? with
 |none=>simp
 |some t=>exact h t (aA hx)
theorem xX (hx:isVec ⟨xk,[y],[],xn,xc,xl,0,0⟩=true) (h1:1<=xk) (h3:xk<=3):
 ∃(pk:Int) (py:Item),(1<=pk/\pk<=3)/\itemOK pk py=true/\SU ⟨xk,[y],[],xn,xc,xl,0,0⟩=⟨pk,[py],[],[],[],[],0,0⟩/\
  (∀(cx:List Value) (w:World),rep w w.heap.size (Vec.toD ⟨xk,[y],[],xn,xc,xl,0,0⟩) cx->Calls prog 109 #[av cx] w (gM (Vec.toD ⟨pk,[py],[],[],[],[],0,0⟩) 38 w))/\
  (∀(cx:List Value) (w:World),rep w w.heap.size (Vec.toD ⟨xk,[y],[],xn,xc,xl,0,0⟩) cx->Calls prog 121 #[av cx] w (gM (Vec.toD ⟨pk,[py],[],[],[],[],0,0⟩) 38 w)):=by
 have F:=jf hx;obtain⟨m1,m2,m3,m4,m5,m6⟩:=FV.more (jB (i6 hx).1);have hy:itemOK xk y=true:=F.it y dR;have ZM:=rU hy;have hz:szD (Vec.toD ⟨xk,[y],[],xn,xc,xl,0,0⟩)<=500000000000:=by have:=vz hx;omega
 have kQ:xl.length<=20:=F.lev.1;have ahp:∀s∈xl,s.length<=60:=F.lev.2;have ht:=abS ahp (y.num - 1).toNat;have htm:(ZT xl (y.num - 1).toNat).length<=maxLen:=eb;have hL:0<xl.length->eI y=false->∃q:Nat,y.num=(q:Int)+1/\xl[q]?=some (ZT xl (y.num - 1).toNat):=λh0 hm=>by
  have h6:xl.length=0\/eI y=true\/(y.den=1/\1<=y.num/\y.num<=xl.length):=m6 y dR;rcases h6 with h|h|h
  ·omega
  ·rw[h]at hm;cases hm
  ·refine⟨(y.num - 1).toNat,by omega,?_⟩;unfold ZT;rw[aw dP];rfl
 obtain⟨pk,py,Ma,Sn,e⟩:∃(pk:Int) (py:Item),(1<=pk/\pk<=3)/\itemOK pk py=true/\SU ⟨xk,[y],[],xn,xc,xl,0,0⟩=⟨pk,[py],[],[],[],[],0,0⟩:=by
  by_cases hl:xl=[]
  ·exact⟨xk,y,⟨h1,h3⟩,hy,by unfold SU;rw[aN hl]⟩
  ·refine⟨3,if eI y then y else sN (ZT xl (y.num - 1).toNat),by omega,?_,by unfold SU;rw[aH hl];rfl⟩;split
   ·next hm=>simp [itemOK,hm]
   ·exact DZ ht
 refine⟨pk,py,Ma,Sn,e,λcx w hr=>?_,λcx w hr=>?_⟩
 ·have:=abZ xk y xn xc xl _ htm dP hL cx w hr hz;rw[e]at this;exact this
 ·have:=Vd xk y xn xc xl _ htm dP ZM (λ_=>MC hy) hL cx w hr;rw[e]at this;exact this
theorem O8 (hx:isVec ⟨xk,[y],[],xn,xc,xl,0,0⟩=true) (h1:1<=xk) (h3:xk<=3) (lv:List Str) (hlb:lv.length<=20):
 ∃ly:Item,itemOK 2 ly=true/\
  (∀(A:Option Addr) (c:Nat) (cx:List Value) (w:World),rep w w.heap.size (Vec.toD ⟨xk,[y],[],xn,xc,xl,0,0⟩) cx->rep w w.heap.size (.sl (lv.map .s)) [.slice A lv.length c]->Calls prog 108 #[av cx,.slice A lv.length c] w (gM (Vec.toD ⟨2,[ly],[],[],[],[],0,0⟩) 38 w))/\
  (∀(A:Option Addr) (c:Nat) (cx:List Value) (w:World),rep w w.heap.size (Vec.toD ⟨xk,[y],[],xn,xc,xl,0,0⟩) cx->rep w w.heap.size (.sl (lv.map .s)) [.slice A lv.length c]->Calls prog 120 #[av cx,.slice A lv.length c] w (gM (Vec.toD ⟨2,[ly],[],[],[],[],0,0⟩) 38 w)):=by
 obtain⟨pk,py,Ma,Sn,e,PI,PS⟩:=xX hx h1 h3;have hy3:=JG Sn Ma.1 Ma.2 (Int.le_refl 3);have hlc:PM lv pk py=Eh lv (gI pk 3 py):=by
  unfold PM Eh;rw[Dh py Ma.1 Ma.2 (Int.le_refl 3)];have:(py.den=0\/ix lv (gI pk 3 py).text 0<0)↔(eI (gI pk 3 py)=true\/ix lv (gI pk 3 py).text 0<0):=by rw[MC Sn,TW]
  by_cases h:eI (gI pk 3 py)=true\/ix lv (gI pk 3 py).text 0<0
  ·rw[aN (this.2 h),aN h]
  ·rw[aH (λq=>h (this.1 q)),aH h]
 refine⟨Eh lv (gI pk 3 py),?_,λA c cx w hr hl=>?_,λA c cx w hr hl=>?_⟩
 ·unfold Eh;split
  ·simp [itemOK,eI]
  ·next h=>
   have:=(pY lv (gI pk 3 py).text 0).2;have hn:=JE (y:=ix lv (gI pk 3 py).text 0+1) dP dP;unfold itemOK;rw[aH dQ,aN rfl,hn,Bool.or_true]
 ·refine RI xk y (gI pk 3 py) xn xc xl lv A c cx w hr (λcx w hr=>?_) hl dP;exact V1 xk pk y py xn xc xl cx w hr e (λcx w hr=>by rw[e];exact PI cx w hr) dP Ma.2 (rU hy3)
 ·have:=SE xk pk y py xn xc xl lv A c cx w hr PS (λh=>QX (by rw[<-h];exact Sn)) hl dP;rw[hlc]at this;exact this
theorem Bt (hv:isVec v=true) (h0:v.kind<=k) (hk:k<=3):isVec ⟨k,v.items.map (gI v.kind k),[],v.names,[],[],0,0⟩=true/\(∀x∈v.items,itemOK k (gI v.kind k x)=true)/\
 ∀(cs:List Value) (w:World),rep w w.heap.size v.toD cs->Calls prog 122 #[av cs,k] w (eH (Vec.toD ⟨k,v.items.map (gI v.kind k),[],v.names,[],[],0,0⟩) 38 (.bool true) w):=by
 have F:=jf hv;obtain⟨m1,m2,m3,m4,m5,m6⟩:=FV.more (jB (i6 hv).1);have Nn:∀x∈v.items,1<=v.kind:=λx hx=>by have:=F.ni (List.length_pos_of_mem hx);unfold atomK at this;have:=cD this;exact this.1
 have hp:v.parts.length=0:=by
  rcases bz v.parts.length with e|e
  ·exact e
  ·have:=F.np e;omega
 have hi:∀x∈v.items,itemOK k (gI v.kind k x)=true:=λx hx=>JG (F.it x hx) (Nn x hx) h0 hk;have hm:v.items.map (sI v.kind k)=v.items.map (gI v.kind k):=cT (λx hx=>Dh x (Nn x hx) h0 hk);have hc:isVec ⟨k,v.items.map (gI v.kind k),[],v.names,[],[],0,0⟩=true:=by
  refine DW ⟨by have:=F.kind.1;omega,hk⟩ (λh=>?_) (by have:=F.len;simp;omega) ⟨?_,F.names⟩ (λx hx=>?_)
  ·have h:0<v.items.length:=by simpa using h
   have:=Nn _ (dA h);omega
  ·rcases m2 with e|⟨e,e'⟩
   ·exact .inl e
   ·refine .inr ⟨?_,e'⟩;rw[e];unfold lenV;rw[aH dP,hp];simp
  ·obtain⟨z,hz,rfl⟩:=List.mem_map.1 hx;exact hi z hz
 refine⟨hc,hi,λcs w hr=>?_⟩;have:=Xg v k cs w hr (by have:=F.len;omega) (pB F) F.kind.1 h0 dP (λx hx=>by rw[Dh x (Nn x hx) h0 hk];exact rU (hi x hx)) (λx hx h=>QX (by rw[<-h];exact F.it x hx)) hv (eC hv) (by rw[hm];exact hc) (by rw[hm];exact eC hc);rw[hm]at this;exact this
theorem KX {T:Vec} (h:(kG T).2=[]):isVec T=true/\(kG T).1=T:=by
 unfold kG at h ⊢;split
 ·next e=>exact⟨e,rfl⟩
 ·next e=>rw[aH e]at h;cases h
theorem LN {B:Nat} (h:VB v B):VB (gZ v) B:=by
 unfold gZ;split
 ·exact⟨h.i,h.p,⟨by simp,by simp⟩,h.c,h.l⟩
 ·exact h
theorem Bf (v:Vec):(gZ v).kind=v.kind:=by unfold gZ;split<;>rfl
theorem uf {l:List α}{n:Nat} {d y z:α} (h:z∈(eY l n d).set q y):z∈l\/z=d\/z=y:=by
 rcases List.mem_or_eq_of_mem_set h with h|h
 ·unfold eY at h;rcases aG.1 h with h|h
  ·exact .inl h
  ·exact .inr (.inl (List.eq_of_mem_replicate h))
 ·exact .inr (.inr h)
theorem ue {l:List α} {d y:α} (hl:l.length<=40) (hq:q<40):((eY l (q+1) d).set q y).length<=40:=by rw[da];unfold eY;simp;omega
theorem QJ {l:List Str} (hl:l.length<=40) (hq:q<40) (h:∀x∈l,x.length<=60):(gS l (q+1)).length<=41/\∀x∈gS l (q+1),x.length<=60:=by
 unfold gS;split
 ·simp
 ·unfold eY;refine⟨by simp;omega,λx hx=>?_⟩;rcases aG.1 hx with h1|h1
  ·exact h x h1
  ·rw[List.eq_of_mem_replicate h1];simp
theorem VB.big (h:VB v 740880000):bigV v:=by have:=h.sz;unfold bigV;omega
def wH (v x:Vec) (pt:Int) (rv:Vec) (rs:Str):Prop:=
 (∀(cv cs cx:List Value) (W:World),rep W W.heap.size v.toD cv->rep W W.heap.size (nU [pt]).toD cs->rep W W.heap.size x.toD cx->Calls prog 42 #[av cv,av cs,av cx] W (eH rv.toD 38 (sv rs) W))/\
 (∀(cv cs cx:List Value) (W:World),rep W W.heap.size v.toD cv->rep W W.heap.size (nU [pt]).toD cs->rep W W.heap.size x.toD cx->Calls prog 52 #[av cv,av cs,av cx] W (eH rv.toD 38 (sv rs) W))
theorem N9 (hv:isVec v=true) (hx:isVec ⟨xk,[y],[],xn,xc,xl,0,0⟩=true) (h1:1<=xk) (h3:xk<=3) (hq:q<40) (h4:v.kind=4):
 ∃T:Vec,T.kind=4/\wH v ⟨xk,[y],[],xn,xc,xl,0,0⟩ ((q+1:Nat):Int) (kG T).1 (kG T).2:=by
 have F:=jf hv;obtain⟨m1,m2,m3,m4,m5,m6⟩:=FV.more (jB (i6 hv).1);obtain⟨OC,hvb⟩:=rm hv h4;have Uu:v.items=[]:=by rw[OC]
 have kQ:v.levels=[]:=by rw[OC]
 have gK:=F.len;have hnn:=pB F;have hn5:¬v.kind=5:=dP;have ZB:lenV v=v.parts.length:=by unfold lenV;rw[aH hn5,Uu];simp
 have hnm:v.names=[]\/v.names.length=v.parts.length:=by
  rcases m2 with e|⟨e,e'⟩
  ·exact .inl (aR.1 e)
  ·exact .inr (by rw[e,ZB])
 have UC:=(i6 hv).1;have xy:∀z∈v.parts,okD 3 z=true/\szD z.toD<=740880000:=λz hz=>by have h:=UC;rw[okD]at h;simp only[ax,aV]at h;have h2:=Ew (h.2 z hz);exact⟨h2,AZ h2⟩
 obtain⟨pk,py,Ma,Sn,e,PI,PS⟩:=xX hx h1 h3;have hone:=JF Ma.1 Ma.2 Sn;have hwr:=PF Ma.1 Ma.2 Sn;have h1o:okD 3 (qw pk py)=true:=Ev dP (λ_=>Ma.1) dR dR (by simpa using Sn);have h1s:szD (qw pk py).toD<=740880000:=AZ h1o;have abA:VB (EE v.parts v.names v.cls v.levels q (qw pk py)) 740880000:=by
  refine⟨by simp [EE],⟨?_,λz hz=>?_⟩,QJ hnn hq F.names,⟨by have:=F.cls.1;show v.cls.length<=40;omega,F.cls.2⟩,⟨by have:=F.lev.1;show v.levels.length<=40;omega,F.lev.2⟩⟩
  ·have:=ue (l:=v.parts) (d:=zeroV) (y:=qw pk py) (q:=q) dP hq;show ((eY v.parts (q+1) zeroV).set q (qw pk py)).length<=41;omega
  ·rcases uf (show z∈(eY v.parts (q+1) zeroV).set q (qw pk py) from hz) with h|rfl|rfl
   ·exact(xy z h).2
   ·simp [zeroV,go,szD,gv]
   ·exact h1s
 have ga:=(LN abA).big;have ec:conv v 4=⟨4,[],v.parts,v.names,[],[],0,0⟩:=by unfold conv;rw[aN rfl,Uu];simp
 refine⟨gZ (EE v.parts v.names v.cls v.levels q (qw pk py)),by rw[Bf];rfl,?_,?_⟩
 ·intro cv cs cx W gF mP fE;obtain⟨sb,so,c1,A2,c2,A3,c3,A4,c4,A5,c5,rfl,-,-,-,-⟩:=kV mP;refine xr v _ _ xk pk y py py xn xc xl q hq cv _ cx W gF mP fE h1 h3 (λW a b c=>QB v _ cv cx _ W a c hv hx (eC hv) (eC hx) hn5 _ dP dP b) (λh=>by rw[kQ]at h;simp at h) (λ_ W r=>PI cx W r) (λh=>by rw[kQ]at h;simp at h) (λ_ pb pc cz W a b c d=>?_);exact VS v ⟨pk,[py],[],[],[],[],0,0⟩ (qw pk py) v.parts q pb 0 pc _ _ _ _ _ _ _ _ _ _ _ _ _ _ _ _ _ cv cz W a b c d hq (by rw[h4];show max 4 pk=4;omega) (by show ¬pk=5;omega) hnm dP r_ sn dP
   (λcs W r=>by have:=zn v cs W r dP dP hnn hn5 dP (by rw[Uu];simp) (λz hz=>by have:=(xy z hz).2;omega);rw[ec]at this;exact this)
   (λcs W r=>zn ⟨pk,[py],[],[],[],[],0,0⟩ cs W r dR dR dR (by show ¬pk=5;omega) (by show pk<=4;omega) (λz hz=>by obtain rfl:z=py:=ms;exact rU Sn) dR) ga
 ·intro cv cs cx W gF mP fE;refine N0 v xk pk y py (qw pk py) v.parts xn xc xl q hq cv cs cx W gF mP fE h1 h3 hv (eC hv) hx (eC hx) h4 dP hnm dP gK r_ sn h1o dP
   (λW r A c=>Ag (lenV v) (by rw[ZB];omega) A v.names.length c B7 _ dP dP cs W r) (λh=>by rw[kQ]at h;simp at h) (λ_ W r=>PS cx W r) (λcs W r=>?_) (λcs W r=>?_) ga
  ·rw[OC]at r;exact Cw v.parts v.names v.cls [] cs W r dP hnn (λz hz=>⟨(xy z hz).1,by have:=(xy z hz).2;omega⟩) (by rw[<-OC];exact hv) (by rw[<-OC];exact eC hv) hvb (eC hvb)
  ·exact Xh pk py [] [] [] cs W r dR Ma.1 Ma.2 (rU Sn) hone (eC hone) hwr (eC hwr)
theorem BH {zk:Int}{zy:Item} (hv:isVec v=true) (hx:isVec ⟨xk,[y],[],xn,xc,xl,0,0⟩=true) (h1:1<=xk) (h3:xk<=3) (hq:q<40) (h4:v.kind<=3) (hzk:1<=zk/\zk<=3) (hzy:itemOK zk zy=true) (hz2:0<v.levels.length->zk=2)
 (LI:0<v.levels.length->∀(A:Option Addr) (c:Nat) (cx:List Value) (w:World),rep w w.heap.size (Vec.toD ⟨xk,[y],[],xn,xc,xl,0,0⟩) cx->rep w w.heap.size (.sl (v.levels.map .s)) [.slice A v.levels.length c]->Calls prog 108 #[av cx,.slice A v.levels.length c] w (gM (Vec.toD ⟨2,[zy],[],[],[],[],0,0⟩) 38 w))
 (LS:0<v.levels.length->∀(A:Option Addr) (c:Nat) (cx:List Value) (w:World),rep w w.heap.size (Vec.toD ⟨xk,[y],[],xn,xc,xl,0,0⟩) cx->rep w w.heap.size (.sl (v.levels.map .s)) [.slice A v.levels.length c]->Calls prog 120 #[av cx,.slice A v.levels.length c] w (gM (Vec.toD ⟨zk,[zy],[],[],[],[],0,0⟩) 38 w))
 (PI:v.levels.length=0->∀(cx:List Value) (w:World),rep w w.heap.size (Vec.toD ⟨xk,[y],[],xn,xc,xl,0,0⟩) cx->Calls prog 109 #[av cx] w (gM (Vec.toD ⟨zk,[zy],[],[],[],[],0,0⟩) 38 w))
 (PS:v.levels.length=0->∀(cx:List Value) (w:World),rep w w.heap.size (Vec.toD ⟨xk,[y],[],xn,xc,xl,0,0⟩) cx->Calls prog 121 #[av cx] w (gM (Vec.toD ⟨zk,[zy],[],[],[],[],0,0⟩) 38 w)):
 ∃T:Vec,T.kind<=3/\wH v ⟨xk,[y],[],xn,xc,xl,0,0⟩ ((q+1:Nat):Int) (kG T).1 (kG T).2:=by
 have F:=jf hv;obtain⟨m1,m2,m3,m4,m5,m6⟩:=FV.more (jB (i6 hv).1);have hn5:¬v.kind=5:=dP;have gK:=F.len;have hnn:=pB F;have hp:v.parts.length=0:=by
  rcases bz v.parts.length with e|e
  ·exact e
  ·have:=F.np e;omega
 have ZB:lenV v=v.items.length:=by unfold lenV;rw[aH hn5,hp];rfl
 have hnm:v.names=[]\/v.names.length=v.items.length:=by
  rcases m2 with e|⟨e,e'⟩
  ·exact .inl (aR.1 e)
  ·exact .inr (by rw[e,ZB])
 obtain⟨k,hk⟩:∃k,max v.kind zk=k:=⟨_,rfl⟩;have Sk:v.kind<=k/\zk<=k/\k<=3:=dP;obtain⟨c1,c2,c3⟩:=Bt hv Sk.1 Sk.2.2;have hone:=JF hzk.1 hzk.2 hzy;obtain⟨d1,d2,d3⟩:=Bt hone Sk.2.1 Sk.2.2;have hyk:itemOK k (gI zk k zy)=true:=d2 zy dR;have abA:VB (A_ k (v.items.map (gI v.kind k)) v.names v.cls v.levels q (gI zk k zy)) 740880000:=by
  refine⟨⟨?_,λz hz=>?_⟩,by simp [A_],QJ hnn hq F.names,⟨by have:=F.cls.1;show v.cls.length<=40;omega,F.cls.2⟩,⟨by have:=F.lev.1;show v.levels.length<=40;omega,F.lev.2⟩⟩
  ·have:=ue (l:=v.items.map (gI v.kind k)) (d:=(⟨0,0,[]⟩:Item)) (y:=gI zk k zy) (q:=q) dS hq;show ((eY (v.items.map (gI v.kind k)) (q+1) (⟨0,0,[]⟩:Item)).set q (gI zk k zy)).length<=41;omega
  ·rcases uf (show z∈(eY (v.items.map (gI v.kind k)) (q+1) (⟨0,0,[]⟩:Item)).set q (gI zk k zy) from hz) with h|rfl|rfl
   ·obtain⟨u,hu,rfl⟩:=List.mem_map.1 h;exact D5 (c2 u hu)
   ·simp
   ·exact D5 hyk
 have ga:=(LN abA).big;have HR:∀(B1 B2 B3 B4 B5:Option Addr) (m1 d1 m2 d2 m3 d3 m4 d4 m5 d5:Nat) (e1 e2:Int) (pb pc:Nat) (cv cz:List Value) (W:World),rep W W.heap.size v.toD cv->rep W W.heap.size (Vec.toD ⟨zk,[zy],[],[],[],[],0,0⟩) cz->pb<W.heap.size->W.cell? ⟨pb,0,none⟩=some (.int .i64 ((q+1:Nat):Int))->Calls prog 110 #[av cv,.slice (some ⟨pb,0,none⟩) 1 pc,.agg #[.int .i64 2,.slice B1 m1 d1,.slice B2 m2 d2,.slice B3 m3 d3,.slice B4 m4 d4,.slice B5 m5 d5,e1,e2],av cz,.int .i64 ((q+1:Nat):Int)] W
  (eH (kG (gZ (A_ k (v.items.map (gI v.kind k)) v.names v.cls v.levels q (gI zk k zy)))).1.toD 38 (sv (kG (gZ (A_ k (v.items.map (gI v.kind k)) v.names v.cls v.levels q (gI zk k zy)))).2) W):=
  λB1 B2 B3 B4 B5 m1 d1 m2 d2 m3 d3 m4 d4 m5 d5 e1 e2 pb pc cv cz W a b c d=>VP v ⟨zk,[zy],[],[],[],[],0,0⟩ zy q k pb 0 pc B1 B2 B3 B4 B5 m1 d1 m2 d2 m3 d3 m4 d4 m5 d5 e1 e2 cv cz W a b c d hq hk dP F.kind.1 (by show 0<=zk;omega) rfl dP hnm dR r_ sn (λz hz=>rU (c2 z hz)) (rU hyk) ga
 refine⟨gZ (A_ k (v.items.map (gI v.kind k)) v.names v.cls v.levels q (gI zk k zy)),by rw[Bf];exact Sk.2.2,?_,?_⟩
 ·intro cv cs cx W gF mP fE;obtain⟨sb,so,c1,A2,c2,A3,c3,A4,c4,A5,c5,rfl,-,-,-,-⟩:=kV mP;exact xr v _ _ xk zk y zy zy xn xc xl q hq cv _ cx W gF mP fE h1 h3 (λW a b c=>QB v _ cv cx _ W a c hv hx (eC hv) (eC hx) hn5 _ dP dP b) (λh A c W r1 r2=>LI h A c cx W r1 r2) (λh W r=>PI h cx W r)
   (λh pb pc cz W a b c d=>HR _ _ _ _ _ _ _ _ _ _ _ _ _ _ _ _ _ pb pc cv cz W a (by rw[hz2 h];exact b) c d) (λ_ pb pc cz W a b c d=>HR _ _ _ _ _ _ _ _ _ _ _ _ _ _ _ _ _ pb pc cv cz W a b c d)
 ·intro cv cs cx W gF mP fE;exact NW v xk zk k y zy (gI zk k zy) (v.items.map (gI v.kind k)) xn xc xl q hq cv cs cx W gF mP fE h1 h3 hv (eC hv) hx (eC hx) F.kind.1 dP hk dP (by simpa using hnm) dS gK r_ sn (rU hyk)
   (λW r A c=>Ag (lenV v) (by rw[ZB];omega) A v.names.length c B7 _ dP dP cs W r) (λh A c W r1 r2=>LS h A c cx W r1 r2) (λh W r=>PS h cx W r) c3 d3 ga
theorem N8 {x:Vec} {pt:Int} (hv:isVec v=true) (hx:isVec x=true) (hk:1<=x.kind/\x.kind<=3) (h1:x.items.length=1) (hp:1<=pt/\pt<=40) (h5:¬v.kind=5):
 ∃(rv:Vec) (rs:Str),wH v x pt rv rs/\(rs=[]->(rv.kind=4↔v.kind=4)/\isVec rv=true):=by
 obtain⟨xk,y,xn,xc,xl,rfl⟩:=Y3 hx hk h1;obtain⟨q,rfl⟩:∃q:Nat,pt=((q+1:Nat):Int):=⟨pt.toNat - 1,by omega⟩;have F:=jf hv;have hq:q<40:=dP;by_cases h4:v.kind=4
 ·obtain⟨T,hT,hB⟩:=N9 hv hx hk.1 hk.2 hq h4;refine⟨_,_,hB,λe=>?_⟩;obtain⟨e1,e2⟩:=KX e;rw[e2,hT,h4];exact⟨Iff.rfl,e1⟩
 ·have hv3:v.kind<=3:=by have:=F.kind.2;omega
  obtain⟨T,hT,hB⟩:∃T:Vec,T.kind<=3/\wH v ⟨xk,[y],[],xn,xc,xl,0,0⟩ ((q+1:Nat):Int) (kG T).1 (kG T).2:=by
   by_cases hl:v.levels.length=0
   ·obtain⟨pk,py,Ma,Sn,e,PI,PS⟩:=xX hx hk.1 hk.2;exact BH hv hx hk.1 hk.2 hq hv3 Ma Sn (λh=>by omega) (λh=>by omega) (λh=>by omega) (λ_=>PI) (λ_=>PS)
   ·obtain⟨ly,hly,LI,LS⟩:=O8 hx hk.1 hk.2 v.levels F.lev.1;exact BH hv hx hk.1 hk.2 hq hv3 dP hly (λ_=>rfl) (λ_=>LI) (λ_=>LS) (λh=>absurd h hl) (λh=>absurd h hl)
  refine⟨_,_,hB,λe=>?_⟩;obtain⟨e1,e2⟩:=KX e;rw[e2];exact⟨⟨λh=>by omega,λh=>absurd h h4⟩,e1⟩
theorem I0 (h:Hp) (nm fr:Str) (pt:Int) (v:Vec) (a b:Int) (h1:Hp) (k:Int) (hz:szD h.toD<=4194304) (l7:fG h=true) (jP:h.names.length=h.slots.length) (UA:(h.names.length:Int)<=1073741824) (DS:∀x∈h.cells,x.value.parts=[]) (oU:je ⟨0,nm,fr,pt,v⟩=true) (gf:bigV v) (C5:ix h.names nm 0=a) (C6:ix h.names fr 0=b) (cs cx:List Value) (w:World) (oD:rep w w.heap.size h.toD cs) (fE:rep w w.heap.size (Hop.toD ⟨0,nm,fr,pt,v⟩) cx)
 (HP':fL 4 h v=(h1,k)) (UE:rX 4 h v) (aem:okD 3 v=true) (hwk:(Lit.int .i64 k).wf=true) (Uv:h1.names.length=h1.slots.length) (hn1:(h1.names.length:Int)<=1073741824) (TP:hasN h1 nm=true->relOK 5 {h1 with slots:=h1.slots.set (ix h1.names nm 0).toNat k} (slotD h1 nm)):
 Calls prog 11 #[av cs,av cx] w (eH (fd h1 nm k).toD 28 (sv []) w):=by
 have hok:=aa l7;have gK:=aa jP;have rk:=aa DS;have wS:=aa oU;have lJ:=aa gf;have HA:=aa C5;have Tr:=aa C6;have HP:=aa HP';have xy:=aa UE;have ZJ:=aa aem;have AR:=aa Uv;have HR:=aa TP;obtain⟨Ah,ch,An,cn,Ak,cs,rfl,rc,rn,ER,wc⟩:=gV oD;obtain⟨Ai,ci,Ap,cp,OL,O7,Ac,cc,Al,cl,rfl,wn,wf,wa,gF⟩:=gQ fE;clear l7 jP oU gf C5 C6 DS rc rn ER HP' UE aem Uv TP;have M:Mem prog w [] w []:=Mem.start;go_enter func11,ntmps11;refine Sq (Sa M (λJ1 wv M=>?_));refine Sa M (λJ2 wv M=>?_);refine Sa M (λJ3 wv M=>?_);refine Sb M [] 1 (Sz (ae (Sq ?_)));refine Sb M [2] 1 ?_;refine Sc (aF (k9 h hz _ _ (M.arg oD)) ?_);rintro e w' ⟨rfl,hb⟩;rw[hok.out];replace M:=M.next hb;refine Sp ?_;refine Sb M [1] 3 ?_;refine Sc (aF (kZ _ _ _ (M.arg fE) lJ.out) ?_);rintro e w' ⟨rfl,hb⟩;rw[wS.out];replace M:=M.next hb;refine Sp ?_;refine Sb M [] 2 (Sz ?_);refine gk (Sq ?_);refine Sb M [2] 1 ?_;refine Sc (L6 (lF h hz rk.out _ _ (M.arg oD)) M λJ6 wv M=>Sp ?_);refine Sa M (λJ7 wv M=>?_);refine Ss M 0 (λwv M=>Sz ?_);replace M:=M.up [1];replace M:=Mem.openHeapL (h:=h) M;generalize J7.b=g at M ⊢;refine Sq (Sb M [3,5] 4 ?_);replace M:=M.up [1];refine Sc (aF (gG _ _ _ h.names nm _ (pd (M.rp 0 rfl)) eb) ?_);rintro e w' ⟨rfl,rfl⟩;rw[HA.out];refine Sp ?_;refine Sb M [] 1 (Sz (Sq ?_));refine Sb M [3,5] 4 ?_;refine Sc (aF (gG _ _ _ h.names fr _ (pd (M.rp 0 rfl)) eb) ?_);rintro e w' ⟨rfl,rfl⟩;rw[Tr.out];refine Sp ?_;refine Sb M [] 1 (Sz (ae ?_));refine Ra M [5] ?_;refine ct ?_;replace M:=M.up [1];replace M:=Mem.bxShut ((Mem.joinHeap (h:=h) M wc).pull 1 rfl);replace M:=M.up [];refine mL (M.sel [0,2,1,3] dQ) [some 4,none] [.o (J2.b) 1,.l 1 1,.o (J2.b) 4,.v (.c (.agg #[v.kind,.slice Ai v.items.length ci,.slice Ap v.parts.length cp,.slice OL v.names.length O7,.slice Ac v.cls.length cc,.slice Al v.levels.length cl,v.code,v.env])),.i (k),.v (.c (.tuple #[]))] [.e 4 (some 5) (.c (.bx (g) (Hp.toD h1) 28)),.e 5 none (.c (.bx (g) (Hp.toD (fd h1 nm k)) 28))] [[],[1],[],[1],[],[]] [] ?_ ?_
 ·show ∀i,i<6->_;refine On ?_ (tn [2] [3] [] (h:=λγ wv R K M hK=>by go_simp;go_at_call 50;exact M.heapCall (λF HF _=>vC h1 nm k g F _ HF wn hwk AR.out hn1 HR.out) (λw' M'=>hK (mA 0) w' M')))
  refine On ?_ (tn [0] [2] [] (h:=λγ wv R K M hK=>by go_simp;go_at_call 51;exact M.heapCall (h':=h1) (v:= .int .i64 k) (λF HF hX=>by have hq:=Ee 4 h v g F w.heap.size _ _ HF (fF gF M.bel) M.mod.size (λy hy=>(hX y hy).resolve_left dR) xy.out ZJ.out;rw[HP.out]at hq;exact hq.mono λe w' z=>⟨z.1,z.2.2⟩) (λw' M'=>hK (mA 0) w' M')))
  refine On ?_ (mW [1] (h:=λγ wv K M hK=>ur));exact On (On (On Oz eh) (e_ [1] 1)) eh
 intro i7 wv M;replace M:Mem _ _ _ _ [_,_,_,_]:=M;replace M:=M.up [1];obtain⟨Il,M⟩:=M.bxOpen;obtain⟨Wi,Wu,Wk,Wv,Wj,Bu,rfl,uj,M⟩:=Mem.openHeap (h:=(fd h1 nm k)) (M.pull 1 rfl);replace M:=M.up [];refine Sq (Sb M [3] 1 ?_);refine Ss M 5 (λwv M=>?_);refine Sb M [] 1 (Sz (aO (fI ?_)));refine kN results11 M 5 ?_;exact((M.sel [0,1,2] dQ).joinHeap (h:=(fd h1 nm k)) uj).retTwo
end Go.Proofs.YtekcpadlmfaihaaGreat
