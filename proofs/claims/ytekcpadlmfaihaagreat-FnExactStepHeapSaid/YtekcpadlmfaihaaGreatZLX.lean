/- AssignElement, AssignField of a list by a name. -/
import Derived.Test.YtekcpadlmfaihaaGreatZMA
import Derived.Test.YtekcpadlmfaihaaGreatZLE
import Derived.Test.YtekcpadlmfaihaaGreatZMB
import Derived.Test.YtekcpadlmfaihaaGreatZYC
import Derived.Test.YtekcpadlmfaihaaGreatZND
import Derived.Test.YtekcpadlmfaihaaGreatZLA
import Derived.Test.YtekcpadlmfaihaaGreatZR
import Derived.Test.YtekcpadlmfaihaaGreatZA
import Derived.ProofKit
import Derived.OpenShut
import Derived.ShutString
import Derived.ChangeOld
import Derived.Deep.Slices
import Derived.Deep.Fields
import Derived.ChangeSame
import Derived.Test.YtekcpadlmfaihaaGreatZD
import Derived.Test.YtekcpadlmfaihaaGreatZY
namespace Go.Proofs.YtekcpadlmfaihaaGreat
open Go.RowKit Proofs.Tryz
set_option maxHeartbeats 8000000
set_option maxRecDepth 100000
set_option linter.unusedSimpArgs false
set_option linter.unusedVariables false
variable {args:Array Value} {d:D} {Ψ:Ending->World->Prop} {h h':Hp} {R:List As} {F X:List Nat} {cs:List Value} {b f g:Nat} {e:TypeId} {w w0:World}
theorem Vz {t:TypeId} (hB:Blk w b e cs):Own Row.v cs.length e w 0 (some ⟨b,0,none⟩) 1 1 [(⟨cs,rfl⟩:Row cs.length)]:=
 ⟨rfl,by simp [Row.v],.inr ⟨b,1,cs.toArray,rfl,dj _,hB,af _,by decide,by simp,by simp [Row.v]⟩⟩
theorem EQ (hB:Blk w b e cs) (hr:rep w w.heap.size d cs):rep w w.heap.size (.sl [d]) [.slice (some ⟨b,0,none⟩) 1 1]:=by rw[rep];exact⟨_,1,1,cs.length,[⟨cs,rfl⟩],rfl,af _,by decide,(Vz (t:=e) hB).reads Row.len,by rw[br,bL,gb];exact⟨cs,[],rfl,hr,by rw[gb]⟩⟩
theorem LB {x:Vec} {cx:List Value} (hB:Blk w b 38 cx) (hr:rep w w.heap.size x.toD cx):rep w w.heap.size (Vec.toD ⟨4,[],[x],[],[],[],0,0⟩) [.int .i64 4,(),.slice (some ⟨b,0,none⟩) 1 1,(),(),(),.int .i64 0,.int .i64 0]:=
 uU (x:=⟨4,[],[x],[],[],[],0,0⟩) LZ nK (EQ hB hr) nK nK nK le le
def Rt:Vec:=⟨4,[],[],[],[],[],0,0⟩
theorem Kl:rep w w.heap.size Rt.toD [.int .i64 4,(),(),(),(),(),.int .i64 0,.int .i64 0]:=
 uU (x:=Rt) LZ nK nK nK nK nK le le
theorem VL {s:Str} (hB:Blk w b 9 [sv s]):Reads encS 1 w w.heap.size (some ⟨b,0,none⟩) 1 [s]:=
 ⟨rfl,λ_=>⟨b,0,rfl,hB.lt,λk x j u hk hu=>by
  have Sk:k=0:=by have:=(ay.1 hk).1;simp at this;omega
  subst Sk;simp only[ah,cE]at hk;subst hk;have hj:j=0:=by have:=(ay.1 hu).1;simp [encS]at this;omega
  subst hj;have hu':u=sv s:=by simpa [encS]using hu.symm
  subst hu';exact hB.cell 0⟩⟩
theorem QE {v:Vec} (h:Calls prog f args w (gM v.toD 38 w)) (M:Mem prog w0 X w R) (hK:∀(x:Gh) w',Mem prog w0 X w' (.ow v.toD 38 [x.f 0,x.f 1,x.f 2,x.f 3,x.f 4,x.f 5,x.f 6,x.f 7]::R)->Ψ (.returned (.agg #[x.f 0,x.f 1,x.f 2,x.f 3,x.f 4,x.f 5,x.f 6,x.f 7])) w'):Calls prog f args w Ψ:=
 h.mono λe w' hn=>by obtain⟨cs,rfl,M'⟩:=M.newSt hn;obtain⟨a0,a1,a2,a3,a4,a5,a6,a7,rfl⟩:=M'.vec8;exact hK (ghL [a0,a1,a2,a3,a4,a5,a6,a7]) w' M'
theorem uV (v x rv:Vec) (rs:Str) (nm:Str) (p:Int) (hp0:0<p) (cv cs cx:List Value) (w:World) (gF:rep w w.heap.size v.toD cv) (mP:rep w w.heap.size (iA [nm]).toD cs) (fE:rep w w.heap.size x.toD cx) (h4:v.kind=4) (hx0:¬x.kind=0)
 (TM:∀W:World,rep W W.heap.size v.toD cv->rep W W.heap.size (iA [nm]).toD cs->rep W W.heap.size x.toD cx->Calls prog 105 #[av cv,av cs,av cx] W (jq [p] [] W))
 (TP:∀(pb pc:Nat) (cz:List Value) (W:World),rep W W.heap.size v.toD cv->rep W W.heap.size (iA [nm]).toD cs->rep W W.heap.size (Vec.toD ⟨4,[],[x],[],[],[],0,0⟩) cz->pb<W.heap.size->W.cell? ⟨pb,0,none⟩=some (.int .i64 p)->Calls prog 110 #[av cv,.slice (some ⟨pb,0,none⟩) 1 pc,av cs,av cz,p] W (eH rv.toD 38 (sv rs) W)):
 Calls prog 112 #[av cv,av cs,av cx] w (eH rv.toD 38 (sv rs) w):=by
 have HAP:=aa TM;have HR:=aa TP;obtain⟨sb,so,c1,A2,c2,A3,c3,A4,c4,A5,c5,rfl,tV,e0,e1,e2⟩:=jX mP;obtain⟨Ai,ci,Ap,cp,An,cn,Ac,cc,Al,cl,rfl,wk,ri,rp,rn,rc,rl,wc,we⟩:=d_ gF;obtain⟨w_,xd,yQ,yU,yP,yT,yN,yR,yO,yS,rfl,CR,CK,CN,CM,CH,CL,AC,CQ⟩:=d_ fE;have q0:(p==0)=false:=dS;have q1:(v.kind==4)=true:=fO;have q1b:(v.kind != 4)=false:=fO;have q2:(v.kind==0)=false:=fO;have q3:(x.kind==0)=false:=ou;clear TM TP h4 hx0 hp0;have M:Mem prog w [] w []:=Mem.start;go_enter func112,ntmps112;refine Sq (Sa M (λJ1 wv M=>?_));refine Sa M (λJ2 wv M=>?_);refine Sa M (λJ3 wv M=>?_);refine Sa M (λJ4 wv M=>?_);refine Sb M [] 1 (Sz (Sq ?_));refine Sb M [1,2,3] 3 ?_;refine Sc (Mw (HAP.out _ (M.arg gF) (M.arg mP) (M.arg fE)) M λJ5 wv M=>Sp ?_);refine Sb M [] 5 (Sz ?_);obtain⟨gp,xw⟩:=(M.pull 0 rfl).some0 underlying26 (bZ);rw[xw]at M ⊢;clear xw;refine ae (Ra M [] ?_);refine gk (ae (Sq ?_));refine Sb M [3] 1 ?_;refine Sc (f_ (pN 3 dQ _ 1 _ _ 0 _ _ _ _ _ _ _ _ _ _ 0 0 dP _) M λJ6 wv M=>Sp ?_);refine Sb M [] 9 ?_;refine So (.int .i64 p) (λK Z hK=>yr) ?_;refine Sb M [] 2 (Sz ?_);refine gk (Sq ?_);refine Sb M [2] 1 ?_;refine Sc (f_ (oY x _ _ (M.arg fE)) M λJ7 wv M=>Sp ?_);refine Sb M [] 1 ?_;refine So ((bif (atomK x.kind) then .pointer (some ⟨J3.b,1,none⟩) else undef)) (λK Z hK=>by rcases ac ((atomK x.kind)) with hg|hg<;>simp only[hg,ar,ak,aD,aB,az,aq,aj,am]at hK<;>go_simp<;>exact hK) ?_;refine So ((bif (atomK x.kind) then .slice w_ x.items.length xd else undef)) (λK Z hK=>by have hc:=(M.bl 2 rfl).cells;simp only[ju,Nat.reduceAdd]at hc;(repeat (obtain⟨c,hc⟩:=hc));rcases ac ((atomK x.kind)) with hg|hg<;>simp only[hg,ar,ak,aD,aB,az,aq,aj,am]at hK<;>go_simp<;>exact hK) ?_;refine So ((bif (atomK x.kind) then .int .i64 (x.items.length:Nat) else undef)) (λK Z hK=>by rcases ac ((atomK x.kind)) with hg|hg<;>simp only[hg,ar,ak,aD,aB,az,aq,aj,am]at hK<;>go_simp<;>exact hK) ?_;refine So ((bif (atomK x.kind) then .bool (((x.items.length:Nat):Int)==(1:Int)) else undef)) (λK Z hK=>by rcases ac ((atomK x.kind)) with hg|hg<;>simp only[hg,ar,ak,aD,aB,az,aq,aj,am]at hK<;>go_simp<;>exact hK) ?_;refine So (.bool ((atomK x.kind)&&(((x.items.length:Nat):Int)==(1:Int)))) (λK Z hK=>by rcases ac ((atomK x.kind)) with hg|hg<;>simp only[hg,ar,ak,aD,aB,az,aq,aj,am]at hK<;>go_simp<;>exact hK) ?_;refine Sb M [] 1 (Sz ?_);generalize ((atomK x.kind)&&(((x.items.length:Nat):Int)==(1:Int)))=sg;refine ae (Sq (Sb M [] 3 ?_));refine So ((bif sg then undef else .pointer (some ⟨J1.b,0,none⟩))) (λK Z hK=>by rcases ac (sg) with hg|hg<;>simp only[hg,ar,ak,aD,aB,az,aq,aj,am]at hK<;>go_simp<;>exact hK) ?_;refine So ((bif sg then undef else .int .i64 v.kind)) (λK Z hK=>by have hc:=(M.bl 4 rfl).cells;simp only[ju,Nat.reduceAdd]at hc;(repeat (obtain⟨c,hc⟩:=hc));rcases ac (sg) with hg|hg<;>simp only[hg,ar,ak,aD,aB,az,aq,aj,am]at hK<;>go_simp<;>exact hK) ?_;refine So ((bif sg then undef else .bool false)) (λK Z hK=>by rcases ac (sg) with hg|hg<;>simp only[hg,ar,ak,aD,aB,az,aq,aj,am]at hK<;>go_simp<;>exact hK) ?_;refine So (.bool false) (λK Z hK=>by rcases ac (sg) with hg|hg<;>simp only[hg,ar,ak,aD,aB,az,aq,aj,am]at hK<;>go_simp<;>exact hK) ?_;refine Sb M [] 5 (Sz ?_);refine gk (ae ?_);refine Ra M [4] ?_;refine gk (ae ?_);refine Ra M [4] ?_;refine gk (ae ?_);refine Ra M [2] ?_;refine gk (Sq ?_);refine Sb M [2] 1 ?_;refine Sa M (λJ8 wv M=>?_);refine Sb M [] 1 ?_;refine Sa M (λJ9 wv M=>?_);refine Ss M 0 (λwv M=>Sz ?_);refine mL (M.sel [0,1,2,3,5,6,4] dQ) [none,none,none,some 10,none,none] [.la 5,.v (.c (.slice (some ⟨gp,0,none⟩) 1 J5.c)),.la 4,.la 0,.p 2,.o gp 0,.i (p),.v (vT 7 rv.kind rv.items.length rv.parts.length rv.names.length rv.cls.length rv.levels.length rv.code rv.env (sv rs)),.x 0 0,.x 1 1,.u,.p 1] [.e 7 none (oW 7 (rv.toD) 38 rv.kind rv.items.length rv.parts.length rv.names.length rv.cls.length rv.levels.length rv.code rv.env),.x 10 none 3 7 0] [[5],[],[4],[0],[],[],[2],[2,1],[],[],[],[]] [] ?_ ?_
 ·show ∀i,i<12->_
  refine On (On (On (On ?_ eB) eB) (vJ [3] [7])) eB;refine On ?_ (tn [] [6] [2,1] (h:=λγ wv R K M hK=>by go_simp;go_at_call 110;exact AH (HR.out gp _ _ _ (M.arg gF) (M.arg mP) (LB (M.bl 1 rfl) (M.arg fE)) ((M.pull 0 rfl).intAt (k:=0) rfl).2 ((M.pull 0 rfl).intAt (k:=0) rfl).1) M hK))
  refine On ?_ (mW [2] (h:=λγ wv K M hK=>yr));exact On (On (On (On (On (On Oz (lL [5])) eB) (lL [4])) (lL [0])) eB) eh
 intro i7 wv M;replace M:Mem _ _ _ _ [_,_,_,_,_,.ow _ _ _,.bk _ _ [_,_,_,_,_,_,_,_],_]:=M;refine aO (kN results112 M 6 ?_);exact(M.sel [5] dQ).retTwo
theorem Di (v x rv:Vec) (nm:Str) (p:Int) (hp0:0<p) (cv cs cx:List Value) (w:World) (gF:rep w w.heap.size v.toD cv) (mP:rep w w.heap.size (iA [nm]).toD cs) (fE:rep w w.heap.size x.toD cx) (h4:v.kind=4) (hx0:x.kind=0)
 (TM:∀W:World,rep W W.heap.size v.toD cv->rep W W.heap.size (iA [nm]).toD cs->rep W W.heap.size x.toD cx->Calls prog 105 #[av cv,av cs,av cx] W (jq [p] [] W))
 (HL':∀(pb pc:Nat) (W:World),rep W W.heap.size v.toD cv->pb<W.heap.size->W.cell? ⟨pb,0,none⟩=some (.int .i64 p)->Calls prog 106 #[av cv,.slice (some ⟨pb,0,none⟩) 1 pc] W (gM rv.toD 38 W)):
 Calls prog 112 #[av cv,av cs,av cx] w (eH rv.toD 38 (sv []) w):=by
 have HAP:=aa TM;have HL:=aa HL';obtain⟨sb,so,c1,A2,c2,A3,c3,A4,c4,A5,c5,rfl,tV,e0,e1,e2⟩:=jX mP;obtain⟨Ai,ci,Ap,cp,An,cn,Ac,cc,Al,cl,rfl,wk,ri,rp,rn,rc,rl,wc,we⟩:=d_ gF;obtain⟨w_,xd,yQ,yU,yP,yT,yN,yR,yO,yS,rfl,CR,CK,CN,CM,CH,CL,AC,CQ⟩:=d_ fE;have q0:(p==0)=false:=dS;have q1:(v.kind==4)=true:=fO;have q1b:(v.kind != 4)=false:=fO;have q2:(v.kind==0)=false:=fO;have q3:(x.kind==0)=true:=ou;clear TM HL' h4 hx0 hp0;have M:Mem prog w [] w []:=Mem.start;go_enter func112,ntmps112;refine Sq (Sa M (λJ1 wv M=>?_));refine Sa M (λJ2 wv M=>?_);refine Sa M (λJ3 wv M=>?_);refine Sa M (λJ4 wv M=>?_);refine Sb M [] 1 (Sz (Sq ?_));refine Sb M [1,2,3] 3 ?_;refine Sc (Mw (HAP.out _ (M.arg gF) (M.arg mP) (M.arg fE)) M λJ5 wv M=>Sp ?_);refine Sb M [] 5 (Sz ?_);obtain⟨gp,xw⟩:=(M.pull 0 rfl).some0 underlying26 (bZ);rw[xw]at M ⊢;clear xw;refine ae (Ra M [] ?_);refine gk (ae (Sq ?_));refine Sb M [3] 1 ?_;refine Sc (f_ (pN 3 dQ _ 1 _ _ 0 _ _ _ _ _ _ _ _ _ _ 0 0 dP _) M λJ6 wv M=>Sp ?_);refine Sb M [] 9 ?_;refine So (.int .i64 p) (λK Z hK=>yr) ?_;refine Sb M [] 2 (Sz ?_);refine gk (Sq ?_);refine Sb M [2] 1 ?_;refine Sc (f_ (oY x _ _ (M.arg fE)) M λJ7 wv M=>Sp ?_);refine Sb M [] 1 ?_;refine So ((bif (atomK x.kind) then .pointer (some ⟨J3.b,1,none⟩) else undef)) (λK Z hK=>by rcases ac ((atomK x.kind)) with hg|hg<;>simp only[hg,ar,ak,aD,aB,az,aq,aj,am]at hK<;>go_simp<;>exact hK) ?_;refine So ((bif (atomK x.kind) then .slice w_ x.items.length xd else undef)) (λK Z hK=>by have hc:=(M.bl 2 rfl).cells;simp only[ju,Nat.reduceAdd]at hc;(repeat (obtain⟨c,hc⟩:=hc));rcases ac ((atomK x.kind)) with hg|hg<;>simp only[hg,ar,ak,aD,aB,az,aq,aj,am]at hK<;>go_simp<;>exact hK) ?_;refine So ((bif (atomK x.kind) then .int .i64 (x.items.length:Nat) else undef)) (λK Z hK=>by rcases ac ((atomK x.kind)) with hg|hg<;>simp only[hg,ar,ak,aD,aB,az,aq,aj,am]at hK<;>go_simp<;>exact hK) ?_;refine So ((bif (atomK x.kind) then .bool (((x.items.length:Nat):Int)==(1:Int)) else undef)) (λK Z hK=>by rcases ac ((atomK x.kind)) with hg|hg<;>simp only[hg,ar,ak,aD,aB,az,aq,aj,am]at hK<;>go_simp<;>exact hK) ?_;refine So (.bool ((atomK x.kind)&&(((x.items.length:Nat):Int)==(1:Int)))) (λK Z hK=>by rcases ac ((atomK x.kind)) with hg|hg<;>simp only[hg,ar,ak,aD,aB,az,aq,aj,am]at hK<;>go_simp<;>exact hK) ?_;refine Sb M [] 1 (Sz ?_);generalize ((atomK x.kind)&&(((x.items.length:Nat):Int)==(1:Int)))=sg;refine ae (Sq (Sb M [] 3 ?_));refine So ((bif sg then undef else .pointer (some ⟨J1.b,0,none⟩))) (λK Z hK=>by rcases ac (sg) with hg|hg<;>simp only[hg,ar,ak,aD,aB,az,aq,aj,am]at hK<;>go_simp<;>exact hK) ?_;refine So ((bif sg then undef else .int .i64 v.kind)) (λK Z hK=>by have hc:=(M.bl 4 rfl).cells;simp only[ju,Nat.reduceAdd]at hc;(repeat (obtain⟨c,hc⟩:=hc));rcases ac (sg) with hg|hg<;>simp only[hg,ar,ak,aD,aB,az,aq,aj,am]at hK<;>go_simp<;>exact hK) ?_;refine So ((bif sg then undef else .bool false)) (λK Z hK=>by rcases ac (sg) with hg|hg<;>simp only[hg,ar,ak,aD,aB,az,aq,aj,am]at hK<;>go_simp<;>exact hK) ?_;refine So (.bool false) (λK Z hK=>by rcases ac (sg) with hg|hg<;>simp only[hg,ar,ak,aD,aB,az,aq,aj,am]at hK<;>go_simp<;>exact hK) ?_;refine Sb M [] 5 (Sz ?_);refine gk (ae ?_);refine Ra M [4] ?_;refine gk (ae ?_);refine Ra M [4] ?_;refine gk (ae ?_);refine Ra M [2] ?_;refine ct (Sq ?_);refine Sb M [4] 2 ?_;refine Sc (tI (HL.out gp _ _ (M.arg gF) ((M.pull 0 rfl).intAt (k:=0) rfl).2 ((M.pull 0 rfl).intAt (k:=0) rfl).1) M λJ8 wv M=>Sp ?_);refine Ss M 2 (λwv M=>?_);refine Sb M [] 1 (Sz (aO (fI ?_)));refine kN results112 M 2 ?_;exact(M.sel [0] dQ).retTwo
theorem ze (v x rv:Vec) (rs nm:Str) (cv cx:List Value) (w:World) (gF:rep w w.heap.size v.toD cv) (fE:rep w w.heap.size x.toD cx) (jI:isVec v=true) (jJ:isVec x=true) (gf:bigV v) (jH:bigV x) (WC:1<=nm.length) (vo:nm.length<=60) (h4:v.kind=4)
 (TO:∀(cv cs cx:List Value) (W:World),rep W W.heap.size v.toD cv->rep W W.heap.size (iA [nm]).toD cs->rep W W.heap.size x.toD cx->Calls prog 112 #[av cv,av cs,av cx] W (eH rv.toD 38 (sv rs) W)):
 Calls prog 45 #[av cv,sv nm,av cx] w (eH rv.toD 38 (sv rs) w):=by
 have HE:=aa TO;have tx:=aa jI;have qM:=aa jJ;have lJ:=aa gf;have qo:=aa jH;have AS:=aa vo;obtain⟨Ai,ci,Ap,cp,An,cn,Ac,cc,Al,cl,rfl,wk,ri,rp,rn,rc,rl,wc,we⟩:=d_ gF;obtain⟨w_,xd,yQ,yU,yP,yT,yN,yR,yO,yS,rfl,CR,CK,CN,CM,CH,CL,AC,CQ⟩:=d_ fE;have q1:(v.kind==4)=true:=fO;have q2:(v.kind==0)=false:=fO;have q1b:(v.kind != 4)=false:=fO;have q2b:(v.kind != 0)=true:=fO;have q3:decide ((nm.length:Int)<1)=false:=dS;have q4:decide ((60:Int)<(nm.length:Int))=false:=dS;have q5:nm.length<=maxLen:=eb;clear TO jI jJ gf jH vo h4;have M:Mem prog w [] w []:=Mem.start;go_enter func45,ntmps45;refine Sq (Sa M (λJ1 wv M=>?_));refine Sa M (λJ2 wv M=>?_);refine Sa M (λJ3 wv M=>?_);refine Sb M [] 1 (Sz (ae (Sq ?_)));refine Sb M [2] 1 ?_;refine Sc (aF (ff v _ _ (M.arg gF) lJ.out) ?_);rintro e w' ⟨rfl,hb⟩;rw[tx.out];replace M:=M.next hb;refine Sp ?_;refine Sb M [1] 3 ?_;refine Sc (aF (ff x _ _ (M.arg fE) qo.out) ?_);rintro e w' ⟨rfl,hb⟩;rw[qM.out];replace M:=M.next hb;refine Sp ?_;refine Sb M [] 2 (Sz ?_);refine gk (ae ?_);refine Ra M [2] ?_;refine gk (ae (Sq ?_));refine Sb M [] 1 ?_;refine So (.int .i64 (nm.length:Nat)) (λK Z hK=>by go_simp;exact hK) ?_
 refine Sb M [] 3 ?_;refine So (.int .i64 (nm.length:Nat)) (λK Z hK=>by go_simp;exact hK) ?_
 refine Sb M [] 2 (Sz ?_);refine gk (ae ?_);refine Ra M [2] ?_;refine gk ?_;refine mL M [some 8,none,none] [.la 2,.v (.c (sv nm)),.v (.e 2 (λqB=> .slice (some ⟨qB.b,0,none⟩) 1 1)),.v (.e 3 (λii=> .agg #[(ii.f 0),(ii.f 1),(ii.f 2),(ii.f 3),(ii.f 4),(ii.f 5),(ii.f 6),(ii.f 7)])),.la 1,.v (vT 5 rv.kind rv.items.length rv.parts.length rv.names.length rv.cls.length rv.levels.length rv.code rv.env (sv rs)),.x 0 0,.x 1 1,.u,.p 1] [.e 2 none (oB 2 9 [sv nm]),.e 3 none (.e 3 (λii=> .ow ((iA [nm]).toD) 38 [(ii.f 0),(ii.f 1),(ii.f 2),(ii.f 3),(ii.f 4),(ii.f 5),(ii.f 6),(ii.f 7)])),.e 5 none (oW 5 (rv.toD) 38 rv.kind rv.items.length rv.parts.length rv.names.length rv.cls.length rv.levels.length rv.code rv.env),.x 8 none 0 5 0] [[2],[],[],[3],[1],[4],[],[],[],[]] [] ?_ ?_
 ·show ∀i,i<10->_
  refine On (On (On (On ?_ eB) eB) (vJ [0] [6])) eB;refine On ?_ (tn [] [5] [4] (h:=λγ wv R K M hK=>by go_simp;go_at_call 112;exact AH (HE.out _ _ _ _ (M.arg gF) (M.rp 0 rfl) (M.arg fE)) M hK))
  refine On ?_ (lL [1]);refine On ?_ (tn [] [4] [3] (h:=λγ wv R K M hK=>GS));exact On (On (On Oz (lL [2])) eB) (kX [3])
 intro i7 wv M;replace M:Mem _ _ _ _ [_,_,.bk _ _ _,.ow _ _ _,.ow _ _ _,.bk _ _ [_,_,_,_,_,_,_,_]]:=M;refine aO (kN results45 M 5 ?_);exact(M.sel [4] dQ).retTwo
theorem zh (v x rv:Vec) (rs nm:Str) (cv cx:List Value) (w:World) (gF:rep w w.heap.size v.toD cv) (fE:rep w w.heap.size x.toD cx) (jI:isVec v=true) (jJ:isVec x=true) (gf:bigV v) (jH:bigV x) (WC:1<=nm.length) (vo:nm.length<=60) (h4:v.kind=0)
 (TO:∀(cv cs cx:List Value) (W:World),rep W W.heap.size Rt.toD cv->rep W W.heap.size (iA [nm]).toD cs->rep W W.heap.size x.toD cx->Calls prog 112 #[av cv,av cs,av cx] W (eH rv.toD 38 (sv rs) W)):
 Calls prog 45 #[av cv,sv nm,av cx] w (eH rv.toD 38 (sv rs) w):=by
 have HE:=aa TO;have tx:=aa jI;have qM:=aa jJ;have lJ:=aa gf;have qo:=aa jH;have AS:=aa vo;obtain⟨Ai,ci,Ap,cp,An,cn,Ac,cc,Al,cl,rfl,wk,ri,rp,rn,rc,rl,wc,we⟩:=d_ gF;obtain⟨w_,xd,yQ,yU,yP,yT,yN,yR,yO,yS,rfl,CR,CK,CN,CM,CH,CL,AC,CQ⟩:=d_ fE;have q1:(v.kind==4)=false:=fO;have q2:(v.kind==0)=true:=fO;have q1b:(v.kind != 4)=true:=fO;have q2b:(v.kind != 0)=false:=fO;have q3:decide ((nm.length:Int)<1)=false:=dS;have q4:decide ((60:Int)<(nm.length:Int))=false:=dS;have q5:nm.length<=maxLen:=eb;clear TO jI jJ gf jH vo h4;have M:Mem prog w [] w []:=Mem.start;go_enter func45,ntmps45;refine Sq (Sa M (λJ1 wv M=>?_));refine Sa M (λJ2 wv M=>?_);refine Sa M (λJ3 wv M=>?_);refine Sb M [] 1 (Sz (ae (Sq ?_)));refine Sb M [2] 1 ?_;refine Sc (aF (ff v _ _ (M.arg gF) lJ.out) ?_);rintro e w' ⟨rfl,hb⟩;rw[tx.out];replace M:=M.next hb;refine Sp ?_;refine Sb M [1] 3 ?_;refine Sc (aF (ff x _ _ (M.arg fE) qo.out) ?_);rintro e w' ⟨rfl,hb⟩;rw[qM.out];replace M:=M.next hb;refine Sp ?_;refine Sb M [] 2 (Sz ?_);refine gk (ae ?_);refine Ra M [2] ?_;refine gk (ae (Sq ?_));refine Sb M [] 1 ?_;refine So (.int .i64 (nm.length:Nat)) (λK Z hK=>by go_simp;exact hK) ?_
 refine Sb M [] 3 ?_;refine So (.int .i64 (nm.length:Nat)) (λK Z hK=>by go_simp;exact hK) ?_
 refine Sb M [] 2 (Sz ?_);refine gk (ae ?_);refine Ra M [2] ?_;refine ct (Sg ?_);refine Sb M [] 1 ?_;refine Ss M 2 (λwv M=>Sy (dV ?_));refine mL M [some 8,none,none] [.la 2,.v (.c (sv nm)),.v (.e 2 (λqB=> .slice (some ⟨qB.b,0,none⟩) 1 1)),.v (.e 3 (λii=> .agg #[(ii.f 0),(ii.f 1),(ii.f 2),(ii.f 3),(ii.f 4),(ii.f 5),(ii.f 6),(ii.f 7)])),.la 1,.v (vT 5 rv.kind rv.items.length rv.parts.length rv.names.length rv.cls.length rv.levels.length rv.code rv.env (sv rs)),.x 0 0,.x 1 1,.u,.p 1] [.e 2 none (oB 2 9 [sv nm]),.e 3 none (.e 3 (λii=> .ow ((iA [nm]).toD) 38 [(ii.f 0),(ii.f 1),(ii.f 2),(ii.f 3),(ii.f 4),(ii.f 5),(ii.f 6),(ii.f 7)])),.e 5 none (oW 5 (rv.toD) 38 rv.kind rv.items.length rv.parts.length rv.names.length rv.cls.length rv.levels.length rv.code rv.env),.x 8 none 0 5 0] [[2],[],[],[3],[1],[4],[],[],[],[]] [] ?_ ?_
 ·show ∀i,i<10->_
  refine On (On (On (On ?_ eB) eB) (vJ [0] [6])) eB;refine On ?_ (tn [] [5] [4] (h:=λγ wv R K M hK=>by go_simp;go_at_call 112;exact AH (HE.out _ _ _ _ Kl (M.rp 0 rfl) (M.arg fE)) M hK))
  refine On ?_ (lL [1]);refine On ?_ (tn [] [4] [3] (h:=λγ wv R K M hK=>GS));exact On (On (On Oz (lL [2])) eB) (kX [3])
 intro i7 wv M;replace M:Mem _ _ _ _ [_,_,.bk _ _ _,.ow _ _ _,.ow _ _ _,.bk _ _ [_,_,_,_,_,_,_,_]]:=M;refine aO (kN results45 M 5 ?_);exact(M.sel [4] dQ).retTwo
theorem KE (v x:Vec) (nm:Str) (cv cx:List Value) (w:World) (gF:rep w w.heap.size v.toD cv) (fE:rep w w.heap.size x.toD cx) (jI:isVec v=true) (jJ:isVec x=true) (gf:bigV v) (jH:bigV x) (h4:¬v.kind=4) (h0:¬v.kind=0):
 Calls prog 45 #[av cv,sv nm,av cx] w (eH zeroV.toD 38 (sv [110,111,116,32,97,32,108,105,115,116]) w):=by
 have tx:=aa jI;have qM:=aa jJ;have lJ:=aa gf;have qo:=aa jH;obtain⟨Ai,ci,Ap,cp,An,cn,Ac,cc,Al,cl,rfl,wk,ri,rp,rn,rc,rl,wc,we⟩:=d_ gF;obtain⟨w_,xd,yQ,yU,yP,yT,yN,yR,yO,yS,rfl,CR,CK,CN,CM,CH,CL,AC,CQ⟩:=d_ fE;have q1:(v.kind==4)=false:=by simpa using h4
 have q2:(v.kind==0)=false:=by simpa using h0
 have q1b:(v.kind != 4)=true:=by simpa using h4
 have q2b:(v.kind != 0)=true:=by simpa using h0
 clear jI jJ gf jH h4 h0;have M:Mem prog w [] w []:=Mem.start;go_enter func45,ntmps45;refine Sq (Sa M (λJ1 wv M=>?_));refine Sa M (λJ2 wv M=>?_);refine Sa M (λJ3 wv M=>?_);refine Sb M [] 1 (Sz (ae (Sq ?_)));refine Sb M [2] 1 ?_;refine Sc (aF (ff v _ _ (M.arg gF) lJ.out) ?_);rintro e w' ⟨rfl,hb⟩;rw[tx.out];replace M:=M.next hb;refine Sp ?_;refine Sb M [1] 3 ?_;refine Sc (aF (ff x _ _ (M.arg fE) qo.out) ?_);rintro e w' ⟨rfl,hb⟩;rw[qM.out];replace M:=M.next hb;refine Sp ?_;refine Sb M [] 2 (Sz ?_);refine gk (ae ?_);refine Ra M [2] ?_;refine ct (Sq ?_);refine Sb M [] 1 ?_;refine Ss M 0 (λwv M=>?_);refine Sb M [] 1 (Sz (aO (fI ?_)));refine kN results45 M 0 ?_;exact(M.zeroVec).retTwo
theorem N5 (its:List Vec) (ns cls:List Str) (x rv:Vec) (nm:Str) (q:Nat) (hq:q<=40) (cv cs cx:List Value) (w:World) (gF:rep w w.heap.size (Vec.toD ⟨4,([]:List Item),its,ns,cls,([]:List Str),0,0⟩) cv) (mP:rep w w.heap.size (iA [nm]).toD cs) (fE:rep w w.heap.size x.toD cx) (jI:isVec ⟨4,([]:List Item),its,ns,cls,([]:List Str),0,0⟩=true) (gf:bigV ⟨4,([]:List Item),its,ns,cls,([]:List Str),0,0⟩) (jJ:isVec x=true) (jH:bigV x) (hil:its.length<=40) (hx0:x.kind=0) (X_:x.items.length+x.parts.length<=40)
 (xR:∀(A:Option Addr) (c:Nat) (W:World),rep W W.heap.size (iA [nm]).toD cs->rep W W.heap.size (.sl (ns.map .s)) [.slice A ns.length c]->Calls prog 117 #[.int .i64 (its.length:Nat),.slice A ns.length c,av cs] W (jq [((q+1:Nat):Int)] [] W))
 (HD':∀(pb pc:Nat) (W:World),rep W W.heap.size (Vec.toD ⟨4,([]:List Item),its,ns,cls,([]:List Str),0,0⟩) cv->pb<W.heap.size->W.cell? ⟨pb,0,none⟩=some (.int .i64 ((q+1:Nat):Int))->Calls prog 119 #[av cv,.slice (some ⟨pb,0,none⟩) 1 pc] W (gM rv.toD 38 W)):
 Calls prog 52 #[av cv,av cs,av cx] w (eH rv.toD 38 (sv []) w):=by
 have HD:=aa HD';have tx:=aa jI;have lJ:=aa gf;have qM:=aa jJ;have qo:=aa jH;obtain⟨sb,so,c1,A2,c2,A3,c3,A4,c4,A5,c5,rfl,tV,e0,e1,e2⟩:=jX mP;obtain⟨Ai,ci,Ap,cp,An,cn,Ac,cc,Al,cl,rfl,wk,ri,rp,rn,rc,rl,wc,we⟩:=d_ gF;obtain⟨w_,xd,yQ,yU,yP,yT,yN,yR,yO,yS,rfl,CR,CK,CN,CM,CH,CL,AC,CQ⟩:=d_ fE;simp only[bf]at gF;have Zb:=aa (λW h h2=>xR An cn W h h2);have kQ:=aa (show lenV ⟨4,([]:List Item),its,ns,cls,([]:List Str),0,0⟩=its.length by simp [lenV]);have q0:((q:Int)+1==0)=false:=dS;have q1:(0:Int)<(q:Int)+1:=dP;have q2:(x.kind==0)=true:=by simp [hx0]
 clear xR HD' jI gf jJ jH hx0 e0 e1 e2;have M:Mem prog w [] w []:=Mem.start;go_enter func52,ntmps52;refine Sq (Sa M (λJ1 wv M=>?_));refine Sa M (λJ2 wv M=>?_);refine Sa M (λJ3 wv M=>?_);refine Sa M (λJ4 wv M=>?_);refine Sb M [] 1 (Sz (ae (Sq ?_)));refine Sb M [3] 1 ?_;refine Sc (aF (ew _ _ _ (M.arg gF) lJ.out) ?_);rintro e w' ⟨rfl,hb⟩;rw[tx.out];replace M:=M.next hb;refine Sp ?_;refine Sb M [1] 3 ?_;refine Sc (aF (ew _ _ _ (M.arg fE) qo.out) ?_);rintro e w' ⟨rfl,hb⟩;rw[qM.out];replace M:=M.next hb;refine Sp ?_;refine Sb M [] 2 (Sz ?_);refine gk (ae ?_);refine Ra M [3] ?_;refine gk ?_;refine mL (M.sel [2,3,0,1] dQ) [none,none] [.la 1,.i (its.length:Nat),.o (J1.b) 3,.x 2 3,.la 0,.v (.e 5 (λxh=> .tuple #[.slice xh.a 1 xh.c,sv []])),.p 0,.x 0 0,.x 1 1,.p 1,.p 1] [.e 5 none (oS 5 (.sl ([((q+1:Nat):Int)].map (D.i .i64))) 26 1)] [[1],[],[],[1],[0],[],[],[],[],[],[]] [] ?_ ?_
 ·exact rF
 intro i7 wv M;replace M:Mem _ _ _ _ [_,_,.ow _ _ _,_,_]:=M;obtain⟨gp,xw⟩:=(M.pull 2 rfl).some0 underlying26 (bZ);rw[xw]at M ⊢;clear xw;refine ae (Ra M [] ?_);refine gk ?_;refine Ra M [] (ae ?_);refine Ra M [] (aJ ?_);refine aZ 2 ?_;refine ez (ae (Ra M [] ?_));refine Hx (ae (aJ (ae (Sq ?_))));refine Sb M [] 3 ?_;replace M:=M.up [2];refine So (.int .i64 (q+1:Nat)) (λK Z hK=>i9) ?_;refine Sb M [] 1 (Sz ?_);refine gk (Sg ?_);refine Sb M [] 4 ?_;refine So (.int .i64 (q+1:Nat)) (λK Z hK=>i9) ?_;refine Sb M [] 2 (Sy (fA (dV ?_)));refine Rb M [] (dV (ez (ae ?_)));refine Ra M [] ?_;refine cf (bo (es (es (fT (dV (Sq ?_))))));refine Sb M [4] 1 ?_;refine Sc (f_ (lI x _ _ (M.arg fE) dP) M λJ7 wv M=>Sp ?_);refine Sb M [] 1 (Sz (ae (aJ ?_)));refine Ra M [2,4] ?_;refine ct (Sq ?_);refine Sb M [2] 2 ?_;refine Sc (tI (HD.out gp _ _ (M.arg gF) ((M.pull 0 rfl).intAt (k:=0) rfl).2 ((M.pull 0 rfl).intAt (k:=0) rfl).1) M λJ8 wv M=>Sp ?_);refine Ss M 4 (λwv M=>?_);refine Sb M [] 1 (Sz (aO (xt (fI ?_))));refine kN results52 M 4 ?_;exact(M.sel [0] dQ).retTwo
theorem Af (its:List Vec) (ns cls:List Str) (x rv:Vec) (rs nm:Str) (q:Nat) (hq:q<=40) (cv cs cx:List Value) (w:World) (gF:rep w w.heap.size (Vec.toD ⟨4,([]:List Item),its,ns,cls,([]:List Str),0,0⟩) cv) (mP:rep w w.heap.size (iA [nm]).toD cs) (fE:rep w w.heap.size x.toD cx) (jI:isVec ⟨4,([]:List Item),its,ns,cls,([]:List Str),0,0⟩=true) (gf:bigV ⟨4,([]:List Item),its,ns,cls,([]:List Str),0,0⟩) (jJ:isVec x=true) (jH:bigV x) (hil:its.length<=40) (hx0:¬x.kind=0)
 (xR:∀(A:Option Addr) (c:Nat) (W:World),rep W W.heap.size (iA [nm]).toD cs->rep W W.heap.size (.sl (ns.map .s)) [.slice A ns.length c]->Calls prog 117 #[.int .i64 (its.length:Nat),.slice A ns.length c,av cs] W (jq [((q+1:Nat):Int)] [] W))
 (bx:Bool) (Zv:isVec ⟨4,[],[x],[],[],[],0,0⟩=bx) (adB:bigV ⟨4,[],[x],[],[],[],0,0⟩) (aep:okD 3 x=true) (aer:szD x.toD<=500000000000)
 (Zc:bx=true->∀(cz:List Value) (W:World),rep W W.heap.size (Vec.toD ⟨4,([]:List Item),its,ns,cls,([]:List Str),0,0⟩) cv->rep W W.heap.size (iA [nm]).toD cs->rep W W.heap.size (Vec.toD ⟨4,[],[x],[],[],[],0,0⟩) cz->Calls prog 52 #[av cv,av cs,av cz] W (eH rv.toD 38 (sv rs) W)):
 Calls prog 128 #[av cv,av cs,av cx] w (eH (bif bx then rv else zeroV).toD 38 (sv (bif bx then rs else E_)) w):=by
 have HS:=aa Zc;have ag8:=aa Zv;have hbb:=aa adB;have UM:=aa aep;have hxs:=aa aer;clear Zv adB aep aer;have tx:=aa jI;have lJ:=aa gf;have qM:=aa jJ;have qo:=aa jH;obtain⟨sb,so,c1,A2,c2,A3,c3,A4,c4,A5,c5,rfl,tV,e0,e1,e2⟩:=jX mP;obtain⟨Ai,ci,Ap,cp,An,cn,Ac,cc,Al,cl,rfl,wk,ri,rp,rn,rc,rl,wc,we⟩:=d_ gF;obtain⟨w_,xd,yQ,yU,yP,yT,yN,yR,yO,yS,rfl,CR,CK,CN,CM,CH,CL,AC,CQ⟩:=d_ fE;simp only[bf]at gF;have Zb:=aa (λW h h2=>xR An cn W h h2);have kQ:=aa (show lenV ⟨4,([]:List Item),its,ns,cls,([]:List Str),0,0⟩=its.length by simp [lenV]);have q0:((q:Int)+1==0)=false:=dS;have q2:(x.kind==0)=false:=ou;have q2b:(x.kind != 0)=true:=ou;clear xR Zc jI gf jJ jH hx0 e0 e1 e2;have M:Mem prog w [] w []:=Mem.start;go_enter func128,ntmps128;refine Sq (Sa M (λJ1 wv M=>?_));refine Sa M (λJ2 wv M=>?_);refine Sa M (λJ3 wv M=>?_);refine Sa M (λJ4 wv M=>?_);refine Sb M [] 1 (Sz (ae (Sq ?_)));refine Sb M [3] 1 ?_;refine Sc (aF (ew _ _ _ (M.arg gF) lJ.out) ?_);rintro e w' ⟨rfl,hb⟩;rw[tx.out];replace M:=M.next hb;refine Sp ?_;refine Sb M [1] 3 ?_;refine Sc (aF (ew _ _ _ (M.arg fE) qo.out) ?_);rintro e w' ⟨rfl,hb⟩;rw[qM.out];replace M:=M.next hb;refine Sp ?_;refine Sb M [] 2 (Sz ?_);refine gk (ae ?_);refine Ra M [3] ?_;refine gk ?_;refine mL (M.sel [2,3,0,1] dQ) [none,none] [.la 1,.i (its.length:Nat),.o (J1.b) 3,.x 2 3,.la 0,.v (.e 5 (λxh=> .tuple #[.slice xh.a 1 xh.c,sv []])),.p 0,.x 0 0,.x 1 1,.p 1,.p 1] [.e 5 none (oS 5 (.sl ([((q+1:Nat):Int)].map (D.i .i64))) 26 1)] [[1],[],[],[1],[0],[],[],[],[],[],[]] [] ?_ ?_
 ·exact rF
 intro i7 wv M;replace M:Mem _ _ _ _ [_,_,.ow _ _ _,_,_]:=M;obtain⟨gp,xw⟩:=(M.pull 2 rfl).some0 underlying26 (bZ);rw[xw]at M ⊢;clear xw;refine ae (Ra M [] ?_);refine gk (ae (Sq ?_));refine Sb M [0] 1 ?_;refine Sc (f_ (t8 3 dQ _ 1 _ _ 0 _ _ _ _ _ _ _ _ _ _ 0 0 dP _) M λJ7 wv M=>Sp ?_);refine Sb M [] 9 ?_;replace M:=M.up [2];refine So (.int .i64 (q+1:Nat)) (λK Z hK=>i9) ?_;refine Sb M [] 2 (Sz ?_);refine gk (Sq ?_);refine Sb M [4] 9 ?_;refine So ((bif (decide ((x.kind:Int)<(4:Int))) then .pointer (some ⟨J3.b,1,none⟩) else undef)) (λK Z hK=>by rcases ac ((decide ((x.kind:Int)<(4:Int)))) with hg|hg<;>simp only[hg,ar,ak,aD,aB,az,aq,aj,am]at hK<;>go_simp<;>exact hK) ?_;refine So ((bif (decide ((x.kind:Int)<(4:Int))) then .slice w_ x.items.length xd else undef)) (λK Z hK=>by have hc:=(M.bl 4 rfl).cells;simp only[ju,Nat.reduceAdd]at hc;(repeat (obtain⟨c,hc⟩:=hc));rcases ac ((decide ((x.kind:Int)<(4:Int)))) with hg|hg<;>simp only[hg,ar,ak,aD,aB,az,aq,aj,am]at hK<;>go_simp<;>exact hK) ?_;refine So ((bif (decide ((x.kind:Int)<(4:Int))) then .int .i64 (x.items.length:Nat) else undef)) (λK Z hK=>by rcases ac ((decide ((x.kind:Int)<(4:Int)))) with hg|hg<;>simp only[hg,ar,ak,aD,aB,az,aq,aj,am]at hK<;>go_simp<;>exact hK) ?_;refine So ((bif (decide ((x.kind:Int)<(4:Int))) then .bool (((x.items.length:Nat):Int)==(1:Int)) else undef)) (λK Z hK=>by rcases ac ((decide ((x.kind:Int)<(4:Int)))) with hg|hg<;>simp only[hg,ar,ak,aD,aB,az,aq,aj,am]at hK<;>go_simp<;>exact hK) ?_;refine So (.bool ((decide ((x.kind:Int)<(4:Int)))&&(((x.items.length:Nat):Int)==(1:Int)))) (λK Z hK=>by rcases ac ((decide ((x.kind:Int)<(4:Int)))) with hg|hg<;>simp only[hg,ar,ak,aD,aB,az,aq,aj,am]at hK<;>go_simp<;>exact hK) ?_;refine Sb M [] 1 (Sz ?_);generalize ((decide ((x.kind:Int)<(4:Int)))&&(((x.items.length:Nat):Int)==(1:Int)))=sg;refine ae (Ra M [2] ?_);refine gk (ae ?_);refine Ra M [2] ?_;refine gk (ae ?_);refine Ra M [2,4] ?_;refine ct (Sq ?_);refine Sb M [4] 1 ?_;refine Sc (tI (nT x _ _ UM.out hxs.out (M.arg fE)) M λJ8 wv M=>Sp ?_);refine Sa M (λJ9 wv M=>?_);refine Sb M [] 1 ?_;refine Ss M 6 (λwv M=>Sz (Sq ?_));refine Sb M [6] 1 ?_;replace M:=M.up [1];refine Sc (aF (ew _ _ _ (LB (M.bl 1 rfl) (M.rp 0 rfl)) hbb.out) ?_);rintro e w' ⟨rfl,hb⟩;rw[ag8.out];replace M:=M.next hb;refine Sp ?_;refine Sb M [] 1 (Sz ?_);refine lW (λXF=>?_) (λXF=>?_)
 ·rw[XF];replace XF:=aa XF;have hbf:=aa (show bx=false by have z:=XF.out;simpa using z);refine Sq (Sb M [] 1 ?_);refine Ss M 5 (λwv M=>?_);refine Sb M [] 1 (Sz (aO (fI ?_)));refine kN results128 M 5 ?_;rw[hbf.out];exact(M.zeroVec).retTwo
 ·rw[XF];replace XF:=aa XF;have hbt:=aa (show bx=true by have z:=XF.out;simpa using z);refine bd (dV (Sq (Sb M [3,4,6] 3 ?_)));refine Sc (AH (HS.out hbt.out _ _ (M.arg gF) (M.arg mP) (LB (M.bl 1 rfl) (M.rp 0 rfl))) M λL5 wv M=>Sp ?_);refine Sb M [] 3 ?_;refine Sa M (λZd wv M=>?_);refine Ss M 0 (λwv M=>?_);refine Sb M [] 1 (Sz (Sq ?_));refine Sb M [0] 2 ?_;refine Ss M 7 (λwv M=>?_);refine Sb M [] 1 (Sz (aO ?_));refine kN results128 M 7 ?_;rw[hbt.out];exact(M.sel [1] dQ).retTwo
theorem LG (its:List Vec) (ns cls:List Str) (x rv:Vec) (rs nm:Str) (q:Nat) (hq:q<=40) (cv cs cx:List Value) (w:World) (gF:rep w w.heap.size (Vec.toD ⟨4,([]:List Item),its,ns,cls,([]:List Str),0,0⟩) cv) (mP:rep w w.heap.size (iA [nm]).toD cs) (fE:rep w w.heap.size x.toD cx) (jI:isVec ⟨4,([]:List Item),its,ns,cls,([]:List Str),0,0⟩=true) (gf:bigV ⟨4,([]:List Item),its,ns,cls,([]:List Str),0,0⟩) (jJ:isVec x=true) (jH:bigV x) (hil:its.length<=40) (hx0:x.kind=0)
 (xR:∀(A:Option Addr) (c:Nat) (W:World),rep W W.heap.size (iA [nm]).toD cs->rep W W.heap.size (.sl (ns.map .s)) [.slice A ns.length c]->Calls prog 117 #[.int .i64 (its.length:Nat),.slice A ns.length c,av cs] W (jq [((q+1:Nat):Int)] [] W))
 (Zc:∀W:World,rep W W.heap.size (Vec.toD ⟨4,([]:List Item),its,ns,cls,([]:List Str),0,0⟩) cv->rep W W.heap.size (iA [nm]).toD cs->rep W W.heap.size x.toD cx->Calls prog 52 #[av cv,av cs,av cx] W (eH rv.toD 38 (sv rs) W)):
 Calls prog 128 #[av cv,av cs,av cx] w (eH rv.toD 38 (sv rs) w):=by
 have HS:=aa Zc;have tx:=aa jI;have lJ:=aa gf;have qM:=aa jJ;have qo:=aa jH;obtain⟨sb,so,c1,A2,c2,A3,c3,A4,c4,A5,c5,rfl,tV,e0,e1,e2⟩:=jX mP;obtain⟨Ai,ci,Ap,cp,An,cn,Ac,cc,Al,cl,rfl,wk,ri,rp,rn,rc,rl,wc,we⟩:=d_ gF;obtain⟨w_,xd,yQ,yU,yP,yT,yN,yR,yO,yS,rfl,CR,CK,CN,CM,CH,CL,AC,CQ⟩:=d_ fE;simp only[bf]at gF;have Zb:=aa (λW h h2=>xR An cn W h h2);have kQ:=aa (show lenV ⟨4,([]:List Item),its,ns,cls,([]:List Str),0,0⟩=its.length by simp [lenV]);have q0:((q:Int)+1==0)=false:=dS;have q2:(x.kind==0)=true:=ou;have q2b:(x.kind != 0)=false:=ou;clear xR Zc jI gf jJ jH hx0 e0 e1 e2;have M:Mem prog w [] w []:=Mem.start;go_enter func128,ntmps128;refine Sq (Sa M (λJ1 wv M=>?_));refine Sa M (λJ2 wv M=>?_);refine Sa M (λJ3 wv M=>?_);refine Sa M (λJ4 wv M=>?_);refine Sb M [] 1 (Sz (ae (Sq ?_)));refine Sb M [3] 1 ?_;refine Sc (aF (ew _ _ _ (M.arg gF) lJ.out) ?_);rintro e w' ⟨rfl,hb⟩;rw[tx.out];replace M:=M.next hb;refine Sp ?_;refine Sb M [1] 3 ?_;refine Sc (aF (ew _ _ _ (M.arg fE) qo.out) ?_);rintro e w' ⟨rfl,hb⟩;rw[qM.out];replace M:=M.next hb;refine Sp ?_;refine Sb M [] 2 (Sz ?_);refine gk (ae ?_);refine Ra M [3] ?_;refine gk ?_;refine mL (M.sel [2,3,0,1] dQ) [none,none] [.la 1,.i (its.length:Nat),.o (J1.b) 3,.x 2 3,.la 0,.v (.e 5 (λxh=> .tuple #[.slice xh.a 1 xh.c,sv []])),.p 0,.x 0 0,.x 1 1,.p 1,.p 1] [.e 5 none (oS 5 (.sl ([((q+1:Nat):Int)].map (D.i .i64))) 26 1)] [[1],[],[],[1],[0],[],[],[],[],[],[]] [] ?_ ?_
 ·exact rF
 intro i7 wv M;replace M:Mem _ _ _ _ [_,_,.ow _ _ _,_,_]:=M;obtain⟨gp,xw⟩:=(M.pull 2 rfl).some0 underlying26 (bZ);rw[xw]at M ⊢;clear xw;refine ae (Ra M [] ?_);refine gk (ae (Sq ?_));refine Sb M [0] 1 ?_;refine Sc (f_ (t8 3 dQ _ 1 _ _ 0 _ _ _ _ _ _ _ _ _ _ 0 0 dP _) M λJ7 wv M=>Sp ?_);refine Sb M [] 9 ?_;replace M:=M.up [2];refine So (.int .i64 (q+1:Nat)) (λK Z hK=>i9) ?_;refine Sb M [] 2 (Sz ?_);refine gk ?_;refine Ra M [4] (ae ?_);refine Ra M [2] ?_;refine gk (ae ?_);refine Ra M [2] ?_;refine gk (ae ?_);refine Ra M [2,4] ?_;refine gk (Sq ?_);refine Sb M [1,2,4] 3 ?_;refine Sc (AH (HS.out _ (M.arg gF) (M.arg mP) (M.arg fE)) M λJ8 wv M=>Sp ?_);refine Sb M [] 3 ?_;refine Sa M (λJ9 wv M=>?_);refine Ss M 0 (λwv M=>?_);refine Sb M [] 1 (Sz (Sq ?_));refine Sb M [0] 2 ?_;refine Ss M 5 (λwv M=>?_);refine Sb M [] 1 (Sz (aO ?_));refine kN results128 M 5 ?_;exact(M.sel [1] dQ).retTwo
theorem EY (v x rv:Vec) (rs nm:Str) (cv cx:List Value) (w:World) (gF:rep w w.heap.size v.toD cv) (fE:rep w w.heap.size x.toD cx) (jI:isVec v=true) (jJ:isVec x=true) (gf:bigV v) (jH:bigV x) (WC:1<=nm.length) (vo:nm.length<=60) (h4:v.kind=4)
 (TO:∀(cv cs cx:List Value) (W:World),rep W W.heap.size v.toD cv->rep W W.heap.size (iA [nm]).toD cs->rep W W.heap.size x.toD cx->Calls prog 128 #[av cv,av cs,av cx] W (eH rv.toD 38 (sv rs) W)):
 Calls prog 57 #[av cv,sv nm,av cx] w (eH rv.toD 38 (sv rs) w):=by
 have HE:=aa TO;have tx:=aa jI;have lJ:=aa gf;have qM:=aa jJ;have qo:=aa jH;have AS:=aa vo;obtain⟨Ai,ci,Ap,cp,An,cn,Ac,cc,Al,cl,rfl,wk,ri,rp,rn,rc,rl,wc,we⟩:=d_ gF;obtain⟨w_,xd,yQ,yU,yP,yT,yN,yR,yO,yS,rfl,CR,CK,CN,CM,CH,CL,AC,CQ⟩:=d_ fE;have q1:(v.kind==4)=true:=fO;have q2:(v.kind==0)=false:=fO;have q1b:(v.kind != 4)=false:=fO;have q2b:(v.kind != 0)=true:=fO;have Mm:=aa (show decide ((1:Int)<=(nm.length:Int)/\(nm.length:Int)<=60)=true by simp;omega);have q5:nm.length<=maxLen:=eb;clear TO jI jJ gf jH vo h4;have M:Mem prog w [] w []:=Mem.start;go_enter func57,ntmps57;refine Sq (Sa M (λJ1 wv M=>?_));refine Sa M (λJ2 wv M=>?_);refine Sa M (λJ3 wv M=>?_);refine Sb M [] 1 (Sz (ae (Sq ?_)));refine Sb M [2] 1 ?_;refine Sc (aF (ew _ _ _ (M.arg gF) lJ.out) ?_);rintro e w' ⟨rfl,hb⟩;rw[tx.out];replace M:=M.next hb;refine Sp ?_;refine Sb M [1] 3 ?_;refine Sc (aF (ew _ _ _ (M.arg fE) qo.out) ?_);rintro e w' ⟨rfl,hb⟩;rw[qM.out];replace M:=M.next hb;refine Sp ?_;refine Sb M [] 2 (Sz ?_);refine gk (ae ?_);refine Ra M [2] ?_;refine gk (ae (Sq ?_));refine Sb M [] 1 ?_;refine So (.int .i64 (nm.length:Nat)) (λK Z hK=>by go_simp;exact hK) ?_
 refine Sc (aF (gj (nm.length:Int) 1 60 _) ?_);rintro e w' ⟨rfl,rfl⟩;rw[Mm.out];refine Sp ?_;refine Sb M [] 1 (Sz ?_);refine gk (ae ?_);refine Ra M [2] ?_;refine gk ?_;refine mL (M.sel [1,2,0] dQ) [none,none] [.la 1,.v (.c (sv nm)),.v (.e 2 (λqB=> .slice (some ⟨qB.b,0,none⟩) 1 1)),.v (.e 3 (λii=> .agg #[(ii.f 0),(ii.f 1),(ii.f 2),(ii.f 3),(ii.f 4),(ii.f 5),(ii.f 6),(ii.f 7)])),.la 0,.v (vT 5 rv.kind rv.items.length rv.parts.length rv.names.length rv.cls.length rv.levels.length rv.code rv.env (sv rs)),.p 0,.x 0 0,.x 1 1,.q 9 0,.u,.p 2] [.e 2 none (oB 2 9 [sv nm]),.e 3 none (.e 3 (λii=> .ow ((iA [nm]).toD) 38 [(ii.f 0),(ii.f 1),(ii.f 2),(ii.f 3),(ii.f 4),(ii.f 5),(ii.f 6),(ii.f 7)])),.e 5 none (oW 5 (rv.toD) 38 rv.kind rv.items.length rv.parts.length rv.names.length rv.cls.length rv.levels.length rv.code rv.env),.e 9 (some 10) (oB 9 38 z8),.x 10 none 5 5 0] [[1],[],[],[2],[0],[3],[],[],[],[],[],[]] [] ?_ ?_
 ·show ∀i,i<12->_
  refine On (On (On (On (On (On ?_ eB) eB) eB) (kX [5])) (vJ [5] [6])) eB;refine On ?_ (tn [] [4] [3] (h:=λγ wv R K M hK=>by go_simp;go_at_call 128;exact AH (HE.out _ _ _ _ (M.arg gF) (M.rp 0 rfl) (M.arg fE)) M hK))
  refine On ?_ (lL [0]);refine On ?_ (tn [] [3] [2] (h:=λγ wv R K M hK=>GX));exact On (On (On Oz (lL [1])) eB) (kX [2])
 intro i7 wv M;replace M:Mem _ _ _ _ [_,_,.bk _ _ _,.ow _ _ _,.ow _ _ _,.bk _ _ [_,_,_,_,_,_,_,_],_]:=M;refine Sq (Sb M [5] 2 ?_);refine Ss M 6 (λwv M=>?_);refine Sb M [] 1 (Sz (aO ?_));refine kN results57 M 6 ?_;exact(M.sel [4] dQ).retTwo
theorem EZ (v x rv:Vec) (rs nm:Str) (cv cx:List Value) (w:World) (gF:rep w w.heap.size v.toD cv) (fE:rep w w.heap.size x.toD cx) (jI:isVec v=true) (jJ:isVec x=true) (gf:bigV v) (jH:bigV x) (WC:1<=nm.length) (vo:nm.length<=60) (h4:v.kind=0)
 (TO:∀(cv cs cx:List Value) (W:World),rep W W.heap.size Rt.toD cv->rep W W.heap.size (iA [nm]).toD cs->rep W W.heap.size x.toD cx->Calls prog 128 #[av cv,av cs,av cx] W (eH rv.toD 38 (sv rs) W)):
 Calls prog 57 #[av cv,sv nm,av cx] w (eH rv.toD 38 (sv rs) w):=by
 have HE:=aa TO;have tx:=aa jI;have lJ:=aa gf;have qM:=aa jJ;have qo:=aa jH;have AS:=aa vo;obtain⟨Ai,ci,Ap,cp,An,cn,Ac,cc,Al,cl,rfl,wk,ri,rp,rn,rc,rl,wc,we⟩:=d_ gF;obtain⟨w_,xd,yQ,yU,yP,yT,yN,yR,yO,yS,rfl,CR,CK,CN,CM,CH,CL,AC,CQ⟩:=d_ fE;have q1:(v.kind==4)=false:=fO;have q2:(v.kind==0)=true:=fO;have q1b:(v.kind != 4)=true:=fO;have q2b:(v.kind != 0)=false:=fO;have Mm:=aa (show decide ((1:Int)<=(nm.length:Int)/\(nm.length:Int)<=60)=true by simp;omega);have q5:nm.length<=maxLen:=eb;clear TO jI jJ gf jH vo h4;have M:Mem prog w [] w []:=Mem.start;go_enter func57,ntmps57;refine Sq (Sa M (λJ1 wv M=>?_));refine Sa M (λJ2 wv M=>?_);refine Sa M (λJ3 wv M=>?_);refine Sb M [] 1 (Sz (ae (Sq ?_)));refine Sb M [2] 1 ?_;refine Sc (aF (ew _ _ _ (M.arg gF) lJ.out) ?_);rintro e w' ⟨rfl,hb⟩;rw[tx.out];replace M:=M.next hb;refine Sp ?_;refine Sb M [1] 3 ?_;refine Sc (aF (ew _ _ _ (M.arg fE) qo.out) ?_);rintro e w' ⟨rfl,hb⟩;rw[qM.out];replace M:=M.next hb;refine Sp ?_;refine Sb M [] 2 (Sz ?_);refine gk (ae ?_);refine Ra M [2] ?_;refine gk (ae (Sq ?_));refine Sb M [] 1 ?_;refine So (.int .i64 (nm.length:Nat)) (λK Z hK=>by go_simp;exact hK) ?_
 refine Sc (aF (gj (nm.length:Int) 1 60 _) ?_);rintro e w' ⟨rfl,rfl⟩;rw[Mm.out];refine Sp ?_;refine Sb M [] 1 (Sz ?_);refine gk (ae ?_);refine Ra M [2] ?_;refine ct (Sg ?_);refine Sb M [] 1 ?_;refine Ss M 2 (λwv M=>Sy (dV ?_));refine mL (M.sel [1,2,0] dQ) [none,none] [.la 1,.v (.c (sv nm)),.v (.e 2 (λqB=> .slice (some ⟨qB.b,0,none⟩) 1 1)),.v (.e 3 (λii=> .agg #[(ii.f 0),(ii.f 1),(ii.f 2),(ii.f 3),(ii.f 4),(ii.f 5),(ii.f 6),(ii.f 7)])),.la 0,.v (vT 5 rv.kind rv.items.length rv.parts.length rv.names.length rv.cls.length rv.levels.length rv.code rv.env (sv rs)),.p 0,.x 0 0,.x 1 1,.q 9 0,.u,.p 2] [.e 2 none (oB 2 9 [sv nm]),.e 3 none (.e 3 (λii=> .ow ((iA [nm]).toD) 38 [(ii.f 0),(ii.f 1),(ii.f 2),(ii.f 3),(ii.f 4),(ii.f 5),(ii.f 6),(ii.f 7)])),.e 5 none (oW 5 (rv.toD) 38 rv.kind rv.items.length rv.parts.length rv.names.length rv.cls.length rv.levels.length rv.code rv.env),.e 9 (some 10) (oB 9 38 z8),.x 10 none 5 5 0] [[1],[],[],[2],[0],[3],[],[],[],[],[],[]] [] ?_ ?_
 ·show ∀i,i<12->_
  refine On (On (On (On (On (On ?_ eB) eB) eB) (kX [5])) (vJ [5] [6])) eB;refine On ?_ (tn [] [4] [3] (h:=λγ wv R K M hK=>by go_simp;go_at_call 128;exact AH (HE.out _ _ _ _ Kl (M.rp 0 rfl) (M.arg fE)) M hK))
  refine On ?_ (lL [0]);refine On ?_ (tn [] [3] [2] (h:=λγ wv R K M hK=>GX));exact On (On (On Oz (lL [1])) eB) (kX [2])
 intro i7 wv M;replace M:Mem _ _ _ _ [_,_,.bk _ _ _,.ow _ _ _,.ow _ _ _,.bk _ _ [_,_,_,_,_,_,_,_],_]:=M;refine Sq (Sb M [5] 2 ?_);refine Ss M 6 (λwv M=>?_);refine Sb M [] 1 (Sz (aO ?_));refine kN results57 M 6 ?_;exact(M.sel [4] dQ).retTwo
theorem P9 (v x:Vec) (nm:Str) (cv cx:List Value) (w:World) (gF:rep w w.heap.size v.toD cv) (fE:rep w w.heap.size x.toD cx) (jI:isVec v=true) (jJ:isVec x=true) (gf:bigV v) (jH:bigV x) (h4:¬v.kind=4) (h0:¬v.kind=0):
 Calls prog 57 #[av cv,sv nm,av cx] w (eH zeroV.toD 38 (sv [110,111,116,32,97,32,108,105,115,116]) w):=by
 have tx:=aa jI;have lJ:=aa gf;have qM:=aa jJ;have qo:=aa jH;obtain⟨Ai,ci,Ap,cp,An,cn,Ac,cc,Al,cl,rfl,wk,ri,rp,rn,rc,rl,wc,we⟩:=d_ gF;obtain⟨w_,xd,yQ,yU,yP,yT,yN,yR,yO,yS,rfl,CR,CK,CN,CM,CH,CL,AC,CQ⟩:=d_ fE;have q1:(v.kind==4)=false:=by simpa using h4
 have q2:(v.kind==0)=false:=by simpa using h0
 have q1b:(v.kind != 4)=true:=by simpa using h4
 have q2b:(v.kind != 0)=true:=by simpa using h0
 clear jI jJ gf jH h4 h0;have M:Mem prog w [] w []:=Mem.start;go_enter func57,ntmps57;refine Sq (Sa M (λJ1 wv M=>?_));refine Sa M (λJ2 wv M=>?_);refine Sa M (λJ3 wv M=>?_);refine Sb M [] 1 (Sz (ae (Sq ?_)));refine Sb M [2] 1 ?_;refine Sc (aF (ew _ _ _ (M.arg gF) lJ.out) ?_);rintro e w' ⟨rfl,hb⟩;rw[tx.out];replace M:=M.next hb;refine Sp ?_;refine Sb M [1] 3 ?_;refine Sc (aF (ew _ _ _ (M.arg fE) qo.out) ?_);rintro e w' ⟨rfl,hb⟩;rw[qM.out];replace M:=M.next hb;refine Sp ?_;refine Sb M [] 2 (Sz ?_);refine gk (ae ?_);refine Ra M [2] ?_;refine ct (Sq ?_);refine Sb M [] 1 ?_;refine Ss M 0 (λwv M=>?_);refine Sb M [] 1 (Sz (aO (fI ?_)));refine kN results57 M 0 ?_;exact(M.zeroVec).retTwo
open Go.ChangeShapes Go.WideShapes Go.Deep Go.RowKit
theorem aeN:ownKnob prog.godebug=none:=dU
theorem Q1:laidOutB prog=true:=dU
section
variable {H:Type} {enc:TypeId × Value->H} {P:Program} {w:World} {base:Nat} {V0:Nat->Bool} {abd:Bool}
theorem O1 {w:World} {a:Addr} {u:Value} (h:w.cell? (a.add 0)=some u):∃b off,a=⟨b,off,none⟩/\b<w.heap.size:=by
 have h0:w.cell? a=some u:=by simpa [Addr.add]using h
 obtain⟨b,off,spot⟩:=a;have:=World.cell?_spot h0;simp at this;subst this;exact⟨b,off,rfl,World.block_lt_of_cell? w _ h0⟩
theorem Ja (b off n:Nat):(⟨b,off,none⟩:Addr).add n=⟨b,off+n,none⟩:=by unfold Addr.add;by_cases h:n=0<;>simp [h]
end
open Go.ChangeShapes Go.WideShapes Go.Deep Go.RowKit
mutual
def rK (P:Program):D->TypeId->Prop
 | .i k _,t=>P.underlying t=some (.int k)
 | .b _,t=>P.underlying t=some .bool
 | .s _,t=>P.underlying t=some .string
 | .st fs,t=>∃KW:Array Field,P.underlying t=some (.struct KW)/\Cj P fs (KW.toList.map Field.type)
 | .sl xs,t=>∃e,P.underlying t=some (.slice e)/\EU P xs e
def Cj (P:Program):List D->List TypeId->Prop
 |[],ts=>ts=[]
 |x::t,ts=>∃t1 t2,ts=t1::t2/\rK P x t1/\Cj P t t2
def EU (P:Program):List D->TypeId->Prop
 |[],_=>True
 |x::t,e=>rK P x e/\EU P t e
end
def Lj (P:Program) (S:List TypeId):List Field->Nat->Option Nat
 |[],off=>some off
 |f::t,off=>if f.offset==off&&S.contains f.type then Lj P S t (off+P.cellsOf f.type) else none
def Uk (P:Program) (S:List TypeId) (t:TypeId):Bool:=
 match P.underlying t with
 |some (.int _)=>true
 |some .bool=>true
 |some .string=>true
 |some (.slice e)=>S.contains e&&decide (1<=P.cellsOf e)
 |some (.struct fs)=>Lj P S fs.toList 0==some (P.cellsOf t)
 |_=>false
section
variable {H:Type} {enc:TypeId × Value->H} {P:Program} {w:World} {base:Nat} {V0:Nat->Bool} {abd:Bool}
theorem My {α:Type} {n:Nat} {p:Nat->α->Prop} (h:∀i,i<n->∃x,p i x):∃l:List α,l.length=n/\∀(i:Nat) x,l[i]?=some x->p i x:=by
 induction n with
 |zero=>exact⟨[],rfl,by simp⟩
 |succ n ih=>
  obtain⟨l,hl,hp⟩:=ih (λi hi=>h i dP);obtain⟨x,hx⟩:=h n dP;refine⟨l++[x],by simp [hl],λi y hy=>?_⟩;rcases Nat.lt_trichotomy i n with hi|hi|hi
  ·rw[cY dP]at hy;exact hp i y hy
  ·subst hi;rw[cV dP,hl]at hy;simp at hy;subst hy;exact hx
  ·rw[cV dP]at hy;have:i - l.length=(i - l.length - 1)+1:=dP;rw[this]at hy;simp at hy
theorem Ro {P:Program} {e:TypeId}:∀{l:List D},(∀x∈l,rK P x e)->EU P l e
 |[],_=>by simp [EU]
 |x::t,h=>by rw[EU];exact⟨h x aT,Ro λy hy=>h y (aP _ hy)⟩
theorem BG {S:List TypeId} {Q:TypeId->List Value->Prop} (wS:∀t cs,S.contains t=true->Q t cs->∃d,rep w w.heap.size d cs/\rK P d t):
 ∀(fs:List Field) (cs:List Value) (off tot:Nat),Lj P S fs off=some tot->cs.length=tot->off<=tot->(∀f∈fs,Q f.type ((cs.drop f.offset).take (P.cellsOf f.type)))->
  ∃(ds:List D) (css:List (List Value)),cs.drop off=css.flatten/\gb w w.heap.size ds css/\Cj P ds (fs.map Field.type)
 |[],cs,off,tot,hl,hc,_,_=>by simp [Lj]at hl;exact⟨[],[],by rw[cM dP];rfl,by rw[gb],by simp [Cj]⟩
 |f::t,cs,off,tot,hl,hc,ho,hq=>by
  rw[Lj]at hl;split at hl
  ·rename_i hh
   rw[ax]at hh;have ZC:f.offset=off:=by simpa using hh.1
   obtain⟨d,hd,hs⟩:=wS f.type _ hh.2 (hq f aT);rw[ZC]at hd;by_cases hle:off+P.cellsOf f.type<=tot
   ·obtain⟨ds,css,h1,h2,h3⟩:=BG wS t cs _ tot hl hc hle (λg hg=>hq g (aP _ hg));refine⟨d::ds,_::css,?_,jW.2 ⟨hd,h2⟩,?_⟩
    ·rw[List.flatten_cons,<-h1,<-List.drop_drop,cA]
    ·rw[br,Cj];exact⟨_,_,rfl,hs,h3⟩
   ·exfalso;have:∀(l:List Field) (o T:Nat),Lj P S l o=some T->o<=T:=by
     intro l
     induction l with
     |nil=>intro o T h;simp [Lj]at h;omega
     |cons a l ih=>intro o T h;rw[Lj]at h;split at h;have:=ih _ _ h;omega;cases h
    exact hle (this _ _ _ hl)
  ·cases hl
theorem JW {S:List TypeId} (hS:S.all (Uk P S)=true):∀(mS:Nat) (t:TypeId) (cs:List Value) (x:DataW H × List MemPlace),S.contains t=true->
 DataW.trod enc P w base V0 abd mS t cs=some x->∃d,rep w w.heap.size d cs/\rK P d t:=by
 intro mS
 induction mS with
 |zero=>intro t cs x _ h;simp [DataW.trod]at h
 |succ mS ih=>
  intro t cs x ht h;have hg:Uk P S t=true:=by rw[aV]at hS;exact hS t (by simpa using ht)
  unfold Uk at hg;split at hg
  ·rename_i hu
   obtain⟨n,h1,_,h2⟩:=DataW.trod_int hu h;exact⟨.i _ n,by rw[rep];exact⟨h1,h2⟩,by rw[rK];exact hu⟩
  ·rename_i hu
   obtain⟨b,h1,_⟩:=DataW.trod_bool hu h;exact⟨.b b,by rw[rep];exact h1,by rw[rK];exact hu⟩
  ·rename_i hu
   obtain⟨s,h1,_,h2⟩:=DataW.trod_string hu h;obtain⟨z,rfl⟩:=YS s;exact⟨.s z,by rw[rep];exact⟨h1,h2⟩,by rw[rK];exact hu⟩
  ·rename_i e hu
   rw[ax]at hg;have he1:1<=P.cellsOf e:=cD hg.2;rcases DataW.trod_slice hu h with ⟨h1,_⟩|⟨a,len,cap,Zk,rest,n,hn,h1,_,hb,hl,hm,gK,hel,_⟩
   ·exact⟨.sl [],by rw[rep];exact⟨none,0,0,1,[],h1,by omega,by unfold maxLen;omega,Reads.nil_,by simp [gb]⟩,by rw[rK];exact⟨e,hu,by simp [EU]⟩⟩
   ·obtain rfl:mS=n:=dP;have ahP:∀i,i<len->∃r:Row (P.cellsOf e) × D,(∀j,j<P.cellsOf e->w.cell? ((a.add (i*P.cellsOf e)).add j)=r.1.v[j]?)/\rep w w.heap.size r.2 r.1.v/\rK P r.2 e:=by intro i hi;have h2:=hel i hi;have h3:Zk[i]?=some Zk[i]:=aw dP;rw[h3,Option.bind_eq_some_iff]at h2;obtain⟨cs',h4,h5⟩:=h2;obtain⟨_,h6,h7⟩:=World.cells?_some h4;obtain⟨d,h8,h9⟩:=ih e cs' _ hg.1 h5;exact⟨(⟨cs',h6⟩,d),h7,h8,h9⟩
    obtain⟨l,kO,hlp⟩:=My ahP;refine⟨.sl (l.map (·.2)),?_,?_⟩
    ·rw[rep];refine⟨some a,len,cap,P.cellsOf e,l.map (·.1),h1,hl,hm,⟨by simpa using kO,λh0=>?_⟩,LA dR λk d cs hd hc=>?_⟩
     ·have hx0:l[0]?=some l[0]:=aw dP;have h00:=(hlp 0 _ hx0).1 0 dP;have hv:∃u,l[0].1.v[0]?=some u:=⟨_,aw (by rw[Row.len];omega)⟩;obtain⟨u,hu'⟩:=hv;rw[hu',dx]at h00;have h01:w.cell? (a.add 0)=some u:=by simpa [Addr.add]using h00
      obtain⟨b,off,rfl,Tv⟩:=O1 h01;refine⟨b,off,rfl,Tv,λk x j u hx hu=>?_⟩;rw[cg]at hx;cases hk:l[k]? with
      |none=>simp [hk]at hx
      |some y=>
       simp [hk]at hx;subst hx;have hj:j<P.cellsOf e:=by have:=(ay.1 hu).1;rwa [Row.len]at this
       have:=(hlp k y hk).1 j hj;rw[Ja,Ja,hu]at this;exact this
     ·simp only[List.map_map,cg]at hd hc;cases hk:l[k]? with
      |none=>simp [hk]at hd
      |some y=>
       simp [hk]at hd hc;subst hd hc;exact(hlp k y hk).2.1
    ·rw[rK];refine⟨e,hu,Ro λx hx=>?_⟩;obtain⟨y,hy,rfl⟩:=List.mem_map.1 hx;obtain⟨k,hk,rfl⟩:=List.getElem_of_mem hy;exact(hlp k _ (aw hk)).2.2
  ·rename_i fs hu
   obtain⟨xs,n,hn,_,hl,X_,hf⟩:=DataW.trod_struct hu h;obtain rfl:mS=n:=dP;have ahq:Lj P S fs.toList 0=some (P.cellsOf t):=by simpa using hg
   obtain⟨ds,css,h1,h2,h3⟩:=BG (P:=P) (w:=w) (S:=S) (Q:=λt cs=>∃x,DataW.trod enc P w base V0 abd mS t cs=some x) (λt cs ht ⟨x,hx⟩=>ih t cs x ht hx) fs.toList cs 0 _ ahq hl dP (by
    intro f Zy;obtain⟨i,hi,rfl⟩:=List.getElem_of_mem Zy;have hi':i<fs.size:=by simpa using hi
    refine⟨xs[i]' dP,?_⟩;rw[hf i _ (by simp [hi'])];exact aw dP)
   rw[List.drop_zero]at h1;exact⟨.st ds,by rw[rep];exact⟨css,h1,h2⟩,by rw[rK];exact⟨fs,hu,h3⟩⟩
  ·cases hg
theorem pg {α:Type} {f:α->D} {e:TypeId} (hf:∀d,rK P d e->∃x,d=f x):∀{l:List D},EU P l e->∃xs:List α,l=xs.map f
 |[],_=>⟨[],rfl⟩
 |x::t,h=>by rw[EU]at h;obtain⟨y,rfl⟩:=hf x h.1;obtain⟨ys,rfl⟩:=pg hf h.2;exact⟨y::ys,rfl⟩
theorem uh {d:D} {t:TypeId} (ht:P.underlying t=some .string) (h:rK P d t):∃s,d= .s s:=by
 cases d with
 |s x=>exact⟨x,rfl⟩
 |i k n=>rw[rK,ht]at h;cases h
 |b x=>rw[rK,ht]at h;cases h
 |st fs=>rw[rK]at h;obtain⟨_,h,_⟩:=h;rw[ht]at h;cases h
 |sl xs=>rw[rK]at h;obtain⟨_,h,_⟩:=h;rw[ht]at h;cases h
theorem ph {d:D} {t:TypeId} {k:IntKind} (ht:P.underlying t=some (.int k)) (h:rK P d t):∃n,d= .i k n:=by
 cases d with
 |i k n=>rw[rK,ht]at h;injection h with h;injection h with h;subst h;exact⟨n,rfl⟩
 |b x=>rw[rK,ht]at h;cases h
 |s x=>rw[rK,ht]at h;cases h
 |st fs=>rw[rK]at h;obtain⟨_,h,_⟩:=h;rw[ht]at h;cases h
 |sl xs=>rw[rK]at h;obtain⟨_,h,_⟩:=h;rw[ht]at h;cases h
theorem mM {d:D} {t e:TypeId} (ht:P.underlying t=some (.slice e)) (h:rK P d t):∃xs,d= .sl xs/\EU P xs e:=by
 cases d with
 |sl xs=>rw[rK]at h;obtain⟨e',h,h2⟩:=h;rw[ht]at h;injection h with h;injection h with h;subst h;exact⟨xs,rfl,h2⟩
 |i k n=>rw[rK,ht]at h;cases h
 |b x=>rw[rK,ht]at h;cases h
 |s x=>rw[rK,ht]at h;cases h
 |st fs=>rw[rK]at h;obtain⟨_,h,_⟩:=h;rw[ht]at h;cases h
theorem rB {d:D} {t:TypeId} {fs:Array Field} (ht:P.underlying t=some (.struct fs)) (h:rK P d t):∃xs,d= .st xs/\Cj P xs (fs.toList.map Field.type):=by
 cases d with
 |st xs=>rw[rK]at h;obtain⟨e',h,h2⟩:=h;rw[ht]at h;injection h with h;injection h with h;subst h;exact⟨xs,rfl,h2⟩
 |i k n=>rw[rK,ht]at h;cases h
 |b x=>rw[rK,ht]at h;cases h
 |s x=>rw[rK,ht]at h;cases h
 |sl fs=>rw[rK]at h;obtain⟨_,h,_⟩:=h;rw[ht]at h;cases h
theorem gz {xs:List D} {t:TypeId} {ts:List TypeId} (h:Cj P xs (t::ts)):∃x ys,xs=x::ys/\rK P x t/\Cj P ys ts:=by
 cases xs with
 |nil=>rw[Cj]at h;cases h
 |cons x ys=>rw[Cj]at h;obtain⟨t1,t2,he,h1,h2⟩:=h;injection he with e1 e2;subst e1 e2;exact⟨x,ys,rfl,h1,h2⟩
theorem vW {xs:List D} (h:Cj P xs []):xs=[]:=by
 cases xs with
 |nil=>rfl
 |cons x ys=>rw[Cj]at h;obtain⟨t1,t2,he,_⟩:=h;cases he
end
theorem TR (h:rK prog d 176):∃x:Item,d=x.toD:=by obtain⟨xs,rfl,g⟩:=rB underlying176 h;clear h;obtain⟨x0,ys0,rfl,h0,g0⟩:=gz g;obtain⟨x1,ys1,rfl,h1,g1⟩:=gz g0;obtain⟨x2,ys2,rfl,h2,g2⟩:=gz g1;obtain rfl:=vW g2;obtain⟨v0,rfl⟩:=ph underlying3 h0;obtain⟨v1,rfl⟩:=ph underlying3 h1;obtain⟨v2,rfl⟩:=uh underlying9 h2;exact⟨⟨v0,v1,v2⟩,by rw[pQ]⟩
theorem Ad {α:Type} {f:α->D} {e:TypeId}:∀{l:List D},(∀d∈l,rK prog d e->∃x,d=f x)->EU prog l e->∃xs:List α,l=xs.map f
 |[],_,_=>⟨[],rfl⟩
 |x::t,hf,h=>by rw[EU]at h;obtain⟨y,rfl⟩:=hf x aT h.1;obtain⟨ys,rfl⟩:=Ad (λd hd=>hf d (aP _ hd)) h.2;exact⟨y::ys,rfl⟩
theorem Ms (n:Nat):∀d:D,SizeOf.sizeOf d<=n->rK prog d 63->∃x:Vec,d=x.toD:=by
 induction n with
 |zero=>intro d hn;cases d<;>simp at hn
 |succ n ih=>
  intro d hn h;obtain⟨xs,rfl,g⟩:=rB underlying63 h;clear h;obtain⟨x0,ys0,rfl,h0,g0⟩:=gz g;obtain⟨x1,ys1,rfl,h1,g1⟩:=gz g0;obtain⟨x2,ys2,rfl,h2,g2⟩:=gz g1;obtain⟨x3,ys3,rfl,h3,g3⟩:=gz g2;obtain⟨x4,ys4,rfl,h4,g4⟩:=gz g3;obtain⟨x5,ys5,rfl,h5,g5⟩:=gz g4;obtain⟨x6,ys6,rfl,h6,g6⟩:=gz g5;obtain⟨x7,ys7,rfl,h7,g7⟩:=gz g6;obtain rfl:=vW g7;obtain⟨v0,rfl⟩:=ph underlying3 h0;obtain⟨l1,rfl,e1⟩:=mM underlying60 h1;obtain⟨v1,rfl⟩:=pg (λd=>TR) e1;obtain⟨l2,rfl,e2⟩:=mM underlying61 h2;obtain⟨v2,rfl⟩:=Ad (f:=Vec.toD) (λd hd hs=>ih d (by have:=List.sizeOf_lt_of_mem hd;simp at hn;omega) hs) e2;obtain⟨l3,rfl,e3⟩:=mM underlying25 h3;obtain⟨v3,rfl⟩:=pg (λd=>uh underlying9) e3;obtain⟨l4,rfl,e4⟩:=mM underlying25 h4;obtain⟨v4,rfl⟩:=pg (λd=>uh underlying9) e4;obtain⟨l5,rfl,e5⟩:=mM underlying25 h5;obtain⟨v5,rfl⟩:=pg (λd=>uh underlying9) e5;obtain⟨v6,rfl⟩:=ph underlying3 h6;obtain⟨v7,rfl⟩:=ph underlying3 h7;exact⟨⟨v0,v1,v2,v3,v4,v5,v6,v7⟩,by rw[kF]⟩
theorem Df (h:rK prog d 63):∃x:Vec,d=x.toD:=Ms _ d (af _) h
theorem TL (h:rK prog d 150):∃x:Cel,d=x.toD:=by obtain⟨xs,rfl,g⟩:=rB underlying150 h;clear h;obtain⟨x0,ys0,rfl,h0,g0⟩:=gz g;obtain⟨x1,ys1,rfl,h1,g1⟩:=gz g0;obtain⟨x2,ys2,rfl,h2,g2⟩:=gz g1;obtain rfl:=vW g2;obtain⟨v0,rfl⟩:=ph underlying3 h0;obtain⟨v1,rfl⟩:=Df h1;obtain⟨l2,rfl,e2⟩:=mM underlying26 h2;obtain⟨v2,rfl⟩:=pg (λd=>ph underlying3) e2;exact⟨⟨v0,v1,v2⟩,by rw[m7]⟩
theorem TQ (h:rK prog d 59):∃x:Hp,d=x.toD:=by obtain⟨xs,rfl,g⟩:=rB underlying59 h;clear h;obtain⟨x0,ys0,rfl,h0,g0⟩:=gz g;obtain⟨x1,ys1,rfl,h1,g1⟩:=gz g0;obtain⟨x2,ys2,rfl,h2,g2⟩:=gz g1;obtain⟨x3,ys3,rfl,h3,g3⟩:=gz g2;obtain rfl:=vW g3;obtain⟨l0,rfl,e0⟩:=mM underlying57 h0;obtain⟨v0,rfl⟩:=pg (λd=>TL) e0;obtain⟨l1,rfl,e1⟩:=mM underlying25 h1;obtain⟨v1,rfl⟩:=pg (λd=>uh underlying9) e1;obtain⟨l2,rfl,e2⟩:=mM underlying26 h2;obtain⟨v2,rfl⟩:=pg (λd=>ph underlying3) e2;obtain⟨v3,rfl⟩:=ph underlying3 h3;exact⟨⟨v0,v1,v2,v3⟩,by rw[uP]⟩
theorem Mem.inHB (H:HB w g h F):Mem prog w (g::F) w [.bx g h.toD 28]:=Gd
theorem Mem.outHB {w':World} (M:Mem prog w (g::F) w' [.bx g h'.toD 28]):∃F',HB w' g h' F'/\Sub w.heap.size F F'/\Mod (g::F) w w':=Ga
theorem ES {α:Type}:∀{l:List α} {k:Nat} {x:α},l[k]?=some x->l.set k x=l
 |[],_,_,h=>by simp at h
 |a::t,0,x,h=>by simp at h;subst h;rfl
 |a::t,k+1,x,h=>by simp at h;rw[be,ES h]
theorem Mem.cntAt {n c k:Nat} {l:List Cel} {x:Cel} (M:Mem prog w0 X w (.ow (.sl (l.map Cel.toD)) 24 [.slice (some ⟨g,0,none⟩) n c]::R)) (hk:l[k]?=some x):w.cell? ⟨g,k*10,none⟩=some (.int .i64 x.count):=by
 have hr:=M.rp 0 rfl;have hl:=(ef hr).1;rw[au]at hl;have WA:k<n:=sa;obtain⟨b,off,y,_,_,_,_,_,_,_,_,_,_,_,_,_,_,_,_,_,_,e,-,hy,-,h0,-⟩:=lm hr WA;injection e with e
 injection e with e1 e2
 subst e1 e2;have:=hy.symm.trans hk;injection this with this
 subst this
 rwa [bI]at h0
theorem Mem.takeCall {v:Value} {c:Cel} {cc:List Value} (M:Mem prog w0 X w (.bx g h.toD 28:: .ow c.toD 43 cc::R))
 (hc:∀F Fc,HB w g h F->own prog w c.toD 43 Fc cc->(∀y∈Fc,y ∉ g::F)->Fc.Nodup->Calls prog f args w λe w'=>e= .returned v/\∃F',HB w' g h' F'/\(∀y∈F',y∈F\/y∈Fc\/w.heap.size<=y)/\Mod (g::F) w w')
 (hK:∀w',Mem prog w0 X w' (.bx g h'.toD 28::R)->Ψ (.returned v) w'):Calls prog f args w Ψ:=by
 obtain⟨FF,s1,n1,agm⟩:=Mem.split [_,_] M;obtain⟨G,Fc,rfl,⟨cs,F,rfl,kB,o⟩,s2⟩:=fJ.1 s1;have oc:=iQ.1 s2;obtain⟨m1,m2,m3⟩:=aE.1 n1;refine(hc F Fc ⟨cs,kB,o,m1⟩ oc (λy hy hm=>m3 y hm y hy rfl) m2).mono ?_;rintro e w' ⟨rfl,F',⟨cs',IG,o',nd'⟩,ahU,Pu⟩;refine hK w' (agm w' [_] (g::F') (iQ.2 ⟨cs',F',rfl,IG,o'⟩) nd' (λy hy=>?_) (Pu.mono λy hy=>aG.2 (.inl hy)));rcases aX.1 hy with rfl|hy
 ·exact .inl (aG.2 (.inl dR))
 ·rcases ahU y hy with h1|h1|h1
  ·exact .inl (aG.2 (.inl kw))
  ·exact .inl (aG.2 (.inr h1))
  ·exact .inr h1
theorem OT (h:rK prog d 65):∃x:Hop,d=x.toD:=by obtain⟨xs,rfl,g⟩:=rB underlying65 h;clear h;obtain⟨x0,ys0,rfl,h0,g0⟩:=gz g;obtain⟨x1,ys1,rfl,h1,g1⟩:=gz g0;obtain⟨x2,ys2,rfl,h2,g2⟩:=gz g1;obtain⟨x3,ys3,rfl,h3,g3⟩:=gz g2;obtain⟨x4,ys4,rfl,h4,g4⟩:=gz g3;obtain rfl:=vW g4;obtain⟨v0,rfl⟩:=ph underlying3 h0;obtain⟨v1,rfl⟩:=uh underlying9 h1;obtain⟨v2,rfl⟩:=uh underlying9 h2;obtain⟨v3,rfl⟩:=ph underlying3 h3;obtain⟨v4,rfl⟩:=Df h4;exact⟨⟨v0,v1,v2,v3,v4⟩,by rw[qQ]⟩
end Go.Proofs.YtekcpadlmfaihaaGreat
