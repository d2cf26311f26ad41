/- The law FnCounts, plainly: a run keeps the counts exact; binding a name to nothing. -/
import Derived.Test.YtekcpadlmfaihaaGreatWQr
import Derived.Test.YtekcpadlmfaihaaGreatWQj
namespace Go.Proofs.YtekcpadlmfaihaaGreat
open Go.RowKit Proofs.Tryz
set_option maxHeartbeats 8000000
set_option maxRecDepth 100000
set_option linter.unusedSimpArgs false
set_option linter.unusedVariables false
variable {h:Hp} {R:List As} {X:List Nat} {i:Nat} {nm:Str} {w w0:World}
theorem abC:∀(t:List Hop) (h:Hp) (n:Nat),fG h=true->GD h->h.copies+(t.length:Int)<=1000->szD h.toD+(2*gv (t.map Hop.toD)+30000*t.length)<=4194304->gv (t.map Hop.toD)<=1048576->
 ∃(G:Hp) (m:Nat),RunR h n t G m/\szD G.toD<=szD h.toD+(2*gv (t.map Hop.toD)+30000*t.length)/\fG G=true/\GD G/\G.copies<=h.copies+(t.length:Int)
 |[],h,n,hk,hg,_,hz,_=>⟨h,n,.nil h n,by omega,hk,hg,by simp⟩
 |x::t,h,n,hk,hg,hc,hz,hb=>by
  simp only[br,gv,bU]at hc hz hb ⊢;have hzx:=wG x;have same:(∃(G:Hp) (m:Nat),RunR h (n+1) t G m/\szD G.toD<=szD h.toD+(2*gv (t.map Hop.toD)+30000*t.length)/\fG G=true/\GD G/\G.copies<=h.copies+(t.length:Int)):=abC t h (n+1) hk hg dP dP dP;cases hx:je x with
  |false=>
   obtain⟨G,m,H,z,a,b,c⟩:=same;obtain⟨kd,nm,fr,pt,v⟩:=x;exact⟨G,m,.bad (λcs cx w a b=>PC h kd pt nm fr v dP hk hx (by unfold bigV;simp only at hzx;omega) cs cx w a b) (λcs cx w a b=>Qa h kd pt nm fr v dP hk hx (by unfold bigV;simp only at hzx;omega) cs cx w a b) rfl H,by omega,a,b,by omega⟩
  |true=>
   obtain⟨R,r,a,b,c1,c2⟩:=YR hk dP hx;cases hr:r.isEmpty with
   |false=>
    obtain⟨G,m,H,z,p,q,s⟩:=same;exact⟨G,m,.bad a b hr H,by omega,p,q,by omega⟩
   |true=>
    obtain rfl:r=[]:=dh.1 hr;obtain⟨d1,d2,d3⟩:=c2 dP;obtain⟨G,m,H,z,p,q,s⟩:=abC t R n d1 (d3 hg) dP dP dP;exact⟨G,m,.ok a b H,by omega,p,q,by omega⟩
theorem aco:GD ⟨[],[],[],0⟩:=λk hk=>by exfalso;revert hk;unfold celD;split<;>simp
theorem acP (l:List Hop) (h30:l.length<=14) (hz:gv (l.map Hop.toD)<=200000):∃(G:Hp) (m:Nat),RunR ⟨[],[],[],0⟩ 0 l G m/\szD G.toD<=820000/\fG G=true/\GD G/\G.copies<=14:=by obtain⟨G,m,H,z,a,b,c⟩:=abC l ⟨[],[],[],0⟩ 0 dQ aco ig (by rw[Jr];omega) dP;rw[Jr]at z;simp only at c;exact⟨G,m,H,by omega,a,b,by omega⟩
theorem ab5 (hk:fG h=true):h.names.length+h.names.length<=szD h.toD:=by have:=(jc hk).1;rw[kD];omega
theorem ack (hk:fG h=true) (G:GD h) (hz:szD h.toD<=4194304) (hn:h.names[i]?=some nm) (Z:ZB h i):
 ∃R:Hp,StI h ⟨0,nm,[],0,zeroV⟩ R []/\StS h ⟨0,nm,[],0,zeroV⟩ R []/\fG R=true/\GD R/\R.names=h.names/\ZB R (i+1)/\szD R.toD<=szD h.toD+1/\R.copies=h.copies:=by
 have hnm:=((SL.of hk).n i nm hn).1;have hx:je ⟨0,nm,[],0,zeroV⟩=true:=by unfold je;simp only[hnm,zt,aj];rw[show xN zeroV=false from by decide];rfl
 obtain⟨-,hv,-,-,-⟩:=sX hx;have ZJ:=(i6 hv).1;obtain⟨z1,z2⟩:=sV hz;have hl:=(jc hk).1;obtain⟨h1,k,e,p1,p2,p3,p4,p5⟩:=Xc hk hz nm zeroV ZJ (by have:=vz hv;omega);obtain⟨q1,q2,q3⟩:=TZ hk hz hnm hv e;obtain⟨y1,y2⟩:=acQ hk hz hn Z e;refine⟨fd h1 nm k,λcs cx w a b=>Iy h nm [] 0 zeroV _ _ h1 k hz hk hl hx (eC hv) rfl rfl cs cx w a b e p1 p2 p3 p4 p5,
  λcs cx w a b=>I0 h nm [] 0 zeroV _ _ h1 k hz hk hl dP (wR hk) hx (eC hv) rfl rfl cs cx w a b e p1 ZJ p2 p3 p4 p5,q1,q3 G,y1,y2,?_,q2⟩
 obtain⟨f1,f2,f3,f4,f5⟩:=EC 4 h zeroV (Bz hk hz);have g1:=UP 4 h zeroV;rw[e]at g1 f3 f4;simp only[We]at g1 f3 f4;have mT:ix h1.names nm 0=(i:Int):=by rw[f3];exact abG (SL.of hk) hn
 have g2:szD (fd h1 nm k).toD<=szD h1.toD:=by unfold fd;rw[aN dP];have:=PA 5 {h1 with slots:=h1.slots.set (ix h1.names nm 0).toNat k} (slotD h1 nm);rw[UQ h1 _ (da ..)]at this;exact this
 omega
def CtI (h:Hp) (i:Nat):Prop:=fG h=true/\GD h/\ZB h i/\szD h.toD<=820000+i/\h.names.length<=410000/\h.copies<=14
theorem acR (h:Hp):ZB h 0:=λt y ht=>by omega
theorem acn (hk:fG h=true) (G:GD h) (hz:szD h.toD<=820000) (hc:h.copies<=14):CtI h 0:=
 ⟨hk,G,acR h,by omega,by have:=ab5 hk;omega,hc⟩
theorem acF (C:CtI h i) (hi:i<h.names.length) (hn:h.names[i]?=some nm):
 ∃R:Hp,StI h ⟨0,nm,[],0,zeroV⟩ R []/\StS h ⟨0,nm,[],0,zeroV⟩ R []/\CtI R (i+1)/\R.names.length=h.names.length/\fG R=true/\szD R.toD<=4194304:=by
 obtain⟨hk,G,Z,hz,hl,hc⟩:=C;obtain⟨R,a,b,c,d,e,f,g,k⟩:=ack hk G dP hn Z;exact⟨R,a,b,⟨c,d,f,by omega,by rw[e];exact hl,by omega⟩,by rw[e],c,by omega⟩
theorem acU (C:CtI h i):(Lit.int .i64 h.copies).wf=true:=by have:=DE C.1;have:=C.2.2.2.2.2;exact kP.2 ⟨by omega,by omega⟩
theorem adf (C:CtI h i) (hi:i=h.names.length):(h.cells.filter λc=>decide (0<c.count)).length=h.names.length:=
 abD C.1 C.2.1 (by have:=(jc C.1).1;rw[<-this,<-hi];exact C.2.2.1)
theorem abF {l:List Cel} {j:Nat} {x:Cel} (hx:l[j]?=some x):((l.take (j+1)).filter λc=>decide (0<c.count)).length=((l.take j).filter λc=>decide (0<c.count)).length+(if 0<x.count then 1 else 0):=by rw[List.take_add_one,hx,List.filter_append,aY];by_cases h:0<x.count<;>simp [h]
theorem Mem.openHeapD {A1 A2 A3:Option Addr} {n1 c1 n2 c2 n3 c3:Nat} {z:Value} (M:Mem prog w0 X w (.ow h.toD 28 [.slice A1 n1 c1,.slice A2 n2 c2,.slice A3 n3 c3,z]::R)):
 Mem prog w0 X w (.ow (.sl (h.cells.map Cel.toD)) 24 [.slice A1 n1 c1]:: .ow (.sl (h.names.map .s)) 25 [.slice A2 n2 c2]:: .ow (.sl (h.slots.map (.i .i64))) 26 [.slice A3 n3 c3]::R):=by
 obtain⟨_,_,_,_,_,_,he,-,M2⟩:=Mem.openHeap M;simp only[bF,bG,cO]at he;obtain⟨⟨rfl,rfl,rfl⟩,⟨rfl,rfl,rfl⟩,⟨rfl,rfl,rfl⟩,rfl⟩:=he;exact M2
def afU (l:List Hop):Prop:=l.length<=14/\gv (l.map Hop.toD)<=200000
theorem ai5 {f:Nat} {args:Array Value} {Ψ:Ending->World->Prop} (hc:Calls prog f args w (acg w)) (M:Mem prog w0 X w R)
 (hK:∀(x:Gh) w',Mem prog w0 X w' (.fa (afU x.P):: .ow (.sl (x.P.map Hop.toD)) 31 [.slice x.a x.P.length x.c]::R)->Ψ (.returned (.slice x.a x.P.length x.c)) w'):Calls prog f args w Ψ:=
 hc.mono λe w' q=>by
  obtain⟨v,h1,h2,B,m,d,F,rfl,ho,hF,hb⟩:=q
  let u:List Hop:=@Classical.epsilon (List Hop) ⟨[]⟩ λz=>D.sl (z.map Hop.toD)=D.sl (v.map Hop.toD)
  have hu:D.sl (u.map Hop.toD)=D.sl (v.map Hop.toD):=Gi v;have hm:u.map Hop.toD=v.map Hop.toD:=by injection hu
  have hl:u.length=v.length:=by have:=cU List.length hm;simpa using this
  rw[<-hu]at ho;have M':=M.gain ho hF hb;have hn:=(ef (M'.rp 0 rfl)).1;rw[au]at hn;subst hn;exact hK ⟨0,B,d,λ_=>undef,λ_=>none,λ_=>0,.sl (v.map Hop.toD)⟩ w' (M'.fact (p:=afU u) ⟨by rw[hl];exact h1,by rw[hm];exact h2⟩)
theorem Np (A:Option Addr) (n c:Nat) (w:World) (hn:n<=maxLen):
 Calls prog 7 #[.slice A n c] w λe w'=>e= .returned (.bool (decide ((1048576:Int)<(n:Int))))/\w=w':=by
 unfold maxLen at hn;go_enter func7,ntmps7;go_wp2;go_ret;exact⟨rfl,rfl⟩
theorem acm (C:CtI h i) (hi:i<=h.names.length):h.cells.length<=1300000:=by have hz:=C.2.2.2.1;have:=C.2.2.2.2.1;rw[kD]at hz;omega
theorem abe (C:CtI h i) (hn:h.names[i]?=some nm):rep w w.heap.size (Hop.toD ⟨0,nm,[],0,zeroV⟩) [.int .i64 0,sv nm,sv [],.int .i64 0,.int .i64 0,.slice none 0 0,.slice none 0 0,.slice none 0 0,.slice none 0 0,.slice none 0 0,.int .i64 0,.int .i64 0]:=by have M:Mem prog w [] w []:=Mem.start;have M:=((((M.nil (t:=25) underlying25).nil (t:=25) underlying25).nil (t:=25) underlying25).nil (t:=36) underlying36).nil (t:=35) underlying35;have M:=Mem.joinVec (v:=zeroV) M le le le;have hl:=Vp ((SL.of C.1).n i nm hn).1;exact(Mem.joinHop (x:=⟨0,nm,[],0,zeroV⟩) M le (by unfold maxLen;simp only;omega) (dj _) le).rp 0 rfl
theorem E4 (A:Option Addr) (n c:Nat) (bs:List UInt8) (w:World) (hr:Reads zq 1 w w.heap.size A n bs) (hn:n<=maxLen):
 Calls prog 3 #[.slice A n c] w λe w'=>e= .returned (.bool true)/\Below w.heap.size w w':=by
 by_cases hbig':(1048576:Int)<(n:Int)
 ·have ga:decide ((1048576:Int)<(n:Int))=true:=by simpa using hbig'
  have M:Mem prog w [] w []:=Mem.start;go_enter func3,ntmps3;refine Ra M [] (ae (Sq ?_));refine Sb M [] 1 ?_;refine Sc (QF (v:= .bool true) (by have z:=Np A n c w hn;rw[ga]at z;exact z) M λJ1 wv M=>Sp (Sz ?_));refine ct ?_;refine Ra M [] (aO (fI ?_));refine vQ results3 ?_;exact⟨rfl,M.bel⟩
 have ga:decide ((1048576:Int)<(n:Int))=false:=by simpa using hbig'
 have hbn:n<=1048576:=dP;have M:Mem prog w [] w []:=Mem.start;go_enter func3,ntmps3;refine Ra M [] (ae (Sq ?_));refine Sb M [] 1 ?_;refine Sc (QF (v:= .bool false) (by have z:=Np A n c w hn;rw[ga]at z;exact z) M λJ1 wv M=>Sp (Sz ?_));refine gk (Sq ?_);refine Sb M [] 1 ?_;refine Sc (ai5 (Ns _ (hr.below M.bel |>.more M.mod.size) hbn) M λJ2 wv M=>Sp ?_);have hfw:=M.pr 0 rfl;have ajD:=hfw.1;obtain⟨G0,m0,TP,gz,gk,gd,gc⟩:=acP _ ajD hfw.2;have HR:=aa TP;clear TP;refine Sc (T2 (aa9 _ G0 m0 dP HR.out _ _ _ (M.rp 1 rfl)) M λJ3 wv M=>Sp ?_);refine Sb M [] 3 ?_;refine Sa M (λJ4 wv M=>?_);refine Ss M 0 (λwv M=>?_);refine Sb M [] 1 (Sz ?_);have CT:=aa (acn gk gd gz gc);clear gk gd gz gc HR;replace M:=Mem.openHeapD (M.up [1]);replace M:=M.up [];refine ae (Ra M [] (aJ ?_));refine fy (ι:=Nat × Hp × Option Addr × Nat × Option Addr × Nat × Option Addr × Nat) [2,6,7,8,9,20,21,22,23,24,25,26,27,28,29,30,31,32,33,34,35,36,37,38,39,40,41,42,43,44,45,46,47,48,49,50,51,52,53,54,55,56,57,58,59,60,61,62,63,64,65,66] (λfu=>match fu with|(i,h,Ah,ch,An,cn,Ak,ck)=>[(5,.int .i64 (i:Nat))]) (λfu=>match fu with|(i,h,Ah,ch,An,cn,Ak,ck)=>i<=h.names.length/\CtI h i) (λfu=>match fu with|(i,h,Ah,ch,An,cn,Ak,ck)=>[.ow (.sl (h.cells.map Cel.toD)) 24 [.slice Ah h.cells.length ch],.ow (.sl (h.names.map .s)) 25 [.slice An h.names.length cn],.ow (.sl (h.slots.map (.i .i64))) 26 [.slice Ak h.slots.length ck],.bk (J4.b) 28 [.slice Ah h.cells.length ch,.slice An h.names.length cn,.slice Ak h.slots.length ck,h.copies]]) (λfu=>match fu with|(i,h,Ah,ch,An,cn,Ak,ck)=>h.names.length - i) (0,G0,(((J3.A 1))),(((J3.C 1))),(((J3.A 2))),(((J3.C 2))),(((J3.A 3))),(((J3.C 3)))) (⟨dj _,CT.out⟩) (M.sel [0,1,2,3] dQ) ?_;rintro⟨i,h,Ah,ch,An,cn,Ak,ck⟩ Mf W1 K1 h1 M rH;try dsimp only at h1 M ⊢
 refine uM ?_;obtain⟨hi,CT1⟩:=h1;replace CT1:=aa CT1;have hnl:h.names.length<=410000:=CT1.out.2.2.2.2.1;refine ae (Ra M [3] ?_);refine lW (λhlt=>?_) (λhlt=>?_)
 ·rw[hlt];replace hlt:=aa hlt;refine bd (dV (ae (aJ ?_)));have hlj:i<h.names.length:=iS;obtain⟨nb,hnb⟩:=(M.pull 1 rfl).some0 underlying25 dP;subst hnb;obtain⟨nm,K_⟩:∃s,h.names[i]?=some s:=⟨_,aw hlj⟩;have hnm:=aa K_;obtain⟨R',HI',Zc,CR',hRl,agK,hRz⟩:=acF CT1.out hlj K_;replace hRl:=aa hRl;have HI:=aa HI';have HS:=aa Zc;have CR:=aa CR';have hRk:=aa agK;clear HI' Zc CR' K_ agK;have j0:(0:Int)<=(i:Int):=dP;have j1:(i:Int)<(h.names.length:Int):=dP;refine mL M [none,none,none,none] [.la 3,.o (J4.b) 1,.x 1 1,.i (i:Nat),.o nb i,.v (.c (sv nm)),.v (.c (.agg #[.int .i64 0,sv nm,sv [],.int .i64 0,.int .i64 0,.slice none 0 0,.slice none 0 0,.slice none 0 0,.slice none 0 0,.slice none 0 0,.int .i64 0,.int .i64 0])),.v (.e 7 (λMg=> .tuple #[.agg #[.slice ((Mg.A 1)) R'.cells.length ((Mg.C 1)),.slice ((Mg.A 2)) R'.names.length ((Mg.C 2)),.slice ((Mg.A 3)) R'.slots.length ((Mg.C 3)),R'.copies],sv []])),.p 0,.x 0 0,.x 1 1,.q 11 0,.u,.p 2] [.e 7 none (.e 7 (λMg=> .ow (Hp.toD R') 28 [.slice ((Mg.A 1)) R'.cells.length ((Mg.C 1)),.slice ((Mg.A 2)) R'.names.length ((Mg.C 2)),.slice ((Mg.A 3)) R'.slots.length ((Mg.C 3)),R'.copies])),.e 11 (some 12) (oB 11 28 [(),(),(),.int .i64 0]),.x 12 none 5 7 0] [[3],[],[3],[],[],[1],[],[0,1,2],[],[],[],[],[],[]] [] ?_ ?_
  ·show ∀i,i<14->_;refine On ?_ eB;refine On ?_ (tn [5] [6] [] (h:=λγ wv R K M hK=>uC));refine On (On (On (On ?_ eB) eB) eB) (kX [5]);refine On ?_ (tn [] [4] [0,1,2] (h:=λγ wv R K M hK=>by go_simp;go_at_call 10;exact T2 (HI.out _ _ _ ((Mem.joinHeap (h:=h) M (acU CT1.out)).rp 0 rfl) (abe CT1.out hnm.out)) M hK))
   refine On ?_ eh;refine On ?_ (mW [1] (h:=λγ wv K M hK=>by have c0:wv.cell? _=some (sv nm):=M.strAt (k:=i) hnm.out;clear M;go_simp;exact hK))
   refine On (On (On (On ?_ eh) (e_ [3] 1)) eB) eh;refine On ?_ (mW [3] (h:=λγ wv K M hK=>lC));exact Oz
  intro Ho wv M;replace M:Mem _ _ _ _ [_,_,_,_,.ow _ _ _,.bk _ _ [_,_,_,_]]:=M;refine mL M [none,none,none,none] [.la 3,.o (J4.b) 1,.x 1 1,.i (i:Nat),.o nb i,.v (.c (sv nm)),.v (.c (.agg #[.int .i64 0,sv nm,sv [],.int .i64 0,.int .i64 0,.slice none 0 0,.slice none 0 0,.slice none 0 0,.slice none 0 0,.slice none 0 0,.int .i64 0,.int .i64 0])),.v (.e 7 (λMg=> .tuple #[.agg #[.slice ((Mg.A 1)) R'.cells.length ((Mg.C 1)),.slice ((Mg.A 2)) R'.names.length ((Mg.C 2)),.slice ((Mg.A 3)) R'.slots.length ((Mg.C 3)),R'.copies],sv []])),.p 0,.x 0 0,.x 1 1,.q 11 0,.u,.p 2] [.e 7 none (.e 7 (λMg=> .ow (Hp.toD R') 28 [.slice ((Mg.A 1)) R'.cells.length ((Mg.C 1)),.slice ((Mg.A 2)) R'.names.length ((Mg.C 2)),.slice ((Mg.A 3)) R'.slots.length ((Mg.C 3)),R'.copies])),.e 11 (some 12) (oB 11 28 [(),(),(),.int .i64 0]),.x 12 none 5 7 0] [[3],[],[3],[],[],[1],[],[0,1,2],[],[],[],[],[],[]] [] ?_ ?_
  ·show ∀i,i<14->_;refine On ?_ eB;refine On ?_ (tn [5] [6] [] (h:=λγ wv R K M hK=>uC));refine On (On (On (On ?_ eB) eB) eB) (kX [5]);refine On ?_ (tn [] [4] [0,1,2] (h:=λγ wv R K M hK=>by go_simp;go_at_call 11;exact T2 (HS.out _ _ _ ((Mem.joinHeap (h:=h) M (acU CT1.out)).rp 0 rfl) (abe CT1.out hnm.out)) M hK))
   refine On ?_ eh;refine On ?_ (mW [1] (h:=λγ wv K M hK=>by have c0:wv.cell? _=some (sv nm):=M.strAt (k:=i) hnm.out;clear M;go_simp;exact hK))
   refine On (On (On (On ?_ eh) (e_ [3] 1)) eB) eh;refine On ?_ (mW [3] (h:=λγ wv K M hK=>lC));exact Oz
  intro Wf wv M;replace M:Mem _ _ _ _ [_,_,_,_,.ow _ _ _,.bk _ _ [_,_,_,_],_,_]:=M;refine ae (Sq (Sb M [5] 9 ?_));replace M:=M.up [4];refine Sc (f_ (v:= .bool true) (by have z:=kT R' hRz _ _ (M.rp 0 rfl);rw[hRk.out]at z;exact z) M λJ5 wv M=>Sp ?_);refine Sb M [7] 4 ?_;replace M:=M.up [6];refine Sc (f_ (v:= .bool true) (by have z:=k9 R' hRz _ _ (M.rp 0 rfl);rw[hRk.out]at z;exact z) M λJ6 wv M=>Sp ?_);refine Sb M [] 2 (Sz ?_);refine gk (Sg ?_);refine Sb M [6] 1 ?_;refine Ss M 5 (λwv M=>Sy (fA (dV ?_)));refine Rb M [] (dV ?_);have hRl2:=hRl.out;have MZ:=Mem.openHeapD (M.sel [1,5] dQ);exact rH (i+1,R',((((Wf 7).A 1))),((((Wf 7).C 1))),((((Wf 7).A 2))),((((Wf 7).C 2))),((((Wf 7).A 3))),((((Wf 7).C 3)))) _ _ dU (⟨by omega,CR.out⟩) (by(try dsimp only);omega) (MZ)
 ·rw[hlt];replace hlt:=aa hlt;have hin:i=h.names.length:=eX;have aa_:=adf CT1.out hin;replace aa_:=aa aa_;clear hin;refine bo (es (es (fT (dV (Ra M [] (ae ?_))))));refine Ra M [] (aJ ?_);refine fy (ι:=Nat × Nat) [67,68,69,70,71,72,73,74,75,76,77,78,79,80,81,82] (λfu=>match fu with|(j,q)=>[(10,.int .i64 (q:Nat)),(11,.int .i64 (j:Nat))]) (λfu=>match fu with|(j,q)=>j<=h.cells.length/\q=((h.cells.take j).filter λc=>decide (0<c.count)).length) (λfu=>match fu with|(j,q)=>[.ow (.sl (h.cells.map Cel.toD)) 24 [.slice Ah h.cells.length ch],.ow (.sl (h.names.map .s)) 25 [.slice An h.names.length cn],.ow (.sl (h.slots.map (.i .i64))) 26 [.slice Ak h.slots.length ck],.bk (J4.b) 28 [.slice Ah h.cells.length ch,.slice An h.names.length cn,.slice Ak h.slots.length ck,h.copies]]) (λfu=>match fu with|(j,q)=>h.cells.length - j) (0,0) (⟨dj _,by simp⟩) (M) ?_;rintro⟨j,q⟩ zf5 W5 K5 h5 M hK5;try dsimp only at h5 M ⊢
  refine uM ?_;obtain⟨hj,hq'⟩:=h5;have hq:=aa hq';have hqb:q<=h.cells.length:=by rw[hq'];exact du (List.length_filter_le _ _) sc
  clear hq';have K9:=acm CT1.out hi;refine ae (Ra M [3] ?_);refine lW (λhlu=>?_) (λhlu=>?_)
  ·rw[hlu];replace hlu:=aa hlu;refine bd (dV (ae (aJ ?_)));have ahs:j<h.cells.length:=by have z:=hlu.out;simpa using z
   obtain⟨cb,hcb⟩:=(M.pull 0 rfl).some0 underlying24 dP;subst hcb;obtain⟨x,qD⟩:∃s,h.cells[j]?=some s:=⟨_,aw ahs⟩;have hx:=aa qD;clear qD;have j2:(0:Int)<=(j:Int):=dP;have j3:(j:Int)<(h.cells.length:Int):=dP;refine Sq (Sb M [3] 5 ?_);refine So (.int .i64 x.count) (λK Z hK=>by have c0:W5.cell? _=some (.int .i64 x.count):=M.cntAt (k:=j) hx.out;clear M;go_simp;exact hK) ?_
   refine Sb M [] 1 (Sz ?_);refine lW (λxy=>?_) (λxy=>?_)
   ·rw[xy];replace xy:=aa xy;have hpos:0<x.count:=by have z:=xy.out;simpa using z
    refine Rb M [] (fA (dV ?_));refine Rb M [] (dV ?_);have hqo:=hq.out;exact hK5 (j+1,q+1) _ _ dU (⟨by omega,by rw[abF hx.out,aN hpos];omega⟩) (by(try dsimp only);omega) (M)
   ·rw[xy];replace xy:=aa xy;have hpos:¬0<x.count:=by have z:=xy.out;simpa using z
    refine bd (fA (dV (Rb M [] (dV ?_))));have hqo:=hq.out;exact hK5 (j+1,q) _ _ dU (⟨by omega,by rw[abF hx.out,aH hpos];omega⟩) (by(try dsimp only);omega) (M)
  ·rw[hlu];replace hlu:=aa hlu;have hje:j=h.cells.length:=by have z:=hlu.out;simp at z;omega
   have hqe:=hq.out;rw[hje,cC]at hqe;replace hqe:q=h.names.length:=hqe.trans aa_.out;clear hje;have hqd:(q==h.names.length)=true:=by simp [hqe]
   replace hqe:=aa hqe;refine bo (es (es (fT (dV (Ra M [3] (aO ?_))))));refine vQ results3 ?_;rw[show (((q:Nat):Int)==((h.names.length:Nat):Int))=true from by have:=hqe.out;simp [this]];exact⟨rfl,M.bel⟩
end Go.Proofs.YtekcpadlmfaihaaGreat
