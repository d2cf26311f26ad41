/- The struct Vector as data; what its cells are; the law's own functions sz, to, eq over it. -/
import Derived.Test.YtekcpadlmfaihaaGreatZA
import Derived.Deep.DeepCutAuto
namespace Go.Proofs.YtekcpadlmfaihaaGreat
open Go.RowKit Proofs.Tryz
set_option maxHeartbeats 8000000
set_option maxRecDepth 100000
set_option linter.unusedSimpArgs false
set_option linter.unusedVariables false
variable {Fnames Fparts:List Nat} {cs:List Value} {l:List Vec} {B c fV fW fm fq gr gu hE hZ k mH mz n:Nat} {A fU fj gm hD mv:Option Addr} {α:Type} {v x:Vec} {w:World}
theorem kF (x:Vec):x.toD= .st [.i .i64 x.kind,.sl (x.items.map Item.toD),.sl (x.parts.map Vec.toD),.sl (x.names.map .s),.sl (x.cls.map .s),.sl (x.levels.map .s),.i .i64 x.code,.i .i64 x.env]:=qf
theorem fw (h:rep w B x.toD cs):∃(hD:Option Addr) (hZ:Nat) (hE:Nat) (fj:Option Addr) (fq:Nat) (fm:Nat) (fU:Option Addr) (fW:Nat) (fV:Nat) (mv:Option Addr) (mH:Nat) (mz:Nat) (gm:Option Addr) (gu:Nat) (gr:Nat),cs=[.int .i64 x.kind,.slice hD hZ hE,.slice fj fq fm,.slice fU fW fV,.slice mv mH mz,.slice gm gu gr,.int .i64 x.code,.int .i64 x.env]/\(Lit.int .i64 x.kind).wf=true/\rep w B (.sl (x.items.map Item.toD)) [.slice hD hZ hE]/\rep w B (.sl (x.parts.map Vec.toD)) [.slice fj fq fm]/\rep w B (.sl (x.names.map .s)) [.slice fU fW fV]/\rep w B (.sl (x.cls.map .s)) [.slice mv mH mz]/\rep w B (.sl (x.levels.map .s)) [.slice gm gu gr]/\(Lit.int .i64 x.code).wf=true/\(Lit.int .i64 x.env).wf=true:=by rw[kF,rep]at h;obtain⟨css,rfl,h⟩:=h;rw[gb]at h;obtain⟨c0,css,rfl,k0,h⟩:=h;rw[gb]at h;obtain⟨c1,css,rfl,k1,h⟩:=h;rw[gb]at h;obtain⟨c2,css,rfl,k2,h⟩:=h;rw[gb]at h;obtain⟨c3,css,rfl,k3,h⟩:=h;rw[gb]at h;obtain⟨c4,css,rfl,k4,h⟩:=h;rw[gb]at h;obtain⟨c5,css,rfl,k5,h⟩:=h;rw[gb]at h;obtain⟨c6,css,rfl,k6,h⟩:=h;rw[gb]at h;obtain⟨c7,css,rfl,k7,h⟩:=h;rw[gb]at h;subst h;rw[rep]at k0;obtain⟨rfl,k0⟩:=k0;obtain⟨A1,n1,d1,rfl⟩:=fD k1;obtain⟨A2,n2,d2,rfl⟩:=fD k2;obtain⟨A3,n3,d3,rfl⟩:=fD k3;obtain⟨A4,n4,d4,rfl⟩:=fD k4;obtain⟨A5,n5,d5,rfl⟩:=fD k5;rw[rep]at k6;obtain⟨rfl,k6⟩:=k6;rw[rep]at k7;obtain⟨rfl,k7⟩:=k7;exact⟨A1,n1,d1,A2,n2,d2,A3,n3,d3,A4,n4,d4,A5,n5,d5,rfl,k0,k1,k2,k3,k4,k5,k6,k7⟩
theorem uU (tu:(Lit.int .i64 x.kind).wf=true) (rA:rep w B (.sl (x.items.map Item.toD)) [.slice hD hZ hE]) (kL:rep w B (.sl (x.parts.map Vec.toD)) [.slice fj fq fm]) (lu:rep w B (.sl (x.names.map .s)) [.slice fU fW fV]) (EH:rep w B (.sl (x.cls.map .s)) [.slice mv mH mz]) (pf:rep w B (.sl (x.levels.map .s)) [.slice gm gu gr]) (xF:(Lit.int .i64 x.code).wf=true) (I9:(Lit.int .i64 x.env).wf=true):rep w B x.toD [x.kind,.slice hD hZ hE,.slice fj fq fm,.slice fU fW fV,.slice mv mH mz,.slice gm gu gr,x.code,x.env]:=by rw[kF,rep];exact⟨[[.int .i64 x.kind],[.slice hD hZ hE],[.slice fj fq fm],[.slice fU fW fV],[.slice mv mH mz],[.slice gm gu gr],[.int .i64 x.code],[.int .i64 x.env]],rfl,jW.2 ⟨by rw[rep];exact⟨rfl,tu⟩,jW.2 ⟨rA,jW.2 ⟨kL,jW.2 ⟨lu,jW.2 ⟨EH,jW.2 ⟨pf,jW.2 ⟨by rw[rep];exact⟨rfl,xF⟩,jW.2 ⟨by rw[rep];exact⟨rfl,I9⟩,EO⟩⟩⟩⟩⟩⟩⟩⟩⟩
theorem jD {Fitems Fcls Flevels:List Nat} (tu:(Lit.int .i64 x.kind).wf=true) (rA:own prog w (.sl (x.items.map Item.toD)) 35 Fitems [.slice hD hZ hE]) (kL:own prog w (.sl (x.parts.map Vec.toD)) 36 Fparts [.slice fj fq fm]) (lu:own prog w (.sl (x.names.map .s)) 25 Fnames [.slice fU fW fV]) (EH:own prog w (.sl (x.cls.map .s)) 25 Fcls [.slice mv mH mz]) (pf:own prog w (.sl (x.levels.map .s)) 25 Flevels [.slice gm gu gr]) (xF:(Lit.int .i64 x.code).wf=true) (I9:(Lit.int .i64 x.env).wf=true):own prog w x.toD 38 (Fitems++(Fparts++(Fnames++(Fcls++(Flevels++[]))))) [x.kind,.slice hD hZ hE,.slice fj fq fm,.slice fU fW fV,.slice mv mH mz,.slice gm gu gr,x.code,x.env]:=by rw[kF,own];exact⟨_,[[.int .i64 x.kind],[.slice hD hZ hE],[.slice fj fq fm],[.slice fU fW fV],[.slice mv mH mz],[.slice gm gu gr],[.int .i64 x.code],[.int .i64 x.env]],underlying38,rfl,(fg (F1:=[]) (by rw[own];exact⟨rfl,rfl,tu⟩) (fg rA (fg kL (fg lu (fg EH (fg pf (fg (F1:=[]) (by rw[own];exact⟨rfl,rfl,xF⟩) (fg (F1:=[]) (by rw[own];exact⟨rfl,rfl,I9⟩) p_))))))))⟩
theorem my (h:rep w B (.sl (l.map Vec.toD)) [.slice A n c]) (hk:k<n):
 ∃(b off:Nat) (x:Vec) (hD:Option Addr) (hZ:Nat) (hE:Nat) (fj:Option Addr) (fq:Nat) (fm:Nat) (fU:Option Addr) (fW:Nat) (fV:Nat) (mv:Option Addr) (mH:Nat) (mz:Nat) (gm:Option Addr) (gu:Nat) (gr:Nat),A=some ⟨b,off,none⟩/\b<B/\l[k]?=some x/\rep w B x.toD [x.kind,.slice hD hZ hE,.slice fj fq fm,.slice fU fW fV,.slice mv mH mz,.slice gm gu gr,x.code,x.env]/\w.cell? ⟨b,off+k*8,none⟩=some (.int .i64 x.kind)/\w.cell? ⟨b,off+k*8+1,none⟩=some (.slice hD hZ hE)/\w.cell? ⟨b,off+k*8+2,none⟩=some (.slice fj fq fm)/\w.cell? ⟨b,off+k*8+3,none⟩=some (.slice fU fW fV)/\w.cell? ⟨b,off+k*8+4,none⟩=some (.slice mv mH mz)/\w.cell? ⟨b,off+k*8+5,none⟩=some (.slice gm gu gr)/\w.cell? ⟨b,off+k*8+6,none⟩=some (.int .i64 x.code)/\w.cell? ⟨b,off+k*8+7,none⟩=some (.int .i64 x.env):=by
 obtain⟨b,off,x,cs,e,hb,hx,hr,hc⟩:=Rp h hk;obtain⟨hD,hZ,hE,fj,fq,fm,fU,fW,fV,mv,mH,mz,gm,gu,gr,rfl,_⟩:=fw hr;exact⟨b,off,x,hD,hZ,hE,fj,fq,fm,fU,fW,fV,mv,mH,mz,gm,gu,gr,e,hb,hx,hr,hc 0 _ rfl,hc 1 _ rfl,hc 2 _ rfl,hc 3 _ rfl,hc 4 _ rfl,hc 5 _ rfl,hc 6 _ rfl,hc 7 _ rfl⟩
theorem iH {P:Vec->Prop} (h:∀v,(∀y∈v.parts,P y)->P v):∀v,P v:=by
 have iU:∀(n:Nat) (v:Vec),SizeOf.sizeOf v<=n->P v:=by
  intro n
  induction n with
  |zero=>intro v hv;cases v;simp at hv
  |succ n ih=>
   intro v hv;refine h v λy hy=>ih y ?_
   cases v;have h1:=List.sizeOf_lt_of_mem hy;simp at hv h1;omega
 exact λv=>iU _ v (af _)
theorem go (x:Vec):szD x.toD=szD (.sl (x.items.map Item.toD))+(szD (.sl (x.parts.map Vec.toD))+(szD (.sl (x.names.map .s))+(szD (.sl (x.cls.map .s))+(szD (.sl (x.levels.map .s)))))):=by rw[kF];simp only[szD,gv];omega
def tF (x:Vec):Prop:=∀(cs:List Value) (n:Int) (w:World),rep w w.heap.size x.toD cs->0<=n->n<=1048576->Calls prog 86 #[.agg cs.toArray,n] w λe w'=>e= .returned (.int .i64 (jQ (szD x.toD) n))/\Below w.heap.size w w'
theorem LM (l:List Vec) (ih:∀x∈l,tF x) (A:Option Addr) (len cap:Nat) (n:Int) (w:World) (h:rep w w.heap.size (.sl (l.map Vec.toD)) [.slice A len cap]) (h0:0<=n) (h1:n<=1048576):
 Calls prog 142 #[.slice A len cap,n] w λe w'=>e= .returned (.int .i64 (jQ (szD (.sl (l.map Vec.toD))) n))/\Below w.heap.size w w':=by
 obtain⟨kO,hlc,sT⟩:=ef h;unfold maxLen at sT;rw[au]at kO;rw[szD,au,kO];by_cases hn:n<len
 ·clear kO;go_enter func142,ntmps142;go_wp2_with fail;go_ret;exact⟨eZ (by rw[Eg dP]),Below.refl _ _⟩
 ·have hd:decide (n - (len:Int)<0)=false:=dS;have HL:=aa kO;have HI:=aa ih;clear kO ih;go_enter func142,ntmps142;go_wp2_with fail;go_loopw [1,5] (λm i wr=>∃k:Nat,k<=len/\i= .int .i64 k/\m= .int .i64 (n - len - gv ((l.take k).map Vec.toD))/\(len+gv ((l.take k).map Vec.toD):Int)<=n/\Below w.heap.size w wr) (λ_ i _=>len - (intOf i).toNat)
  case atStart=>exact⟨0,by omega,rfl,by simp [gv],by simp [gv];omega,Below.refl _ _⟩
  case round=>
   obtain⟨k,hk,rfl,rfl,hle,hb⟩:=hrel;by_cases hlt:k<len
   ·obtain⟨b,off,x,hD,hZ,hE,fj,fq,fm,fU,fW,fV,mv,mH,mz,gm,gu,gr,rfl,gD,hx,fE,xO,hc1,hc2,hc3,hc4,Jx,Wx,Wy⟩:=my (fF h hb) hlt;have HT:=aa (Be (f:=Vec.toD) hx);have HU:=aa (LK (f:=Vec.toD) l (k+1));have HM:=aa (aA hx);clear hx;obtain⟨q,hq⟩:∃q:Nat,q=gv ((l.take k).map Vec.toD):=⟨_,rfl⟩;rw[<-hq]at hle ⊢;have HQ:=aa hq;clear hq;go_wp2_with fail;refine(HI.out x HM.out _ _ _ (gY fE hb.size) dP dP).mono ?_;rintro e w1 ⟨rfl,hb1⟩;have ZA:(len+q:Int)+szD x.toD<=n->jQ (szD x.toD) (n - len - q)=n - len - ((q+szD x.toD:Nat):Int):=λh=>by rw[l8 dP];omega
    have Y_:=aa ZA;clear ZA;by_cases WD:(len+q:Int)+szD x.toD<=n
    ·have It:decide (jQ (szD x.toD) (n - len - q)<0)=false:=by rw[Y_.out WD];simp;omega
     go_wp2_with fail;go_roundw
     case rel=>exact⟨k+1,by omega,by go_num,by rw[Y_.out WD,HT.out,<-HQ.out],by rw[HT.out,<-HQ.out];omega,ij hb hb1⟩
     case measure=>simp [intOf];omega
    ·exact yw
   ·exact yx
theorem Od (x:Vec) (ih:∀y∈x.parts,tF y):tF x:=by
 intro cs n w h h0 h1;have kD:=go x;obtain⟨hD,hZ,hE,fj,fq,fm,fU,fW,fV,mv,mH,mz,gm,gu,gr,rfl,tu,rA,kL,lu,EH,pf,xF,I9⟩:=fw h;have q0:=(Below.refl w.heap.size w).alloc (af _) (.cells #[x.kind,.slice hD hZ hE,.slice fj fq fm,.slice fU fW fV,.slice mv mH mz,.slice gm gu gr,x.code,x.env] 63);have Cd:=aa kD;clear kD;go_enter func86,ntmps86;go_wp2_with fail;refine(Oc x.items _ _ _ _ _ (fb rA q0 q0.size) dP dP).mono ?_;rintro e w1 ⟨rfl,b1⟩;obtain⟨hc1,_⟩:=fY b1;have z1:=b1.size
 (try simp only[dT]at hc1 z1)
 have y1:w.heap.size<w1.heap.size:=dP;have q1:=ij q0 b1;by_cases g0:jQ (szD (.sl (x.items.map Item.toD))) n<0
 ·have Xq:n<((szD (.sl (x.items.map Item.toD)):Nat):Int):=oy;go_wp2_with fail;go_ret;exact⟨eZ mo,q1⟩
 have Xq:((szD (.sl (x.items.map Item.toD)):Nat):Int)<=n:=oy;have e0:jQ (szD (.sl (x.items.map Item.toD))) n=n - ((szD (.sl (x.items.map Item.toD)):Nat):Int):=l8 Xq;obtain⟨m0,Pt⟩:∃m:Int,m=jQ (szD (.sl (x.items.map Item.toD))) n:=⟨_,rfl⟩;rw[<-Pt]at g0 e0 ⊢;have E0:=aa e0;have M0:=aa Pt;have le0:0<=m0/\m0<=n:=dP;clear e0 Pt;skip;go_wp2_with fail;refine(LM x.parts ih _ _ _ _ _ (fb kL q1 q1.size) dP dP).mono ?_;rintro e w2 ⟨rfl,b2⟩;obtain⟨hc2,_⟩:=fY b2;have z2:=b2.size
 (try simp only[dT]at hc2 z2)
 have y2:w.heap.size<w2.heap.size:=dP;have q2:=ij q1 b2;by_cases g1:jQ (szD (.sl (x.parts.map Vec.toD))) m0<0
 ·have Xr:m0<((szD (.sl (x.parts.map Vec.toD)):Nat):Int):=og;go_wp2_with fail;go_ret;exact⟨eZ wy,q2⟩
 have Xr:((szD (.sl (x.parts.map Vec.toD)):Nat):Int)<=m0:=og;have e1:jQ (szD (.sl (x.parts.map Vec.toD))) m0=m0 - ((szD (.sl (x.parts.map Vec.toD)):Nat):Int):=l8 Xr;obtain⟨m1,DJ⟩:∃m:Int,m=jQ (szD (.sl (x.parts.map Vec.toD))) m0:=⟨_,rfl⟩;rw[<-DJ]at g1 e1 ⊢;have E1:=aa e1;have M1:=aa DJ;have le1:0<=m1/\m1<=m0:=dP;clear e1 DJ;skip;go_wp2_with fail;refine(r8 x.names _ _ _ _ _ (fb lu q2 q2.size) dP dP).mono ?_;rintro e w3 ⟨rfl,b3⟩;obtain⟨hc3,_⟩:=fY b3;have z3:=b3.size
 (try simp only[dT]at hc3 z3)
 have y3:w.heap.size<w3.heap.size:=dP;have q3:=ij q2 b3;by_cases g2:jQ (szD (.sl (x.names.map .s))) m1<0
 ·have Xs:m1<((szD (.sl (x.names.map .s)):Nat):Int):=n9;go_wp2_with fail;go_ret;exact⟨eZ (by rw[Cd.out,jQ,aH wB]),q3⟩
 have Xs:((szD (.sl (x.names.map .s)):Nat):Int)<=m1:=n9;have e2:jQ (szD (.sl (x.names.map .s))) m1=m1 - ((szD (.sl (x.names.map .s)):Nat):Int):=l8 Xs;obtain⟨m2,DK⟩:∃m:Int,m=jQ (szD (.sl (x.names.map .s))) m1:=⟨_,rfl⟩;rw[<-DK]at g2 e2 ⊢;have E2:=aa e2;have M2:=aa DK;have le2:0<=m2/\m2<=m1:=dP;clear e2 DK;skip;go_wp2_with fail;refine(r8 x.cls _ _ _ _ _ (fb EH q3 q3.size) dP dP).mono ?_;rintro e w4 ⟨rfl,b4⟩;obtain⟨hc4,_⟩:=fY b4;have z4:=b4.size
 (try simp only[dT]at hc4 z4)
 have y4:w.heap.size<w4.heap.size:=dP;have q4:=ij q3 b4;by_cases g3:jQ (szD (.sl (x.cls.map .s))) m2<0
 ·have g3':m2<((szD (.sl (x.cls.map .s)):Nat):Int):=by unfold jQ at g3;split at g3<;>omega
  go_wp2_with fail;go_ret;exact⟨eZ (by rw[Cd.out,jQ,aH (by have:=E0.out;have:=E1.out;have:=E2.out;omega)]),q4⟩
 have g3':((szD (.sl (x.cls.map .s)):Nat):Int)<=m2:=by unfold jQ at g3;split at g3<;>omega
 have e3:jQ (szD (.sl (x.cls.map .s))) m2=m2 - ((szD (.sl (x.cls.map .s)):Nat):Int):=l8 g3';obtain⟨m3,hm3⟩:∃m:Int,m=jQ (szD (.sl (x.cls.map .s))) m2:=⟨_,rfl⟩;rw[<-hm3]at g3 e3 ⊢;have E3:=aa e3;have M3:=aa hm3;have le3:0<=m3/\m3<=m2:=dP;clear e3 hm3;skip;go_wp2_with fail;refine(r8 x.levels _ _ _ _ _ (fb pf q4 q4.size) dP dP).mono ?_;rintro e w5 ⟨rfl,b5⟩;obtain⟨Jx,_⟩:=fY b5;have z5:=b5.size
 (try simp only[dT]at Jx z5)
 have y5:w.heap.size<w5.heap.size:=dP;have q5:=ij q4 b5;by_cases g4:jQ (szD (.sl (x.levels.map .s))) m3<0
 ·have g4':m3<((szD (.sl (x.levels.map .s)):Nat):Int):=by unfold jQ at g4;split at g4<;>omega
  go_wp2_with fail;go_ret;exact⟨eZ (by rw[Cd.out,jQ,aH (by have:=E0.out;have:=E1.out;have:=E2.out;have:=E3.out;omega)]),q5⟩
 have g4':((szD (.sl (x.levels.map .s)):Nat):Int)<=m3:=by unfold jQ at g4;split at g4<;>omega
 have e4:jQ (szD (.sl (x.levels.map .s))) m3=m3 - ((szD (.sl (x.levels.map .s)):Nat):Int):=l8 g4';obtain⟨m4,hm4⟩:∃m:Int,m=jQ (szD (.sl (x.levels.map .s))) m3:=⟨_,rfl⟩;rw[<-hm4]at g4 e4 ⊢;have E4:=aa e4;have M4:=aa hm4;have le4:0<=m4/\m4<=m3:=dP;clear e4 hm4;skip;go_wp2_with fail;go_ret;exact⟨eZ (by rw[Cd.out,jQ,aN (by have:=E0.out;have:=E1.out;have:=E2.out;have:=E3.out;have:=E4.out;omega)]<;>(have:=E0.out;have:=E1.out;have:=E2.out;have:=E3.out;have:=E4.out;omega)),q5⟩
theorem Au:∀x:Vec,tF x:=iH Od
def tG (x:Vec):Prop:=∀(cs:List Value) (w:World),rep w w.heap.size x.toD cs->szD x.toD<=1048576->Calls prog 90 #[.agg cs.toArray] w (gM x.toD 38 w)
theorem De:(prog.info? 38).map (λi=>(i.zero,i.size,i.bytes))=some (some (.agg #[.int .i64 0,(),(),(),(),(),.int .i64 0,.int .i64 0]),8,144):=dU
theorem LO (l:List Vec) (ih:∀x∈l,tG x) (A:Option Addr) (len cap:Nat) (w:World) (h:rep w w.heap.size (.sl (l.map Vec.toD)) [.slice A len cap]) (hz:szD (.sl (l.map Vec.toD))<=1048576):
 Calls prog 145 #[.slice A len cap] w (oK (l.map Vec.toD) 36 w):=by
 obtain⟨kO,hlc,sT⟩:=ef h;rw[au]at kO;rw[szD,au,kO]at hz;obtain⟨i0,DI,rJ,tW,hz2⟩:=cZ De;have xx:=λW=>iw (P:=prog) 36 38 i0 _ underlying36 DI rJ .i64 .i64 len len (af _) jj dP W
 rw[tW]at xx;have HL:=aa kO;have HI:=aa ih;clear kO ih;go_enter func145,ntmps145;go_wp2_with fail;clear xx;go_loopw [4] (λi wr=>∃(k:Nat) (fB:List (Row 8)) (G:List Nat),k<=len/\i= .int .i64 k/\fB.length=k/\Fil wr w.heap.size 38 (len*8) (k*8) (fB.flatMap Row.v)/\iv prog wr ((l.take k).map Vec.toD) 38 G (fB.map Row.v)/\Fresh (w.heap.size+1) G/\Below w.heap.size w wr) (λi _=>len - (intOf i).toNat)
 case atStart=>exact⟨0,[],[],by omega,rfl,rfl,by simpa using Fil.start w 38 (madeCells #[.int .i64 0,(),(),(),(),(),.int .i64 0,.int .i64 0] (len*8)) (len*8) (size_madeCells _ _),by rw[cL,bL,iv];exact⟨rfl,rfl⟩,Fresh.nil,(Below.refl _ _).alloc (af _) _⟩
 case round=>
  obtain⟨k,fB,G,hk,rfl,ZG,hf,ho,hG,hb⟩:=hrel;have Za:=aa ZG;clear ZG;by_cases hlt:k<len
  ·obtain⟨b,off,x,hD,hZ,hE,fj,fq,fm,fU,fW,fV,mv,mH,mz,gm,gu,gr,rfl,gD,hx,fE,xO,hc1,hc2,hc3,hc4,Jx,Wx,Wy⟩:=my (fF h hb) hlt;have HX:=aa (eJ hx);have HM:=aa (aA hx);have OB:szD x.toD<=1048576:=by have:=rC (dt (f:=Vec.toD) HM.out);omega
   clear hx;go_wp2_with fail;refine(HI.out x HM.out _ _ (gY fE hb.size) OB).mono ?_;rintro e w1 ⟨cs1,G1,rfl,Hz,Cf,hb1⟩;obtain⟨zC,zG,zE,oQ,oT,oR,zD,zH,zF,MQ,MT,MR,vf,vh,vg,rfl,_⟩:=fw (eW _ _ _ _ Hz);have hf1:=hf.next hb1;have AR:=hf.lt;obtain⟨u0,hu0⟩:=hf1.cell (k*8) dP;have rJ:=hf1.frozen (k*8);obtain⟨u1,hu1⟩:=hf1.cell (k*8+1) dP;have tW:=hf1.frozen (k*8+1);obtain⟨u2,hu2⟩:=hf1.cell (k*8+2) dP;have hz2:=hf1.frozen (k*8+2);obtain⟨u3,hu3⟩:=hf1.cell (k*8+3) dP;have hz3:=hf1.frozen (k*8+3);obtain⟨u4,hu4⟩:=hf1.cell (k*8+4) dP;have hz4:=hf1.frozen (k*8+4);obtain⟨u5,hu5⟩:=hf1.cell (k*8+5) dP;have hz5:=hf1.frozen (k*8+5);obtain⟨u6,hu6⟩:=hf1.cell (k*8+6) dP;have hz6:=hf1.frozen (k*8+6);obtain⟨u7,hu7⟩:=hf1.cell (k*8+7) dP;have hz7:=hf1.frozen (k*8+7);go_wp2_with fail;have hfp:=((((((((hf1.put dP (.int .i64 x.kind)).put dP (.slice zC zG zE)).put dP (.slice oQ oT oR)).put dP (.slice zD zH zF)).put dP (.slice MQ MT MR)).put dP (.slice vf vh vg)).put dP (.int .i64 x.code)).put dP (.int .i64 x.env));have XE:=(((((((((hb.trans (hb1.mono hb.size)).setCell (p:=⟨w.heap.size,k*8,none⟩) (af _) (.int .i64 x.kind)).setCell (p:=⟨w.heap.size,k*8+1,none⟩) (af _) (.slice zC zG zE)).setCell (p:=⟨w.heap.size,k*8+2,none⟩) (af _) (.slice oQ oT oR)).setCell (p:=⟨w.heap.size,k*8+3,none⟩) (af _) (.slice zD zH zF)).setCell (p:=⟨w.heap.size,k*8+4,none⟩) (af _) (.slice MQ MT MR)).setCell (p:=⟨w.heap.size,k*8+5,none⟩) (af _) (.slice vf vh vg)).setCell (p:=⟨w.heap.size,k*8+6,none⟩) (af _) (.int .i64 x.code)).setCell (p:=⟨w.heap.size,k*8+7,none⟩) (af _) (.int .i64 x.env));have hnG:w.heap.size ∉ G++G1:=yd;have hoA:=s_ (xV ho hb1) Hz;have hoB:iv prog (((((((((w1.setCell ⟨w.heap.size,k*8,none⟩ (.int .i64 x.kind)).setCell ⟨w.heap.size,k*8+1,none⟩ (.slice zC zG zE)).setCell ⟨w.heap.size,k*8+2,none⟩ (.slice oQ oT oR)).setCell ⟨w.heap.size,k*8+3,none⟩ (.slice zD zH zF)).setCell ⟨w.heap.size,k*8+4,none⟩ (.slice MQ MT MR)).setCell ⟨w.heap.size,k*8+5,none⟩ (.slice vf vh vg)).setCell ⟨w.heap.size,k*8+6,none⟩ (.int .i64 x.code)).setCell ⟨w.heap.size,k*8+7,none⟩ (.int .i64 x.env))) ((l.take (k+1)).map Vec.toD) 38 (G++G1) (fB.map Row.v++[[.int .i64 x.kind,.slice zC zG zE,.slice oQ oT oR,.slice zD zH zF,.slice MQ MT MR,.slice vf vh vg,.int .i64 x.code,.int .i64 x.env]]):=mI _ _ _ _ (λg hg=>(pk fX (pk fX (pk fX (pk fX (pk fX (pk fX (pk fX (pk fX (rfl)))))))))) wb;go_roundw
   case rel=>
    exact⟨k+1,fB++[⟨[.int .i64 x.kind,.slice zC zG zE,.slice oQ oT oR,.slice zD zH zF,.slice MQ MT MR,.slice vf vh vg,.int .i64 x.code,.int .i64 x.env],rfl⟩],G++G1,by omega,by go_num,by simp [Za.out],by rw[cj,show (k+1)*8=k*8+8 by omega];simpa [Row.v]using hfp,by rw[aI];exact hoB,hG.app (qF _ _ _ _ ho) Cf dP,XE⟩
   case measure=>simp [intOf];omega
  ·obtain rfl:k=len:=dP;rw[aC ji]at ho;go_wp2_with fail;go_ret;refine⟨_,_,_,w.heap.size::G,rfl,?_,?_,hb⟩
   ·rw[own];exact⟨38,_,k,k,8,fB,G,underlying36,by kernel_rfl,rfl,by unfold maxLen;omega,hf.own Row.len Za.out (af _) eb (dj _),rfl,ho⟩
   ·exact yB
theorem Ok (x:Vec) (ih:∀y∈x.parts,tG y):tG x:=by
 intro cs w h hz;have kD:=go x;rw[kD]at hz;clear kD;obtain⟨hD,hZ,hE,fj,fq,fm,fU,fW,fV,mv,mH,mz,gm,gu,gr,rfl,tu,rA,kL,lu,EH,pf,xF,I9⟩:=fw h;go_enter func90,ntmps90;go_wp2_with fail;refine(Oj x.items _ _ _ _ (fb rA km fC) dP).mono ?_;rintro e w1 ⟨A1,n1,c1,G1,rfl,o1,AP,b1⟩;obtain⟨hc1,hf1⟩:=fY b1;have z1:=b1.size;simp only[dT,dX]at hc1 hf1 z1 AP;have q1:Below w.heap.size w w1:=Below.trans km (b1.mono fC);have Wc:w.heap.size<w1.heap.size:=dP;have Wd:w.heap.size+1<w1.heap.size:=dP;have y1c:w.heap.size+1+1<w1.heap.size:=dP;go_wp2_with fail;refine(LO x.parts ih _ _ _ _ (fb kL mh fC) dP).mono ?_;rintro e w2 ⟨A2,n2,c2,G2,rfl,o2,fr2,b2⟩;obtain⟨hc2,hf2⟩:=fY b2;have z2:=b2.size;simp only[dT,dX]at hc2 hf2 z2 fr2;have q2:Below w.heap.size w w2:=Below.trans mh (b2.mono fC);have Z4:w.heap.size<w2.heap.size:=dP;have Z5:w.heap.size+1<w2.heap.size:=dP;have y2c:w.heap.size+1+1<w2.heap.size:=dP;go_wp2_with fail;refine(r9 x.names _ _ _ _ (fb lu qi fC) dP).mono ?_;rintro e w3 ⟨A3,n3,c3,G3,rfl,o3,fr3,b3⟩;obtain⟨hc3,hf3⟩:=fY b3;have z3:=b3.size;simp only[dT,dX]at hc3 hf3 z3 fr3;have q3:Below w.heap.size w w3:=Below.trans qi (b3.mono fC);have y3a:w.heap.size<w3.heap.size:=dP;have y3b:w.heap.size+1<w3.heap.size:=dP;have y3c:w.heap.size+1+1<w3.heap.size:=dP;go_wp2_with fail;refine(r9 x.cls _ _ _ _ (fb EH wA fC) dP).mono ?_;rintro e w4 ⟨A4,n4,c4,G4,rfl,o4,fr4,b4⟩;obtain⟨hc4,hf4⟩:=fY b4;have z4:=b4.size;simp only[dT,dX]at hc4 hf4 z4 fr4;have q4:Below w.heap.size w w4:=Below.trans wA (b4.mono fC);have y4a:w.heap.size<w4.heap.size:=dP;have y4b:w.heap.size+1<w4.heap.size:=dP;have y4c:w.heap.size+1+1<w4.heap.size:=dP;go_wp2_with fail;refine(r9 x.levels _ _ _ _ (fb pf B_ fC) dP).mono ?_;rintro e w5 ⟨A5,n5,c5,G5,rfl,o5,fr5,b5⟩;obtain⟨Jx,hf5⟩:=fY b5;have z5:=b5.size;simp only[dT,dX]at Jx hf5 z5 fr5;have q5:Below w.heap.size w w5:=Below.trans B_ (b5.mono fC);have y5a:w.heap.size<w5.heap.size:=dP;have y5b:w.heap.size+1<w5.heap.size:=dP;have y5c:w.heap.size+1+1<w5.heap.size:=dP;go_wp2_with fail;skip;refine bM (v:= .agg #[x.kind,.slice A1 n1 c1,.slice A2 n2 c2,.slice A3 n3 c3,.slice A4 n4 c4,.slice A5 n5 c5,x.code,x.env]) (by simp [results,results90,go_sem,hc1,hc2,hc3,hc4,Jx,Wc,Wd,y1c,Z4,Z5,y2c,y3a,y3b,y3c,y4a,y4b,y4c,y5a,y5b,y5c]) rfl ⟨_,G1++(G2++(G3++(G4++(G5++[])))),rfl,?_,?_,?_⟩
 ·refine jD tu ?_ ?_ ?_ ?_ ?_ xF I9
  ·repeat'(first|with_reducible exact o1|refine lG ?_ ?_ _|refine em ?_ b2|refine em ?_ b3|refine em ?_ b4|refine em ?_ b5|(exact AP.notin jh))
  ·repeat'(first|with_reducible exact o2|refine lG ?_ ?_ _|refine em ?_ b3|refine em ?_ b4|refine em ?_ b5|(exact fr2.notin jh))
  ·repeat'(first|with_reducible exact o3|refine lG ?_ ?_ _|refine em ?_ b4|refine em ?_ b5|(exact fr3.notin jh))
  ·repeat'(first|with_reducible exact o4|refine lG ?_ ?_ _|refine em ?_ b5|(exact fr4.notin jh))
  ·repeat'(first|with_reducible exact o5|refine lG ?_ ?_ _|(exact fr5.notin jh))
 ·have k0:Fresh w5.heap.size []:=Fresh.nil;have j5:=Fresh.app fr5 (jT _ _ _ _ o5) k0 dP;have j4:=Fresh.app fr4 (jT _ _ _ _ o4) j5 dP;have j3:=Fresh.app fr3 (jT _ _ _ _ o3) j4 dP;have j2:=Fresh.app fr2 (jT _ _ _ _ o2) j3 dP;have j1:=Fresh.app AP (jT _ _ _ _ o1) j2 dP;exact j1.mono dP
 ·exact(by repeat'(first|with_reducible exact q5|refine Below.setCell ?_ ?_ _|refine Below.alloc ?_ ?_ _|((try simp only[dT,dX]);omega)))
theorem Ay:∀x:Vec,tG x:=iH Ok
def tE (x:Vec):Prop:=∀(cs cs':List Value) (w:World),rep w w.heap.size x.toD cs->rep w w.heap.size x.toD cs'->Calls prog 91 #[.agg cs.toArray,.agg cs'.toArray] w λe w'=>e= .returned (.bool true)/\Below w.heap.size w w'
theorem KR (l:List Vec) (ih:∀x∈l,tE x) (A A':Option Addr) (n n' c c':Nat) (w:World) (h:rep w w.heap.size (.sl (l.map Vec.toD)) [.slice A n c]) (h':rep w w.heap.size (.sl (l.map Vec.toD)) [.slice A' n' c']):
 Calls prog 147 #[.slice A n c,.slice A' n' c'] w λe w'=>e= .returned (.bool true)/\Below w.heap.size w w':=by
 obtain⟨kO,hlc,sT⟩:=ef h;obtain⟨Nf,adU,adD⟩:=ef h';rw[au]at kO Nf;obtain rfl:n'=n:=dP;have hd:((n':Int) != (n':Int))=false:=dR;unfold maxLen at sT;have HI:=aa ih;clear kO Nf ih;go_enter func147,ntmps147;go_wp2_with fail;go_loopw [5] (λi wr=>∃(k:Nat),k<=n'/\i= .int .i64 k/\Below w.heap.size w wr) (λi _=>n' - (intOf i).toNat)
 case atStart=>exact⟨0,by omega,rfl,Below.refl _ _⟩
 case round=>
  obtain⟨k,hk,rfl,hb⟩:=hrel;by_cases hlt:k<n'
  ·obtain⟨b,off,x,hD,hZ,hE,fj,fq,fm,fU,fW,fV,mv,mH,mz,gm,gu,gr,rfl,gD,hx,fE,xO,hc1,hc2,hc3,hc4,Jx,Wx,Wy⟩:=my (fF h hb) hlt;obtain⟨b',qv,x',Km,Lp,KI,tA,ud,tK,yW,zU,zm,TK,Vl,T3,CV,Et,Dq,rfl,XC,qD,UH,Hy,Jy,It,hd3,hd4,hd5,hd6,hd7⟩:=my (fF h' hb) hlt;obtain rfl:x=x':=by rw[hx]at qD;injection qD
   have HM:=aa (aA hx);clear hx qD;have i1:(0:Int)<=(k:Int):=dP;have i2:(k:Int)<(n':Int):=dP;have uK:b<wr.heap.size:=od;have rh:b'<wr.heap.size:=od;have WE:=gY fE hb.size;have TA:=gY UH hb.size;go_wp2_with fail;go_region_held3 (λW=>(W.cell? ⟨b,off+k*8,none⟩=some (.int .i64 x.kind)/\W.cell? ⟨b,off+k*8+1,none⟩=some (.slice hD hZ hE)/\W.cell? ⟨b,off+k*8+2,none⟩=some (.slice fj fq fm)/\W.cell? ⟨b,off+k*8+3,none⟩=some (.slice fU fW fV)/\W.cell? ⟨b,off+k*8+4,none⟩=some (.slice mv mH mz)/\W.cell? ⟨b,off+k*8+5,none⟩=some (.slice gm gu gr)/\W.cell? ⟨b,off+k*8+6,none⟩=some (.int .i64 x.code)/\W.cell? ⟨b,off+k*8+7,none⟩=some (.int .i64 x.env))/\(W.cell? ⟨b',qv+k*8,none⟩=some (.int .i64 x.kind)/\W.cell? ⟨b',qv+k*8+1,none⟩=some (.slice Km Lp KI)/\W.cell? ⟨b',qv+k*8+2,none⟩=some (.slice tA ud tK)/\W.cell? ⟨b',qv+k*8+3,none⟩=some (.slice yW zU zm)/\W.cell? ⟨b',qv+k*8+4,none⟩=some (.slice TK Vl T3)/\W.cell? ⟨b',qv+k*8+5,none⟩=some (.slice CV Et Dq)/\W.cell? ⟨b',qv+k*8+6,none⟩=some (.int .i64 x.code)/\W.cell? ⟨b',qv+k*8+7,none⟩=some (.int .i64 x.env)))
    (first|exact⟨⟨xO,hc1,hc2,hc3,hc4,Jx,Wx,Wy⟩,⟨Hy,Jy,It,hd3,hd4,hd5,hd6,hd7⟩⟩|exact⟨⟨(hb1.cell uK).trans xO,(hb1.cell uK).trans hc1,(hb1.cell uK).trans hc2,(hb1.cell uK).trans hc3,(hb1.cell uK).trans hc4,(hb1.cell uK).trans Jx,(hb1.cell uK).trans Wx,(hb1.cell uK).trans Wy⟩,⟨(hb1.cell rh).trans Hy,(hb1.cell rh).trans Jy,(hb1.cell rh).trans It,(hb1.cell rh).trans hd3,(hb1.cell rh).trans hd4,(hb1.cell rh).trans hd5,(hb1.cell rh).trans hd6,(hb1.cell rh).trans hd7⟩⟩)
    (first|(go_at_call 91;refine(HI.out x HM.out _ _ _ wC wD).mono ?_;rintro e w1 ⟨rfl,hb1⟩))
   go_wp2_with fail;go_roundw
   case rel=>exact⟨k+1,by omega,by go_num,ij hb.drew hb1⟩
   case measure=>simp [intOf];omega
  ·exact yJ
theorem MI (x:Vec) (ih:∀y∈x.parts,tE y):tE x:=by
 intro cs cs' w h h';obtain⟨hD,hZ,hE,fj,fq,fm,fU,fW,fV,mv,mH,mz,gm,gu,gr,rfl,tu,rA,kL,lu,EH,pf,xF,I9⟩:=fw h;obtain⟨Km,Lp,KI,tA,ud,tK,yW,zU,zm,TK,Vl,T3,CV,Et,Dq,rfl,ach,YO,LD,LC,aeT,VW,aiu,akH⟩:=fw h';have aev:(x.kind != x.kind)=false:=dR;have aj7:(x.code != x.code)=false:=dR;have ienv:(x.env != x.env)=false:=dR;have q0:=((Below.refl w.heap.size w).alloc (af _) (.cells #[x.kind,.slice hD hZ hE,.slice fj fq fm,.slice fU fW fV,.slice mv mH mz,.slice gm gu gr,x.code,x.env] 38)).alloc eA (.cells #[x.kind,.slice Km Lp KI,.slice tA ud tK,.slice yW zU zm,.slice TK Vl T3,.slice CV Et Dq,x.code,x.env] 38);go_enter func91,ntmps91;go_wp2_with fail;refine(MH x.items _ _ _ _ _ _ _ (fb rA q0 q0.size) (fb YO q0 q0.size)).mono ?_;rintro e w1 ⟨rfl,b1⟩;obtain⟨hc1,_⟩:=fY b1;have z1:=b1.size
 (try simp only[dT]at hc1 z1)
 have Wc:w.heap.size<w1.heap.size:=dP;have Wd:w.heap.size+1<w1.heap.size:=dP;have q1:=ij q0 b1;go_wp2_with fail;refine(KR x.parts ih _ _ _ _ _ _ _ (fb kL q1 q1.size) (fb LD q1 q1.size)).mono ?_;rintro e w2 ⟨rfl,b2⟩;obtain⟨hc2,_⟩:=fY b2;have z2:=b2.size
 (try simp only[dT]at hc2 z2)
 have Z4:w.heap.size<w2.heap.size:=dP;have Z5:w.heap.size+1<w2.heap.size:=dP;have q2:=ij q1 b2;go_wp2_with fail;refine(rQ x.names _ _ _ _ _ _ _ (fb lu q2 q2.size) (fb LC q2 q2.size)).mono ?_;rintro e w3 ⟨rfl,b3⟩;obtain⟨hc3,_⟩:=fY b3;have z3:=b3.size
 (try simp only[dT]at hc3 z3)
 have y3a:w.heap.size<w3.heap.size:=dP;have y3b:w.heap.size+1<w3.heap.size:=dP;have q3:=ij q2 b3;go_wp2_with fail;refine(rQ x.cls _ _ _ _ _ _ _ (fb EH q3 q3.size) (fb aeT q3 q3.size)).mono ?_;rintro e w4 ⟨rfl,b4⟩;obtain⟨hc4,_⟩:=fY b4;have z4:=b4.size
 (try simp only[dT]at hc4 z4)
 have y4a:w.heap.size<w4.heap.size:=dP;have y4b:w.heap.size+1<w4.heap.size:=dP;have q4:=ij q3 b4;go_wp2_with fail;refine(rQ x.levels _ _ _ _ _ _ _ (fb pf q4 q4.size) (fb VW q4 q4.size)).mono ?_;rintro e w5 ⟨rfl,b5⟩;obtain⟨Jx,_⟩:=fY b5;have z5:=b5.size
 (try simp only[dT]at Jx z5)
 have y5a:w.heap.size<w5.heap.size:=dP;have y5b:w.heap.size+1<w5.heap.size:=dP;have q5:=ij q4 b5;go_wp2_with fail;go_ret;exact⟨rfl,q5⟩
theorem zv:∀x:Vec,tE x:=iH MI
structure Cel where
 count:Int
 value:Vec
 parts:List Int
def Cel.toD (x:Cel):D:= .st [.i .i64 x.count,x.value.toD,.sl (x.parts.map (.i .i64))]
theorem m7 (x:Cel):x.toD= .st [.i .i64 x.count,x.value.toD,.sl (x.parts.map (.i .i64))]:=qf
theorem i8 {x:Cel} (h:rep w B x.toD cs):∃(eL:Option Addr) (eS:Nat) (eO:Nat) (eN:Option Addr) (eU:Nat) (eQ:Nat) (eM:Option Addr) (eT:Nat) (eP:Nat) (fh:Option Addr) (fo:Nat) (fk:Nat) (eD:Option Addr) (eF:Nat) (eE:Nat) (fj:Option Addr) (fq:Nat) (fm:Nat),cs=[.int .i64 x.count,.int .i64 x.value.kind,.slice eL eS eO,.slice eN eU eQ,.slice eM eT eP,.slice fh fo fk,.slice eD eF eE,.int .i64 x.value.code,.int .i64 x.value.env,.slice fj fq fm]/\(Lit.int .i64 x.count).wf=true/\rep w B x.value.toD [x.value.kind,.slice eL eS eO,.slice eN eU eQ,.slice eM eT eP,.slice fh fo fk,.slice eD eF eE,x.value.code,x.value.env]/\rep w B (.sl (x.parts.map (.i .i64))) [.slice fj fq fm]:=by rw[m7,rep]at h;obtain⟨css,rfl,h⟩:=h;rw[gb]at h;obtain⟨c0,css,rfl,k0,h⟩:=h;rw[gb]at h;obtain⟨c1,css,rfl,k1,h⟩:=h;rw[gb]at h;obtain⟨c2,css,rfl,k2,h⟩:=h;rw[gb]at h;subst h;rw[rep]at k0;obtain⟨rfl,k0⟩:=k0;obtain⟨Ff,Ft,Fj,Fh,Fv,Fm,Fg,Fu,Fk,LR,LU,LT,Ck,Co,Cm,rfl,_⟩:=fw k1;obtain⟨A2,n2,d2,rfl⟩:=fD k2;exact⟨Ff,Ft,Fj,Fh,Fv,Fm,Fg,Fu,Fk,LR,LU,LT,Ck,Co,Cm,A2,n2,d2,rfl,k0,k1,k2⟩
theorem uO {x:Cel} {eL:Option Addr} {eS:Nat} {eO:Nat} {eN:Option Addr} {eU:Nat} {eQ:Nat} {eM:Option Addr} {eT:Nat} {eP:Nat} {fh:Option Addr} {fo:Nat} {fk:Nat} {eD:Option Addr} {eF:Nat} {eE:Nat}{Fvalue:List Nat} (FJ:(Lit.int .i64 x.count).wf=true) (me:own prog w (x.value.toD) 38 Fvalue [x.value.kind,.slice eL eS eO,.slice eN eU eQ,.slice eM eT eP,.slice fh fo fk,.slice eD eF eE,x.value.code,x.value.env]) (kL:own prog w (.sl (x.parts.map (.i .i64))) 26 Fparts [.slice fj fq fm]):own prog w x.toD 43 (Fvalue++(Fparts++[])) [x.count,x.value.kind,.slice eL eS eO,.slice eN eU eQ,.slice eM eT eP,.slice fh fo fk,.slice eD eF eE,x.value.code,x.value.env,.slice fj fq fm]:=by rw[m7,own];exact⟨_,[[.int .i64 x.count],[.int .i64 x.value.kind,.slice eL eS eO,.slice eN eU eQ,.slice eM eT eP,.slice fh fo fk,.slice eD eF eE,.int .i64 x.value.code,.int .i64 x.value.env],[.slice fj fq fm]],underlying43,rfl,(fg (F1:=[]) (by rw[own];exact⟨rfl,rfl,FJ⟩) (fg me (fg kL p_)))⟩
theorem lm {l:List Cel} (h:rep w B (.sl (l.map Cel.toD)) [.slice A n c]) (hk:k<n):
 ∃(b off:Nat) (x:Cel) (eL:Option Addr) (eS:Nat) (eO:Nat) (eN:Option Addr) (eU:Nat) (eQ:Nat) (eM:Option Addr) (eT:Nat) (eP:Nat) (fh:Option Addr) (fo:Nat) (fk:Nat) (eD:Option Addr) (eF:Nat) (eE:Nat) (fj:Option Addr) (fq:Nat) (fm:Nat),A=some ⟨b,off,none⟩/\b<B/\l[k]?=some x/\rep w B x.toD [x.count,x.value.kind,.slice eL eS eO,.slice eN eU eQ,.slice eM eT eP,.slice fh fo fk,.slice eD eF eE,x.value.code,x.value.env,.slice fj fq fm]/\w.cell? ⟨b,off+k*10,none⟩=some (.int .i64 x.count)/\w.cell? ⟨b,off+k*10+1,none⟩=some (.int .i64 x.value.kind)/\w.cell? ⟨b,off+k*10+2,none⟩=some (.slice eL eS eO)/\w.cell? ⟨b,off+k*10+3,none⟩=some (.slice eN eU eQ)/\w.cell? ⟨b,off+k*10+4,none⟩=some (.slice eM eT eP)/\w.cell? ⟨b,off+k*10+5,none⟩=some (.slice fh fo fk)/\w.cell? ⟨b,off+k*10+6,none⟩=some (.slice eD eF eE)/\w.cell? ⟨b,off+k*10+7,none⟩=some (.int .i64 x.value.code)/\w.cell? ⟨b,off+k*10+8,none⟩=some (.int .i64 x.value.env)/\w.cell? ⟨b,off+k*10+9,none⟩=some (.slice fj fq fm):=by
 obtain⟨b,off,x,cs,e,hb,hx,hr,hc⟩:=Rp h hk;obtain⟨eL,eS,eO,eN,eU,eQ,eM,eT,eP,fh,fo,fk,eD,eF,eE,fj,fq,fm,rfl,_⟩:=i8 hr;exact⟨b,off,x,eL,eS,eO,eN,eU,eQ,eM,eT,eP,fh,fo,fk,eD,eF,eE,fj,fq,fm,e,hb,hx,hr,hc 0 _ rfl,hc 1 _ rfl,hc 2 _ rfl,hc 3 _ rfl,hc 4 _ rfl,hc 5 _ rfl,hc 6 _ rfl,hc 7 _ rfl,hc 8 _ rfl,hc 9 _ rfl⟩
theorem wF (x:Cel):szD x.toD=szD (x.value.toD)+(szD (.sl (x.parts.map (.i .i64)))):=by rw[m7];simp only[szD,gv];omega
def CZ (x:Cel):Prop:=∀(cs:List Value) (n:Int) (w:World),rep w w.heap.size x.toD cs->0<=n->n<=1048576->Calls prog 140 #[.agg cs.toArray,n] w λe w'=>e= .returned (.int .i64 (jQ (szD x.toD) n))/\Below w.heap.size w w'
theorem S_ (x:Cel):CZ x:=by
 intro cs n w h h0 h1;have kD:=wF x;obtain⟨eL,eS,eO,eN,eU,eQ,eM,eT,eP,fh,fo,fk,eD,eF,eE,fj,fq,fm,rfl,FJ,me,kL⟩:=i8 h;have q0:=(Below.refl w.heap.size w).alloc (af _) (.cells #[x.count,x.value.kind,.slice eL eS eO,.slice eN eU eQ,.slice eM eT eP,.slice fh fo fk,.slice eD eF eE,x.value.code,x.value.env,.slice fj fq fm] 150);have Cd:=aa kD;clear kD;go_enter func140,ntmps140;go_wp2_with fail;refine(Au x.value _ _ _ (fb me q0 q0.size) dP dP).mono ?_;rintro e w1 ⟨rfl,b1⟩;obtain⟨hc1,_⟩:=fY b1;have z1:=b1.size
 (try simp only[dT]at hc1 z1)
 have y1:w.heap.size<w1.heap.size:=dP;have q1:=ij q0 b1;by_cases g0:jQ (szD (x.value.toD)) n<0
 ·have Xq:n<((szD (x.value.toD):Nat):Int):=oy;go_wp2_with fail;go_ret;exact⟨eZ mo,q1⟩
 have Xq:((szD (x.value.toD):Nat):Int)<=n:=oy;have e0:jQ (szD (x.value.toD)) n=n - ((szD (x.value.toD):Nat):Int):=l8 Xq;obtain⟨m0,Pt⟩:∃m:Int,m=jQ (szD (x.value.toD)) n:=⟨_,rfl⟩;rw[<-Pt]at g0 e0 ⊢;have E0:=aa e0;have M0:=aa Pt;have le0:0<=m0/\m0<=n:=dP;clear e0 Pt;skip;go_wp2_with fail;refine(Ob x.parts _ _ _ _ _ (fb kL q1 q1.size) dP dP).mono ?_;rintro e w2 ⟨rfl,b2⟩;obtain⟨hc2,_⟩:=fY b2;have z2:=b2.size
 (try simp only[dT]at hc2 z2)
 have y2:w.heap.size<w2.heap.size:=dP;have q2:=ij q1 b2;by_cases g1:jQ (szD (.sl (x.parts.map (.i .i64)))) m0<0
 ·have Xr:m0<((szD (.sl (x.parts.map (.i .i64))):Nat):Int):=og;go_wp2_with fail;go_ret;exact⟨eZ wy,q2⟩
 have Xr:((szD (.sl (x.parts.map (.i .i64))):Nat):Int)<=m0:=og;have e1:jQ (szD (.sl (x.parts.map (.i .i64)))) m0=m0 - ((szD (.sl (x.parts.map (.i .i64))):Nat):Int):=l8 Xr;obtain⟨m1,DJ⟩:∃m:Int,m=jQ (szD (.sl (x.parts.map (.i .i64)))) m0:=⟨_,rfl⟩;rw[<-DJ]at g1 e1 ⊢;have E1:=aa e1;have M1:=aa DJ;have le1:0<=m1/\m1<=m0:=dP;clear e1 DJ;skip;go_wp2_with fail;go_ret;exact⟨eZ (by rw[Cd.out,jQ,aN wB]<;>(have:=E0.out;have:=E1.out;omega)),q2⟩
theorem Qc (l:List Cel) (ih:∀x∈l,CZ x) (A:Option Addr) (len cap:Nat) (n:Int) (w:World) (h:rep w w.heap.size (.sl (l.map Cel.toD)) [.slice A len cap]) (h0:0<=n) (h1:n<=1048576):
 Calls prog 83 #[.slice A len cap,n] w λe w'=>e= .returned (.int .i64 (jQ (szD (.sl (l.map Cel.toD))) n))/\Below w.heap.size w w':=by
 obtain⟨kO,hlc,sT⟩:=ef h;unfold maxLen at sT;rw[au]at kO;rw[szD,au,kO];by_cases hn:n<len
 ·clear kO;go_enter func83,ntmps83;go_wp2_with fail;go_ret;exact⟨eZ (by rw[Eg dP]),Below.refl _ _⟩
 ·have hd:decide (n - (len:Int)<0)=false:=dS;have HL:=aa kO;have HI:=aa ih;clear kO ih;go_enter func83,ntmps83;go_wp2_with fail;go_loopw [1,5] (λm i wr=>∃k:Nat,k<=len/\i= .int .i64 k/\m= .int .i64 (n - len - gv ((l.take k).map Cel.toD))/\(len+gv ((l.take k).map Cel.toD):Int)<=n/\Below w.heap.size w wr) (λ_ i _=>len - (intOf i).toNat)
  case atStart=>exact⟨0,by omega,rfl,by simp [gv],by simp [gv];omega,Below.refl _ _⟩
  case round=>
   obtain⟨k,hk,rfl,rfl,hle,hb⟩:=hrel;by_cases hlt:k<len
   ·obtain⟨b,off,x,eL,eS,eO,eN,eU,eQ,eM,eT,eP,fh,fo,fk,eD,eF,eE,fj,fq,fm,rfl,gD,hx,fE,xO,hc1,hc2,hc3,hc4,Jx,Wx,Wy,hc8,hc9⟩:=lm (fF h hb) hlt;have HT:=aa (Be (f:=Cel.toD) hx);have HU:=aa (LK (f:=Cel.toD) l (k+1));have HM:=aa (aA hx);clear hx;obtain⟨q,hq⟩:∃q:Nat,q=gv ((l.take k).map Cel.toD):=⟨_,rfl⟩;rw[<-hq]at hle ⊢;have HQ:=aa hq;clear hq;go_wp2_with fail;refine(HI.out x HM.out _ _ _ (gY fE hb.size) dP dP).mono ?_;rintro e w1 ⟨rfl,hb1⟩;have ZA:(len+q:Int)+szD x.toD<=n->jQ (szD x.toD) (n - len - q)=n - len - ((q+szD x.toD:Nat):Int):=λh=>by rw[l8 dP];omega
    have Y_:=aa ZA;clear ZA;by_cases WD:(len+q:Int)+szD x.toD<=n
    ·have It:decide (jQ (szD x.toD) (n - len - q)<0)=false:=by rw[Y_.out WD];simp;omega
     go_wp2_with fail;go_roundw
     case rel=>exact⟨k+1,by omega,by go_num,by rw[Y_.out WD,HT.out,<-HQ.out],by rw[HT.out,<-HQ.out];omega,ij hb hb1⟩
     case measure=>simp [intOf];omega
    ·exact yw
   ·exact yx
theorem Qd (x:Cel):CZ x:=S_ x
theorem N_ (l:List Cel) (A:Option Addr) (len cap:Nat) (n:Int) (w:World) (h:rep w w.heap.size (.sl (l.map Cel.toD)) [.slice A len cap]) (h0:0<=n) (h1:n<=1048576):
 Calls prog 83 #[.slice A len cap,n] w λe w'=>e= .returned (.int .i64 (jQ (szD (.sl (l.map Cel.toD))) n))/\Below w.heap.size w w':=Qc l (λx _=>Qd x) A len cap n w h h0 h1
def C0 (x:Cel):Prop:=∀(cs:List Value) (w:World),rep w w.heap.size x.toD cs->szD x.toD<=1048576->Calls prog 143 #[.agg cs.toArray] w (gM x.toD 43 w)
theorem Ti (x:Cel):C0 x:=by
 intro cs w h hz;have kD:=wF x;rw[kD]at hz;clear kD;obtain⟨eL,eS,eO,eN,eU,eQ,eM,eT,eP,fh,fo,fk,eD,eF,eE,fj,fq,fm,rfl,FJ,me,kL⟩:=i8 h;go_enter func143,ntmps143;go_wp2_with fail;refine(Ay x.value _ _ (fb me km fC) dP).mono ?_;rintro e w1 ⟨k1,G1,rfl,o1,AP,b1⟩;obtain⟨qY,rd,q_,q9,rg,rb,qZ,rf,ra,tN,tP,tO,qs,qu,qt,rfl,_⟩:=fw (eW _ _ _ _ o1);obtain⟨hc1,hf1⟩:=fY b1;have z1:=b1.size;simp only[dT,dX]at hc1 hf1 z1 AP;have q1:Below w.heap.size w w1:=Below.trans km (b1.mono fC);have Wc:w.heap.size<w1.heap.size:=dP;have Wd:w.heap.size+1<w1.heap.size:=dP;have y1c:w.heap.size+1+1<w1.heap.size:=dP;go_wp2_with fail;refine(Oi x.parts _ _ _ _ (fb kL mh fC) dP).mono ?_;rintro e w2 ⟨A2,n2,c2,G2,rfl,o2,fr2,b2⟩;obtain⟨hc2,hf2⟩:=fY b2;have z2:=b2.size;simp only[dT,dX]at hc2 hf2 z2 fr2;have q2:Below w.heap.size w w2:=Below.trans mh (b2.mono fC);have Z4:w.heap.size<w2.heap.size:=dP;have Z5:w.heap.size+1<w2.heap.size:=dP;have y2c:w.heap.size+1+1<w2.heap.size:=dP;go_wp2_with fail;skip;refine bM (v:= .agg #[x.count,x.value.kind,.slice qY rd q_,.slice q9 rg rb,.slice qZ rf ra,.slice tN tP tO,.slice qs qu qt,x.value.code,x.value.env,.slice A2 n2 c2]) (by simp [results,results143,go_sem,hc1,hc2,Wc,Wd,y1c,Z4,Z5,y2c]) rfl ⟨_,G1++(G2++[]),rfl,?_,?_,?_⟩
 ·refine uO FJ ?_ ?_
  ·repeat'(first|with_reducible exact o1|refine lG ?_ ?_ _|refine em ?_ b2|(exact AP.notin jh))
  ·repeat'(first|with_reducible exact o2|refine lG ?_ ?_ _|(exact fr2.notin jh))
 ·have k0:Fresh w2.heap.size []:=Fresh.nil;have j2:=Fresh.app fr2 (jT _ _ _ _ o2) k0 dP;have j1:=Fresh.app AP (jT _ _ _ _ o1) j2 dP;exact j1.mono dP
 ·exact qi
theorem Mj:(prog.info? 43).map (λi=>(i.zero,i.size,i.bytes))=some (some (.agg #[.int .i64 0,.int .i64 0,(),(),(),(),(),.int .i64 0,.int .i64 0,()]),10,176):=dU
theorem Qh (l:List Cel) (ih:∀x∈l,C0 x) (A:Option Addr) (len cap:Nat) (w:World) (h:rep w w.heap.size (.sl (l.map Cel.toD)) [.slice A len cap]) (hz:szD (.sl (l.map Cel.toD))<=1048576):
 Calls prog 87 #[.slice A len cap] w (oK (l.map Cel.toD) 24 w):=by
 obtain⟨kO,hlc,sT⟩:=ef h;rw[au]at kO;rw[szD,au,kO]at hz;obtain⟨i0,DI,rJ,tW,hz2⟩:=cZ Mj;have xx:=λW=>iw (P:=prog) 24 43 i0 _ underlying24 DI rJ .i64 .i64 len len (af _) jj dP W
 rw[tW]at xx;have HL:=aa kO;have HI:=aa ih;clear kO ih;go_enter func87,ntmps87;go_wp2_with fail;clear xx;go_loopw [4] (λi wr=>∃(k:Nat) (fB:List (Row 10)) (G:List Nat),k<=len/\i= .int .i64 k/\fB.length=k/\Fil wr w.heap.size 43 (len*10) (k*10) (fB.flatMap Row.v)/\iv prog wr ((l.take k).map Cel.toD) 43 G (fB.map Row.v)/\Fresh (w.heap.size+1) G/\Below w.heap.size w wr) (λi _=>len - (intOf i).toNat)
 case atStart=>exact⟨0,[],[],by omega,rfl,rfl,by simpa using Fil.start w 43 (madeCells #[.int .i64 0,.int .i64 0,(),(),(),(),(),.int .i64 0,.int .i64 0,()] (len*10)) (len*10) (size_madeCells _ _),by rw[cL,bL,iv];exact⟨rfl,rfl⟩,Fresh.nil,(Below.refl _ _).alloc (af _) _⟩
 case round=>
  obtain⟨k,fB,G,hk,rfl,ZG,hf,ho,hG,hb⟩:=hrel;have Za:=aa ZG;clear ZG;by_cases hlt:k<len
  ·obtain⟨b,off,x,eL,eS,eO,eN,eU,eQ,eM,eT,eP,fh,fo,fk,eD,eF,eE,fj,fq,fm,rfl,gD,hx,fE,xO,hc1,hc2,hc3,hc4,Jx,Wx,Wy,hc8,hc9⟩:=lm (fF h hb) hlt;have HX:=aa (eJ hx);have HM:=aa (aA hx);have OB:szD x.toD<=1048576:=by have:=rC (dt (f:=Cel.toD) HM.out);omega
   clear hx;go_wp2_with fail;refine(HI.out x HM.out _ _ (gY fE hb.size) OB).mono ?_;rintro e w1 ⟨cs1,G1,rfl,Hz,Cf,hb1⟩;obtain⟨nr,nA,nv,nu,nC,nz,nt,nB,ny,pV,pX,pW,lY,l6,lZ,oQ,oT,oR,rfl,_⟩:=i8 (eW _ _ _ _ Hz);have hf1:=hf.next hb1;have AR:=hf.lt;obtain⟨u0,hu0⟩:=hf1.cell (k*10) dP;have rJ:=hf1.frozen (k*10);obtain⟨u1,hu1⟩:=hf1.cell (k*10+1) dP;have tW:=hf1.frozen (k*10+1);obtain⟨u2,hu2⟩:=hf1.cell (k*10+2) dP;have hz2:=hf1.frozen (k*10+2);obtain⟨u3,hu3⟩:=hf1.cell (k*10+3) dP;have hz3:=hf1.frozen (k*10+3);obtain⟨u4,hu4⟩:=hf1.cell (k*10+4) dP;have hz4:=hf1.frozen (k*10+4);obtain⟨u5,hu5⟩:=hf1.cell (k*10+5) dP;have hz5:=hf1.frozen (k*10+5);obtain⟨u6,hu6⟩:=hf1.cell (k*10+6) dP;have hz6:=hf1.frozen (k*10+6);obtain⟨u7,hu7⟩:=hf1.cell (k*10+7) dP;have hz7:=hf1.frozen (k*10+7);obtain⟨u8,hu8⟩:=hf1.cell (k*10+8) dP;have hz8:=hf1.frozen (k*10+8);obtain⟨u9,hu9⟩:=hf1.cell (k*10+9) dP;have hz9:=hf1.frozen (k*10+9);go_wp2_with fail;have hfp:=((((((((((hf1.put dP (.int .i64 x.count)).put dP (.int .i64 x.value.kind)).put dP (.slice nr nA nv)).put dP (.slice nu nC nz)).put dP (.slice nt nB ny)).put dP (.slice pV pX pW)).put dP (.slice lY l6 lZ)).put dP (.int .i64 x.value.code)).put dP (.int .i64 x.value.env)).put dP (.slice oQ oT oR));have XE:=(((((((((((hb.trans (hb1.mono hb.size)).setCell (p:=⟨w.heap.size,k*10,none⟩) (af _) (.int .i64 x.count)).setCell (p:=⟨w.heap.size,k*10+1,none⟩) (af _) (.int .i64 x.value.kind)).setCell (p:=⟨w.heap.size,k*10+2,none⟩) (af _) (.slice nr nA nv)).setCell (p:=⟨w.heap.size,k*10+3,none⟩) (af _) (.slice nu nC nz)).setCell (p:=⟨w.heap.size,k*10+4,none⟩) (af _) (.slice nt nB ny)).setCell (p:=⟨w.heap.size,k*10+5,none⟩) (af _) (.slice pV pX pW)).setCell (p:=⟨w.heap.size,k*10+6,none⟩) (af _) (.slice lY l6 lZ)).setCell (p:=⟨w.heap.size,k*10+7,none⟩) (af _) (.int .i64 x.value.code)).setCell (p:=⟨w.heap.size,k*10+8,none⟩) (af _) (.int .i64 x.value.env)).setCell (p:=⟨w.heap.size,k*10+9,none⟩) (af _) (.slice oQ oT oR));have hnG:w.heap.size ∉ G++G1:=yd;have hoA:=s_ (xV ho hb1) Hz;have hoB:iv prog (((((((((((w1.setCell ⟨w.heap.size,k*10,none⟩ (.int .i64 x.count)).setCell ⟨w.heap.size,k*10+1,none⟩ (.int .i64 x.value.kind)).setCell ⟨w.heap.size,k*10+2,none⟩ (.slice nr nA nv)).setCell ⟨w.heap.size,k*10+3,none⟩ (.slice nu nC nz)).setCell ⟨w.heap.size,k*10+4,none⟩ (.slice nt nB ny)).setCell ⟨w.heap.size,k*10+5,none⟩ (.slice pV pX pW)).setCell ⟨w.heap.size,k*10+6,none⟩ (.slice lY l6 lZ)).setCell ⟨w.heap.size,k*10+7,none⟩ (.int .i64 x.value.code)).setCell ⟨w.heap.size,k*10+8,none⟩ (.int .i64 x.value.env)).setCell ⟨w.heap.size,k*10+9,none⟩ (.slice oQ oT oR))) ((l.take (k+1)).map Cel.toD) 43 (G++G1) (fB.map Row.v++[[.int .i64 x.count,.int .i64 x.value.kind,.slice nr nA nv,.slice nu nC nz,.slice nt nB ny,.slice pV pX pW,.slice lY l6 lZ,.int .i64 x.value.code,.int .i64 x.value.env,.slice oQ oT oR]]):=mI _ _ _ _ (λg hg=>(pk fX (pk fX (pk fX (pk fX (pk fX (pk fX (pk fX (pk fX (pk fX (pk fX (rfl)))))))))))) wb;go_roundw
   case rel=>
    exact⟨k+1,fB++[⟨[.int .i64 x.count,.int .i64 x.value.kind,.slice nr nA nv,.slice nu nC nz,.slice nt nB ny,.slice pV pX pW,.slice lY l6 lZ,.int .i64 x.value.code,.int .i64 x.value.env,.slice oQ oT oR],rfl⟩],G++G1,by omega,by go_num,by simp [Za.out],by rw[cj,show (k+1)*10=k*10+10 by omega];simpa [Row.v]using hfp,by rw[aI];exact hoB,hG.app (qF _ _ _ _ ho) Cf dP,XE⟩
   case measure=>simp [intOf];omega
  ·obtain rfl:k=len:=dP;rw[aC ji]at ho;go_wp2_with fail;go_ret;refine⟨_,_,_,w.heap.size::G,rfl,?_,?_,hb⟩
   ·rw[own];exact⟨43,_,k,k,10,fB,G,underlying24,by kernel_rfl,rfl,by unfold maxLen;omega,hf.own Row.len Za.out (af _) eb (dj _),rfl,ho⟩
   ·exact yB
theorem Qi (x:Cel):C0 x:=Ti x
theorem Og (l:List Cel) (A:Option Addr) (len cap:Nat) (w:World) (h:rep w w.heap.size (.sl (l.map Cel.toD)) [.slice A len cap]) (hz:szD (.sl (l.map Cel.toD))<=1048576):
 Calls prog 87 #[.slice A len cap] w (oK (l.map Cel.toD) 24 w):=Qh l (λx _=>Qi x) A len cap w h hz
def CY (x:Cel):Prop:=∀(cs cs':List Value) (w:World),rep w w.heap.size x.toD cs->rep w w.heap.size x.toD cs'->Calls prog 137 #[.agg cs.toArray,.agg cs'.toArray] w λe w'=>e= .returned (.bool true)/\Below w.heap.size w w'
theorem RU (x:Cel):CY x:=by
 intro cs cs' w h h';obtain⟨eL,eS,eO,eN,eU,eQ,eM,eT,eP,fh,fo,fk,eD,eF,eE,fj,fq,fm,rfl,FJ,me,kL⟩:=i8 h;obtain⟨mX,nE,m_,mZ,nI,no,mY,nH,nj,pP,p8,pT,lN,l9,lT,tA,ud,tK,rfl,afM,LE,LD⟩:=i8 h';have ah_:(x.count != x.count)=false:=dR;have q0:=((Below.refl w.heap.size w).alloc (af _) (.cells #[x.count,x.value.kind,.slice eL eS eO,.slice eN eU eQ,.slice eM eT eP,.slice fh fo fk,.slice eD eF eE,x.value.code,x.value.env,.slice fj fq fm] 43)).alloc eA (.cells #[x.count,x.value.kind,.slice mX nE m_,.slice mZ nI no,.slice mY nH nj,.slice pP p8 pT,.slice lN l9 lT,x.value.code,x.value.env,.slice tA ud tK] 43);go_enter func137,ntmps137;go_wp2_with fail;refine(zv x.value _ _ _ (fb me q0 q0.size) (fb LE q0 q0.size)).mono ?_;rintro e w1 ⟨rfl,b1⟩;obtain⟨hc1,_⟩:=fY b1;have z1:=b1.size
 (try simp only[dT]at hc1 z1)
 have Wc:w.heap.size<w1.heap.size:=dP;have Wd:w.heap.size+1<w1.heap.size:=dP;have q1:=ij q0 b1;go_wp2_with fail;refine(MG x.parts _ _ _ _ _ _ _ (fb kL q1 q1.size) (fb LD q1 q1.size)).mono ?_;rintro e w2 ⟨rfl,b2⟩;obtain⟨hc2,_⟩:=fY b2;have z2:=b2.size
 (try simp only[dT]at hc2 z2)
 have Z4:w.heap.size<w2.heap.size:=dP;have Z5:w.heap.size+1<w2.heap.size:=dP;have q2:=ij q1 b2;go_wp2_with fail;go_ret;exact⟨rfl,q2⟩
theorem Pa (l:List Cel) (ih:∀x∈l,CY x) (A A':Option Addr) (n n' c c':Nat) (w:World) (h:rep w w.heap.size (.sl (l.map Cel.toD)) [.slice A n c]) (h':rep w w.heap.size (.sl (l.map Cel.toD)) [.slice A' n' c']):
 Calls prog 71 #[.slice A n c,.slice A' n' c'] w λe w'=>e= .returned (.bool true)/\Below w.heap.size w w':=by
 obtain⟨kO,hlc,sT⟩:=ef h;obtain⟨Nf,adU,adD⟩:=ef h';rw[au]at kO Nf;obtain rfl:n'=n:=dP;have hd:((n':Int) != (n':Int))=false:=dR;unfold maxLen at sT;have HI:=aa ih;clear kO Nf ih;go_enter func71,ntmps71;go_wp2_with fail;go_loopw [5] (λi wr=>∃(k:Nat),k<=n'/\i= .int .i64 k/\Below w.heap.size w wr) (λi _=>n' - (intOf i).toNat)
 case atStart=>exact⟨0,by omega,rfl,Below.refl _ _⟩
 case round=>
  obtain⟨k,hk,rfl,hb⟩:=hrel;by_cases hlt:k<n'
  ·obtain⟨b,off,x,eL,eS,eO,eN,eU,eQ,eM,eT,eP,fh,fo,fk,eD,eF,eE,fj,fq,fm,rfl,gD,hx,fE,xO,hc1,hc2,hc3,hc4,Jx,Wx,Wy,hc8,hc9⟩:=lm (fF h hb) hlt;obtain⟨b',qv,x',mX,nE,m_,mZ,nI,no,mY,nH,nj,pP,p8,pT,lN,l9,lT,tA,ud,tK,rfl,XC,qD,UH,Hy,Jy,It,hd3,hd4,hd5,hd6,hd7,hd8,hd9⟩:=lm (fF h' hb) hlt;obtain rfl:x=x':=by rw[hx]at qD;injection qD
   have HM:=aa (aA hx);clear hx qD;have i1:(0:Int)<=(k:Int):=dP;have i2:(k:Int)<(n':Int):=dP;have uK:b<wr.heap.size:=od;have rh:b'<wr.heap.size:=od;have WE:=gY fE hb.size;have TA:=gY UH hb.size;go_wp2_with fail;go_region_held3 (λW=>(W.cell? ⟨b,off+k*10,none⟩=some (.int .i64 x.count)/\W.cell? ⟨b,off+k*10+1,none⟩=some (.int .i64 x.value.kind)/\W.cell? ⟨b,off+k*10+2,none⟩=some (.slice eL eS eO)/\W.cell? ⟨b,off+k*10+3,none⟩=some (.slice eN eU eQ)/\W.cell? ⟨b,off+k*10+4,none⟩=some (.slice eM eT eP)/\W.cell? ⟨b,off+k*10+5,none⟩=some (.slice fh fo fk)/\W.cell? ⟨b,off+k*10+6,none⟩=some (.slice eD eF eE)/\W.cell? ⟨b,off+k*10+7,none⟩=some (.int .i64 x.value.code)/\W.cell? ⟨b,off+k*10+8,none⟩=some (.int .i64 x.value.env)/\W.cell? ⟨b,off+k*10+9,none⟩=some (.slice fj fq fm))/\(W.cell? ⟨b',qv+k*10,none⟩=some (.int .i64 x.count)/\W.cell? ⟨b',qv+k*10+1,none⟩=some (.int .i64 x.value.kind)/\W.cell? ⟨b',qv+k*10+2,none⟩=some (.slice mX nE m_)/\W.cell? ⟨b',qv+k*10+3,none⟩=some (.slice mZ nI no)/\W.cell? ⟨b',qv+k*10+4,none⟩=some (.slice mY nH nj)/\W.cell? ⟨b',qv+k*10+5,none⟩=some (.slice pP p8 pT)/\W.cell? ⟨b',qv+k*10+6,none⟩=some (.slice lN l9 lT)/\W.cell? ⟨b',qv+k*10+7,none⟩=some (.int .i64 x.value.code)/\W.cell? ⟨b',qv+k*10+8,none⟩=some (.int .i64 x.value.env)/\W.cell? ⟨b',qv+k*10+9,none⟩=some (.slice tA ud tK)))
    (first|exact⟨⟨xO,hc1,hc2,hc3,hc4,Jx,Wx,Wy,hc8,hc9⟩,⟨Hy,Jy,It,hd3,hd4,hd5,hd6,hd7,hd8,hd9⟩⟩|exact⟨⟨(hb1.cell uK).trans xO,(hb1.cell uK).trans hc1,(hb1.cell uK).trans hc2,(hb1.cell uK).trans hc3,(hb1.cell uK).trans hc4,(hb1.cell uK).trans Jx,(hb1.cell uK).trans Wx,(hb1.cell uK).trans Wy,(hb1.cell uK).trans hc8,(hb1.cell uK).trans hc9⟩,⟨(hb1.cell rh).trans Hy,(hb1.cell rh).trans Jy,(hb1.cell rh).trans It,(hb1.cell rh).trans hd3,(hb1.cell rh).trans hd4,(hb1.cell rh).trans hd5,(hb1.cell rh).trans hd6,(hb1.cell rh).trans hd7,(hb1.cell rh).trans hd8,(hb1.cell rh).trans hd9⟩⟩)
    (first|(go_at_call 137;refine(HI.out x HM.out _ _ _ wC wD).mono ?_;rintro e w1 ⟨rfl,hb1⟩))
   go_wp2_with fail;go_roundw
   case rel=>exact⟨k+1,by omega,by go_num,ij hb.drew hb1⟩
   case measure=>simp [intOf];omega
  ·exact yJ
theorem Pb (x:Cel):CY x:=RU x
theorem ME (l:List Cel) (A A':Option Addr) (n n' c c':Nat) (w:World) (h:rep w w.heap.size (.sl (l.map Cel.toD)) [.slice A n c]) (h':rep w w.heap.size (.sl (l.map Cel.toD)) [.slice A' n' c']):
 Calls prog 71 #[.slice A n c,.slice A' n' c'] w λe w'=>e= .returned (.bool true)/\Below w.heap.size w w':=Pa l (λx _=>Pb x) A A' n n' c c' w h h'
structure Hp where
 cells:List Cel
 names:List Str
 slots:List Int
 copies:Int
def Hp.toD (x:Hp):D:= .st [.sl (x.cells.map Cel.toD),.sl (x.names.map .s),.sl (x.slots.map (.i .i64)),.i .i64 x.copies]
theorem uP (x:Hp):x.toD= .st [.sl (x.cells.map Cel.toD),.sl (x.names.map .s),.sl (x.slots.map (.i .i64)),.i .i64 x.copies]:=qf
theorem iP {x:Hp} (h:rep w B x.toD cs):∃(oF:Option Addr) (o8:Nat) (nR:Nat) (fU:Option Addr) (fW:Nat) (fV:Nat) (oG:Option Addr) (o9:Nat) (oM:Nat),cs=[.slice oF o8 nR,.slice fU fW fV,.slice oG o9 oM,.int .i64 x.copies]/\rep w B (.sl (x.cells.map Cel.toD)) [.slice oF o8 nR]/\rep w B (.sl (x.names.map .s)) [.slice fU fW fV]/\rep w B (.sl (x.slots.map (.i .i64))) [.slice oG o9 oM]/\(Lit.int .i64 x.copies).wf=true:=by rw[uP,rep]at h;obtain⟨css,rfl,h⟩:=h;rw[gb]at h;obtain⟨c0,css,rfl,k0,h⟩:=h;rw[gb]at h;obtain⟨c1,css,rfl,k1,h⟩:=h;rw[gb]at h;obtain⟨c2,css,rfl,k2,h⟩:=h;rw[gb]at h;obtain⟨c3,css,rfl,k3,h⟩:=h;rw[gb]at h;subst h;obtain⟨A0,n0,d0,rfl⟩:=fD k0;obtain⟨A1,n1,d1,rfl⟩:=fD k1;obtain⟨A2,n2,d2,rfl⟩:=fD k2;rw[rep]at k3;obtain⟨rfl,k3⟩:=k3;exact⟨A0,n0,d0,A1,n1,d1,A2,n2,d2,rfl,k0,k1,k2,k3⟩
theorem Da {x:Hp} {oF:Option Addr} {o8:Nat} {nR:Nat} {oG:Option Addr} {o9:Nat} {oM:Nat}{C1 C2:List Nat} (xY:own prog w (.sl (x.cells.map Cel.toD)) 24 C1 [.slice oF o8 nR]) (lu:own prog w (.sl (x.names.map .s)) 25 Fnames [.slice fU fW fV]) (xZ:own prog w (.sl (x.slots.map (.i .i64))) 26 C2 [.slice oG o9 oM]) (Az:(Lit.int .i64 x.copies).wf=true):own prog w x.toD 28 (C1++(Fnames++(C2++[]))) [.slice oF o8 nR,.slice fU fW fV,.slice oG o9 oM,x.copies]:=by rw[uP,own];exact⟨_,[[.slice oF o8 nR],[.slice fU fW fV],[.slice oG o9 oM],[.int .i64 x.copies]],underlying28,rfl,(fg xY (fg lu (fg xZ (fg (F1:=[]) (by rw[own];exact⟨rfl,rfl,Az⟩) p_))))⟩
theorem nM (x:Hp):szD x.toD=szD (.sl (x.cells.map Cel.toD))+(szD (.sl (x.names.map .s))+(szD (.sl (x.slots.map (.i .i64))))):=by rw[uP];simp only[szD,gv];omega
def Mp (x:Hp):Prop:=∀(cs:List Value) (n:Int) (w:World),rep w w.heap.size x.toD cs->0<=n->n<=1048576->Calls prog 26 #[.agg cs.toArray,n] w λe w'=>e= .returned (.int .i64 (jQ (szD x.toD) n))/\Below w.heap.size w w'
theorem Ta (x:Hp):Mp x:=by
 intro cs n w h h0 h1;have kD:=nM x;obtain⟨oF,o8,nR,fU,fW,fV,oG,o9,oM,rfl,xY,lu,xZ,Az⟩:=iP h;have q0:=(Below.refl w.heap.size w).alloc (af _) (.cells #[.slice oF o8 nR,.slice fU fW fV,.slice oG o9 oM,x.copies] 59);have Cd:=aa kD;clear kD;go_enter func26,ntmps26;go_wp2_with fail;refine(N_ x.cells _ _ _ _ _ (fb xY q0 q0.size) dP dP).mono ?_;rintro e w1 ⟨rfl,b1⟩;obtain⟨hc1,_⟩:=fY b1;have z1:=b1.size
 (try simp only[dT]at hc1 z1)
 have y1:w.heap.size<w1.heap.size:=dP;have q1:=ij q0 b1;by_cases g0:jQ (szD (.sl (x.cells.map Cel.toD))) n<0
 ·have Xq:n<((szD (.sl (x.cells.map Cel.toD)):Nat):Int):=oy;go_wp2_with fail;go_ret;exact⟨eZ mo,q1⟩
 have Xq:((szD (.sl (x.cells.map Cel.toD)):Nat):Int)<=n:=oy;have e0:jQ (szD (.sl (x.cells.map Cel.toD))) n=n - ((szD (.sl (x.cells.map Cel.toD)):Nat):Int):=l8 Xq;obtain⟨m0,Pt⟩:∃m:Int,m=jQ (szD (.sl (x.cells.map Cel.toD))) n:=⟨_,rfl⟩;rw[<-Pt]at g0 e0 ⊢;have E0:=aa e0;have M0:=aa Pt;have le0:0<=m0/\m0<=n:=dP;clear e0 Pt;skip;go_wp2_with fail;refine(r8 x.names _ _ _ _ _ (fb lu q1 q1.size) dP dP).mono ?_;rintro e w2 ⟨rfl,b2⟩;obtain⟨hc2,_⟩:=fY b2;have z2:=b2.size
 (try simp only[dT]at hc2 z2)
 have y2:w.heap.size<w2.heap.size:=dP;have q2:=ij q1 b2;by_cases g1:jQ (szD (.sl (x.names.map .s))) m0<0
 ·have Xr:m0<((szD (.sl (x.names.map .s)):Nat):Int):=og;go_wp2_with fail;go_ret;exact⟨eZ wy,q2⟩
 have Xr:((szD (.sl (x.names.map .s)):Nat):Int)<=m0:=og;have e1:jQ (szD (.sl (x.names.map .s))) m0=m0 - ((szD (.sl (x.names.map .s)):Nat):Int):=l8 Xr;obtain⟨m1,DJ⟩:∃m:Int,m=jQ (szD (.sl (x.names.map .s))) m0:=⟨_,rfl⟩;rw[<-DJ]at g1 e1 ⊢;have E1:=aa e1;have M1:=aa DJ;have le1:0<=m1/\m1<=m0:=dP;clear e1 DJ;skip;go_wp2_with fail;refine(Ob x.slots _ _ _ _ _ (fb xZ q2 q2.size) dP dP).mono ?_;rintro e w3 ⟨rfl,b3⟩;obtain⟨hc3,_⟩:=fY b3;have z3:=b3.size
 (try simp only[dT]at hc3 z3)
 have y3:w.heap.size<w3.heap.size:=dP;have q3:=ij q2 b3;by_cases g2:jQ (szD (.sl (x.slots.map (.i .i64)))) m1<0
 ·have Xs:m1<((szD (.sl (x.slots.map (.i .i64))):Nat):Int):=n9;go_wp2_with fail;go_ret;exact⟨eZ (by rw[Cd.out,jQ,aH wB]),q3⟩
 have Xs:((szD (.sl (x.slots.map (.i .i64))):Nat):Int)<=m1:=n9;have e2:jQ (szD (.sl (x.slots.map (.i .i64)))) m1=m1 - ((szD (.sl (x.slots.map (.i .i64))):Nat):Int):=l8 Xs;obtain⟨m2,DK⟩:∃m:Int,m=jQ (szD (.sl (x.slots.map (.i .i64)))) m1:=⟨_,rfl⟩;rw[<-DK]at g2 e2 ⊢;have E2:=aa e2;have M2:=aa DK;have le2:0<=m2/\m2<=m1:=dP;clear e2 DK;skip;go_wp2_with fail;go_ret;exact⟨eZ (by rw[Cd.out,jQ,aN (by have:=E0.out;have:=E1.out;have:=E2.out;omega)]<;>(have:=E0.out;have:=E1.out;have:=E2.out;omega)),q3⟩
theorem E5 (x:Hp):Mp x:=Ta x
def Mq (x:Hp):Prop:=∀(cs:List Value) (w:World),rep w w.heap.size x.toD cs->szD x.toD<=1048576->Calls prog 28 #[.agg cs.toArray] w (gM x.toD 28 w)
theorem Tj (x:Hp):Mq x:=by
 intro cs w h hz;have kD:=nM x;rw[kD]at hz;clear kD;obtain⟨oF,o8,nR,fU,fW,fV,oG,o9,oM,rfl,xY,lu,xZ,Az⟩:=iP h;go_enter func28,ntmps28;go_wp2_with fail;refine(Og x.cells _ _ _ _ (fb xY km fC) dP).mono ?_;rintro e w1 ⟨A1,n1,c1,G1,rfl,o1,AP,b1⟩;obtain⟨hc1,hf1⟩:=fY b1;have z1:=b1.size;simp only[dT,dX]at hc1 hf1 z1 AP;have q1:Below w.heap.size w w1:=Below.trans km (b1.mono fC);have Wc:w.heap.size<w1.heap.size:=dP;have Wd:w.heap.size+1<w1.heap.size:=dP;have y1c:w.heap.size+1+1<w1.heap.size:=dP;go_wp2_with fail;refine(r9 x.names _ _ _ _ (fb lu mh fC) dP).mono ?_;rintro e w2 ⟨A2,n2,c2,G2,rfl,o2,fr2,b2⟩;obtain⟨hc2,hf2⟩:=fY b2;have z2:=b2.size;simp only[dT,dX]at hc2 hf2 z2 fr2;have q2:Below w.heap.size w w2:=Below.trans mh (b2.mono fC);have Z4:w.heap.size<w2.heap.size:=dP;have Z5:w.heap.size+1<w2.heap.size:=dP;have y2c:w.heap.size+1+1<w2.heap.size:=dP;go_wp2_with fail;refine(Oi x.slots _ _ _ _ (fb xZ qi fC) dP).mono ?_;rintro e w3 ⟨A3,n3,c3,G3,rfl,o3,fr3,b3⟩;obtain⟨hc3,hf3⟩:=fY b3;have z3:=b3.size;simp only[dT,dX]at hc3 hf3 z3 fr3;have q3:Below w.heap.size w w3:=Below.trans qi (b3.mono fC);have y3a:w.heap.size<w3.heap.size:=dP;have y3b:w.heap.size+1<w3.heap.size:=dP;have y3c:w.heap.size+1+1<w3.heap.size:=dP;go_wp2_with fail;skip;refine bM (v:= .agg #[.slice A1 n1 c1,.slice A2 n2 c2,.slice A3 n3 c3,x.copies]) (by simp [results,results28,go_sem,hc1,hc2,hc3,Wc,Wd,y1c,Z4,Z5,y2c,y3a,y3b,y3c]) rfl ⟨_,G1++(G2++(G3++[])),rfl,?_,?_,?_⟩
 ·refine Da ?_ ?_ ?_ Az
  ·repeat'(first|with_reducible exact o1|refine lG ?_ ?_ _|refine em ?_ b2|refine em ?_ b3|(exact AP.notin jh))
  ·repeat'(first|with_reducible exact o2|refine lG ?_ ?_ _|refine em ?_ b3|(exact fr2.notin jh))
  ·repeat'(first|with_reducible exact o3|refine lG ?_ ?_ _|(exact fr3.notin jh))
 ·have k0:Fresh w3.heap.size []:=Fresh.nil;have j3:=Fresh.app fr3 (jT _ _ _ _ o3) k0 dP;have j2:=Fresh.app fr2 (jT _ _ _ _ o2) j3 dP;have j1:=Fresh.app AP (jT _ _ _ _ o1) j2 dP;exact j1.mono dP
 ·exact wA
theorem E9 (x:Hp):Mq x:=Tj x
def Mo (x:Hp):Prop:=∀(cs cs':List Value) (w:World),rep w w.heap.size x.toD cs->rep w w.heap.size x.toD cs'->Calls prog 21 #[.agg cs.toArray,.agg cs'.toArray] w λe w'=>e= .returned (.bool true)/\Below w.heap.size w w'
theorem RW (x:Hp):Mo x:=by
 intro cs cs' w h h';obtain⟨oF,o8,nR,fU,fW,fV,oG,o9,oM,rfl,xY,lu,xZ,Az⟩:=iP h;obtain⟨WP,Yo,Xf,yW,zU,zm,WR,Yq,Xj,rfl,YK,LC,YP,aeZ⟩:=iP h';have afF:(x.copies != x.copies)=false:=dR;have q0:=((Below.refl w.heap.size w).alloc (af _) (.cells #[.slice oF o8 nR,.slice fU fW fV,.slice oG o9 oM,x.copies] 28)).alloc eA (.cells #[.slice WP Yo Xf,.slice yW zU zm,.slice WR Yq Xj,x.copies] 28);go_enter func21,ntmps21;go_wp2_with fail;refine(ME x.cells _ _ _ _ _ _ _ (fb xY q0 q0.size) (fb YK q0 q0.size)).mono ?_;rintro e w1 ⟨rfl,b1⟩;obtain⟨hc1,_⟩:=fY b1;have z1:=b1.size
 (try simp only[dT]at hc1 z1)
 have Wc:w.heap.size<w1.heap.size:=dP;have Wd:w.heap.size+1<w1.heap.size:=dP;have q1:=ij q0 b1;go_wp2_with fail;refine(rQ x.names _ _ _ _ _ _ _ (fb lu q1 q1.size) (fb LC q1 q1.size)).mono ?_;rintro e w2 ⟨rfl,b2⟩;obtain⟨hc2,_⟩:=fY b2;have z2:=b2.size
 (try simp only[dT]at hc2 z2)
 have Z4:w.heap.size<w2.heap.size:=dP;have Z5:w.heap.size+1<w2.heap.size:=dP;have q2:=ij q1 b2;go_wp2_with fail;refine(MG x.slots _ _ _ _ _ _ _ (fb xZ q2 q2.size) (fb YP q2 q2.size)).mono ?_;rintro e w3 ⟨rfl,b3⟩;obtain⟨hc3,_⟩:=fY b3;have z3:=b3.size
 (try simp only[dT]at hc3 z3)
 have y3a:w.heap.size<w3.heap.size:=dP;have y3b:w.heap.size+1<w3.heap.size:=dP;have q3:=ij q2 b3;go_wp2_with fail;go_ret;exact⟨rfl,q3⟩
theorem tL (x:Hp):Mo x:=RW x
abbrev Me (x:Item):Value:= .agg #[x.num,x.den,sv x.text]
theorem MS (x y:Nat):Nat.gcd y (x % y)=Nat.gcd x y:=by rw[Nat.gcd_comm y (x % y),<-Nat.gcd_rec,Nat.gcd_comm]
theorem QL (a b:Int) (w:World) (ha: -9223372036854775807<=a) (ha':a<=9223372036854775807) (hb: -9223372036854775807<=b) (Tv:b<=9223372036854775807):
 Calls prog 162 #[a,b] w λe w'=>e= .returned (.int .i64 (Nat.gcd a.natAbs b.natAbs:Nat))/\Below w.heap.size w w':=by
 go_enter func162,ntmps162;go_wp2_with fail;all_goals
  go_loopw [0,1] (λu v wr=>∃x y:Nat,u= .int .i64 x/\v= .int .i64 y/\(x:Int)<=9223372036854775807/\(y:Int)<=9223372036854775807/\Nat.gcd x y=Nat.gcd a.natAbs b.natAbs/\Below w.heap.size w wr) (λ_ v _=>(intOf v).toNat)
  case atStart=>exact⟨a.natAbs,b.natAbs,by congr 1;omega,by congr 1;omega,by omega,by omega,rfl,Below.refl _ _⟩
  case round=>
   obtain⟨x,y,rfl,rfl,hx,hy,hg,gD⟩:=hrel;have HG:=aa hg;clear hg;rcases bz y with h0|h0
   ·exact GP
   ·have jC:((y:Int) != 0)=true:=dS;have hm:(x:Int).tmod (y:Int)=((x % y:Nat):Int):=by rw[Int.tmod_eq_emod_of_nonneg dP];rfl
    have hlt:x % y<y:=Nat.mod_lt _ h0;go_wp2_with fail;go_region;all_goals
     go_wp2_with fail;go_roundw
     case rel=>exact⟨y,x % y,by go_num,by go_num,by omega,by omega,by rw[MS];exact HG.out,gD.drew⟩
     case measure=>simp [intOf];omega
theorem JL (a:Int) (w:World) (ha: -9223372036854775807<=a) (ha':a<=9223372036854775807):
 Calls prog 179 #[a] w λe w'=>e= .returned (.int .i64 (a.natAbs:Nat))/\w=w':=by
 go_enter func179,ntmps179;go_wp2_with fail;all_goals (go_ret;exact⟨eZ dP,rfl⟩)
theorem JM (a b:Int) (w:World) (ha: -9223372036854775807<=a) (ha':a<=9223372036854775807) (hb: -9223372036854775807<=b) (Tv:b<=9223372036854775807):
 Calls prog 169 #[a,b] w λe w'=>e= .returned (.int .i64 (Nat.gcd a.natAbs b.natAbs:Nat))/\Below w.heap.size w w':=by
 go_enter func169,ntmps169;go_wp2_with fail;refine(JL a _ ha ha').mono ?_;rintro e w1 ⟨rfl,rfl⟩;go_wp2_with fail;refine(JL b _ hb Tv).mono ?_;rintro e w1 ⟨rfl,rfl⟩;go_wp2_with fail;go_loopw [5,6] (λu v wr=>∃x y:Nat,u= .int .i64 x/\v= .int .i64 y/\(x:Int)<=9223372036854775807/\(y:Int)<=9223372036854775807/\Nat.gcd x y=Nat.gcd a.natAbs b.natAbs/\Below w.heap.size w wr) (λ_ v _=>(intOf v).toNat)
 case atStart=>exact⟨a.natAbs,b.natAbs,rfl,rfl,by omega,by omega,rfl,Below.refl _ _⟩
 case round=>
  obtain⟨x,y,rfl,rfl,hx,hy,hg,gD⟩:=hrel;have HG:=aa hg;clear hg;rcases bz y with h0|h0
  ·exact GP
  ·have jC:((y:Int) != 0)=true:=dS;have hlt:x % y<y:=Nat.mod_lt _ h0;go_wp2_with fail;go_roundw
   case rel=>exact⟨y,x % y,by go_num,by go_num,by omega,by omega,by rw[MS];exact HG.out,gD⟩
   case measure=>simp [intOf];omega
def nZ (x:Item):Bool:=x.text.isEmpty&&decide (1<=x.den/\x.den<=999999999)&&decide (-999999999<=x.num/\x.num<=999999999)&&(Nat.gcd x.num.natAbs x.den.natAbs==1)
theorem pA (x:Item) (w:World):Calls prog 163 #[Me x] w λe w'=>e= .returned (.bool (nZ x))/\Below w.heap.size w w':=by
 go_enter func163,ntmps163;go_wp2_with (go_at_call 162;((with_reducible refine(QL _ _ _ dP dP dP dP).mono ?_);rintro e w1 ⟨rfl,hb1⟩));all_goals (go_ret;refine⟨dZ ?_,by first|exact(Below.refl _ _).alloc (af _) _|exact ij ((Below.refl _ _).alloc (af _) _) hb1⟩)
 all_goals (rw[nZ,eq_comm,bg];simp [*]<;>omega)
theorem tj (x:Item) (w:World):Calls prog 190 #[Me x] w λe w'=>e= .returned (.bool (nZ x))/\Below w.heap.size w w':=by
 go_enter func190,ntmps190;go_wp2_with (first|(go_at_call 68;((with_reducible refine(gj _ _ _ _).mono ?_);rintro e w1 ⟨rfl,rfl⟩))|(go_at_call 169;((with_reducible refine(JM _ _ _ dP dP dP dP).mono ?_);rintro e w1 ⟨rfl,hb1⟩)));all_goals (go_ret;refine⟨dZ ?_,by first|exact(Below.refl _ _).alloc (af _) _|exact ij ((Below.refl _ _).alloc (af _) _) hb1⟩)
 all_goals (rw[nZ,eq_comm,bg];simp [*]<;>omega)
def eI (x:Item):Bool:=x==⟨0,0,[]⟩
theorem kJ (x:Item) (w:World):Calls prog 156 #[Me x] w λe w'=>e= .returned (.bool (eI x))/\Below w.heap.size w w':=by go_enter func156,ntmps156;go_wp2_with fail;all_goals (go_ret;refine⟨dZ ?_,(Below.refl _ _).alloc (af _) _⟩;cases x;simp [eI];simp_all)
abbrev av (cs:List Value):Value:= .agg cs.toArray
def lenV (v:Vec):Nat:=if v.kind=5 then 1 else v.items.length+v.parts.length
theorem wV (v:Vec):lenV v<=v.items.length+v.parts.length+1:=by unfold lenV;split<;>omega
theorem pC (v:Vec) (cs:List Value) (w:World) (h:rep w w.heap.size v.toD cs) (hl:v.items.length+v.parts.length<=9223372036854775807):
 Calls prog 107 #[av cs] w λe w'=>e= .returned (.int .i64 (lenV v))/\Below w.heap.size w w':=by
 obtain⟨Ai,ni,ci,Ap,np,cp,An,nn,cn,Ac,nc,cc,Al,nl,cl,rfl,hv⟩:=iy h;rw[hv.it.len,hv.pab.2.2]at hl;have HI:=aa hv.it.len;have HP:=aa hv.pab.2.2;by_cases hk:v.kind=5
 ·have hd:(v.kind==5)=true:=jg;have HK:=aa hk;clear hk;go_enter func107,ntmps107;go_wp2_with fail;go_ret;exact⟨eZ (by rw[lenV,aN HK.out];rfl),(Below.refl _ _).alloc (af _) _⟩
 ·have hd:(v.kind==5)=false:=jg;go_enter func107,ntmps107;go_wp2_with fail;go_ret;exact⟨eZ (by rw[lenV,aH hk,HI.out,HP.out];omega),(Below.refl _ _).alloc (af _) _⟩
theorem lI (v:Vec) (cs:List Value) (w:World) (h:rep w w.heap.size v.toD cs) (hl:v.items.length+v.parts.length<=9223372036854775807):
 Calls prog 118 #[av cs] w λe w'=>e= .returned (.int .i64 (lenV v))/\Below w.heap.size w w':=by
 obtain⟨Ai,ni,ci,Ap,np,cp,An,nn,cn,Ac,nc,cc,Al,nl,cl,rfl,hv⟩:=iy h;rw[hv.it.len,hv.pab.2.2]at hl;have HI:=aa hv.it.len;have HP:=aa hv.pab.2.2;by_cases hk:v.kind=5
 ·have hd:(v.kind==5)=true:=jg;have HK:=aa hk;clear hk;go_enter func118,ntmps118;go_wp2_with fail;go_ret;exact⟨eZ (by rw[lenV,aN HK.out];rfl),(Below.refl _ _).alloc (af _) _⟩
 ·have hd:(v.kind==5)=false:=jg;go_enter func118,ntmps118;go_wp2_with fail;go_ret;exact⟨eZ (by rw[lenV,aH hk,HI.out,HP.out];omega),(Below.refl _ _).alloc (af _) _⟩
def atomK (k:Int):Bool:=decide (1<=k/\k<=3)
theorem oY (v:Vec) (cs:List Value) (w:World) (h:rep w w.heap.size v.toD cs):
 Calls prog 99 #[av cs] w λe w'=>e= .returned (.bool (atomK v.kind))/\Below w.heap.size w w':=by
 obtain⟨Ai,ni,ci,Ap,np,cp,An,nn,cn,Ac,nc,cc,Al,nl,cl,rfl,hv⟩:=iy h;go_enter func99,ntmps99;go_wp2_with fail;all_goals (go_ret;refine⟨dZ ?_,(Below.refl _ _).alloc (af _) _⟩)
 all_goals (rw[atomK,eq_comm,bg];simp_all<;>omega)
def itemOK (kind:Int) (x:Item):Bool:=
 eI x||(if kind=1 then x.text.isEmpty&&(x.den==1)&&(x.num==0||x.num==1) else if kind=2 then nZ x else if kind=3 then (x.num==0)&&(x.den==1)&&decide (x.text.length<=60) else false)
theorem Iz (kind:Int) (x:Item) (w:World) (hx:itOK x):Calls prog 189 #[kind,Me x] w λe w'=>e= .returned (.bool (itemOK kind x))/\Below w.heap.size w w':=by
 have hl:x.text.length<=9223372036854775807:=hx.2.2;have q0:=(Below.refl w.heap.size w).alloc (af _) (.cells #[x.num,x.den,sv x.text] 135);go_enter func189,ntmps189;go_wp2_with fail;refine(kJ x _).mono ?_;rintro e w1 ⟨rfl,hb1⟩;obtain⟨hc1,_⟩:=fY hb1;simp only[dT]at hc1;have q1:=ij q0 hb1;cases hm:eI x with
 |true=>
  go_wp2_with fail;go_ret;exact⟨dZ (by rw[itemOK,hm];rfl),q1⟩
 |false=>
  by_cases k1:kind=1
  ·subst k1;go_wp2_with fail;all_goals (go_ret;refine⟨dZ ?_,q1⟩)
   all_goals (rw[itemOK,hm,eq_comm,aq];simp [*])
  by_cases k2:kind=2
  ·subst k2;go_wp2_with (first|(go_at_call 163;((with_reducible refine(pA x _).mono ?_);rintro e w2 ⟨rfl,jS⟩)));go_ret;exact⟨dZ (by rw[itemOK,hm];rfl),ij q1 jS⟩
  by_cases k3:kind=3
  ·subst k3;go_wp2_with fail;all_goals (go_ret;refine⟨dZ ?_,q1⟩)
   all_goals (rw[itemOK,hm,eq_comm,aq,bg];simp [*]<;>omega)
  have e1:(kind==1)=false:=by simpa using k1
  have e2:(kind==2)=false:=ot;have e3:(kind==3)=false:=by simpa using k3
  have HR:=aa (show itemOK kind x=false by rw[itemOK,hm,aH k1,aH k2,aH k3];rfl);clear k1 k2 k3;go_wp2_with fail;go_ret;exact⟨dZ HR.out.symm,q1⟩
theorem PK (kind:Int) (x:Item) (w:World) (hx:itOK x):Calls prog 174 #[kind,Me x] w λe w'=>e= .returned (.bool (itemOK kind x))/\Below w.heap.size w w':=by
 have hl:x.text.length<=9223372036854775807:=hx.2.2;have q0:=(Below.refl w.heap.size w).alloc (af _) (.cells #[x.num,x.den,sv x.text] 135);cases hm:eI x with
 |true=>
  obtain rfl:x=⟨0,0,[]⟩:=by simpa [eI]using hm
  clear hm;go_enter func174,ntmps174;go_wp2_with fail;go_ret;exact⟨rfl,q0⟩
 |false=>
  have jC:¬x=⟨0,0,[]⟩:=by intro h;rw[h]at hm;cases hm
  have h3:¬(x.num=0/\x.den=0/\x.text=[]):=by rintro⟨a,b,c⟩;apply jC;cases x;simp_all
  have H3:=aa h3;clear jC h3;by_cases k1:kind=1
  ·subst k1;go_enter func174,ntmps174;go_wp2_with (first|(go_at_call 68;((with_reducible refine(gj _ _ _ _).mono ?_);rintro e w1 ⟨rfl,rfl⟩)));all_goals first|(exfalso;apply H3.out;exact⟨by assumption,by assumption,by assumption⟩)|(go_ret;refine⟨dZ ?_,(Below.refl _ _).alloc (af _) _⟩)
   all_goals (rw[itemOK,hm,eq_comm,aq,bg];simp [*]<;>omega)
  by_cases k2:kind=2
  ·subst k2;go_enter func174,ntmps174;go_wp2_with (first|(go_at_call 190;((with_reducible refine(tj ⟨_,_,_⟩ _).mono ?_);rintro e w2 ⟨rfl,jS⟩)));all_goals first|(exfalso;apply H3.out;exact⟨by assumption,by assumption,by assumption⟩)|(go_ret;refine⟨dZ ?_,by first|exact ij ((Below.refl _ _).alloc (af _) _) jS|exact(Below.refl _ _).alloc (af _) _⟩)
   all_goals (rw[itemOK,hm];cases x;simp_all)
  by_cases k3:kind=3
  ·subst k3;go_enter func174,ntmps174;go_wp2_with fail;all_goals first|(exfalso;apply H3.out;exact⟨by assumption,by assumption,by assumption⟩)|(go_ret;refine⟨dZ ?_,(Below.refl _ _).alloc (af _) _⟩)
   all_goals (rw[itemOK,hm,eq_comm,aq,bg];simp [*]<;>omega)
  have e1:(kind==1)=false:=by simpa using k1
  have e2:(kind==2)=false:=ot;have e3:(kind==3)=false:=by simpa using k3
  have HR:=aa (show itemOK kind x=false by rw[itemOK,hm,aH k1,aH k2,aH k3];rfl);clear k1 k2 k3;go_enter func174,ntmps174;go_wp2_with fail;all_goals first|(exfalso;apply H3.out;exact⟨by assumption,by assumption,by assumption⟩)|(go_ret;exact⟨dZ HR.out.symm,(Below.refl _ _).alloc (af _) _⟩)
theorem Reads.tk {enc:α->List Value} {s:Nat} {l:List α} (h:Reads enc s w B A n l) (hk:k<=n):Reads enc s w B A k (l.take k):=by
 refine⟨by rw[de,h.1];omega,λh0=>?_⟩;obtain⟨b,off,e,hb,hc⟩:=h.2 dP;refine⟨b,off,e,hb,λi x j u hx hu=>hc i x j u ?_ hu⟩;rw[List.getElem?_take]at hx;split at hx
 ·exact hx
 ·cases hx
def vE:List Str->List Str->Bool
 |_,[]=>true
 |seen,e::t=>(!e.isEmpty&&decide (e.length<=60)&& !seen.contains e)&&vE (seen++[e]) t
def mF (l:List Str) (rO:Nat):Bool:=decide (l.length<=rO)&&vE [] l
theorem JO {l:List Str} {e:Str} (h:l[k]?=some e):vE (l.take k) (l.drop k)=((!e.isEmpty&&decide (e.length<=60)&& !(l.take k).contains e)&&vE (l.take (k+1)) (l.drop (k+1))):=by obtain⟨hk,he⟩:=ay.1 h;rw[cR hk,he,vE,eJ h]
theorem uI (A:Option Addr) (n c:Nat) (l:List Str) (rO:Nat) (w:World) (hr:Reads encS 1 w w.heap.size A n l) (hs:∀e∈l,e.length<=maxLen) (hn:n<=c) (hc:c<=maxLen) (hm:(rO:Int)<=1000):
 Calls prog 188 #[.slice A n c,rO] w λe w'=>e= .returned (.bool (mF l rO))/\Below w.heap.size w w':=by
 unfold maxLen at hc;have kO:=hr.len;by_cases hq:rO<n
 ·have hd:decide ((rO:Int)<(n:Int))=true:=dS;have HR:=aa (show mF l rO=false by rw[mF,kO,aK dP];rfl);clear kO;go_enter func188,ntmps188;go_wp2_with fail;go_ret;exact⟨dZ HR.out.symm,Below.refl _ _⟩
 have HR:=aa (show mF l rO=vE [] l by rw[mF,kO,aM dP];rfl);have HL:=aa kO;have hd:decide ((rO:Int)<(n:Int))=false:=dS;clear kO;go_enter func188,ntmps188;go_wp2_with fail;go_loop [13] (λi=>∃k:Nat,k<=n/\i= .int .i64 k/\vE [] l=vE (l.take k) (l.drop k)) (λi=>n - (intOf i).toNat)
 case atStart=>exact⟨0,by omega,rfl,rfl⟩
 case round=>
  obtain⟨k,hk,rfl,hf⟩:=hrel;have HF:=aa hf;clear hf;by_cases hlt:k<n
  ·obtain⟨b,off,x,rfl,gD,hx,xO⟩:=hr.atS hlt;have X_:x.length<=9223372036854775807:=hs _ (aA hx);have HD:=aa (JO hx);have hbad:(!x.isEmpty&&decide (x.length<=60)&& !(l.take k).contains x)=false->mF l rO=false:=λh=>by rw[HR.out,HF.out,HD.out,h];rfl
   have HB:=aa hbad;clear hx hbad;have hrt:=hr.tk (k:=k) dP;cases hxe:x.isEmpty with
   |true=>
    obtain rfl:x=[]:=by simpa using hxe
    go_wp2_with fail;go_ret;exact⟨dZ (HB.out rfl).symm,Below.refl _ _⟩
   |false=>
    by_cases h60:(60:Int)<(x.length:Int)
    ·go_wp2_with fail;go_ret;exact⟨dZ (HB.out (by rw[hxe,aK dP];rfl)).symm,Below.refl _ _⟩
    have adJ:decide ((60:Int)<(x.length:Int))=false:=dS;go_wp2_with fail;refine(Bx _ k _ _ x _ hrt eb).mono ?_;rintro e w1 ⟨rfl,rfl⟩;cases hct:(l.take k).contains x with
    |true=>
     go_wp2_with fail;go_ret;exact⟨dZ (HB.out (by rw[hct];simp)).symm,Below.refl _ _⟩
    |false=>
     go_wp2_with fail;go_round
     case rel=>exact⟨k+1,by omega,by go_num,by rw[HF.out,HD.out,hxe,hct,aM dP];rfl⟩
     case measure=>simp [intOf];omega
  ·obtain rfl:k=n:=dP;go_wp2_with fail;go_ret;exact⟨dZ (by rw[HR.out,HF.out,cM ji];rfl),Below.refl _ _⟩
theorem UV (l:List Str) (e:Str) (k i:Nat) (h:l[k]?=some e):decide (ix l e i<((i+k:Nat):Int))=(l.take k).contains e:=by
 induction l generalizing k i with
 |nil=>simp at h
 |cons a t ih=>
  cases k with
  |zero=>simp at h;subst h;simp [ix]
  |succ k=>
   simp at h;rw[ix,cG,List.contains_cons];by_cases hae:a=e
   ·subst hae;simp;omega
   ·rw[aH hae,show i+(k+1)=i+1+k by omega,ih k (i+1) h];have:(e==a)=false:=by simpa using λh'=>hae h'.symm
    rw[this];rfl
theorem zP (A:Option Addr) (n c:Nat) (l:List Str) (rO:Nat) (w:World) (hr:Reads encS 1 w w.heap.size A n l) (hs:∀e∈l,e.length<=maxLen) (hn:n<=c) (hc:c<=maxLen) (hm:(rO:Int)<=1000):
 Calls prog 173 #[.slice A n c,rO] w λe w'=>e= .returned (.bool (mF l rO))/\Below w.heap.size w w':=by
 unfold maxLen at hc;have HL:=aa hr.len;go_enter func173,ntmps173;go_wp2_with fail;go_loopw [5] (λi wr=>∃k:Nat,k<=n/\k<=rO+1/\i= .int .i64 k/\vE [] l=vE (l.take k) (l.drop k)/\Below w.heap.size w wr) (λi _=>n - (intOf i).toNat)
 case atStart=>exact⟨0,by omega,by omega,rfl,rfl,Below.refl _ _⟩
 case round=>
  obtain⟨k,hk,hkm,rfl,hf,hb⟩:=hrel;have HF:=aa hf;clear hf;by_cases hlt:k<n
  ·by_cases hkm2:k<=rO
   ·obtain⟨b,off,x,rfl,gD,hx,xO⟩:=(hr.below hb).atS hlt;have X_:x.length<=9223372036854775807:=hs _ (aA hx);have HD:=aa (JO hx);have mT:=UV l x k 0 hx;rw[bI]at mT;have hbad:(!x.isEmpty&&decide (x.length<=60)&& !(l.take k).contains x)=false->mF l rO=false:=λh=>by rw[mF,HF.out,HD.out,h];simp
    have HB:=aa hbad;clear hx hbad;have i1:(0:Int)<=(k:Int):=dP;have i2:(k:Int)<(n:Int):=dP;have TA:=(hr.below hb).more hb.size;cases hxe:x.isEmpty with
    |true=>
     obtain rfl:x=[]:=by simpa using hxe
     go_wp2_with fail;go_ret;exact⟨dZ (HB.out rfl).symm,hb⟩
    |false=>
     by_cases h60:(60:Int)<(x.length:Int)
     ·go_wp2_with fail;go_ret;exact⟨dZ (HB.out (by rw[hxe,aK dP];rfl)).symm,hb⟩
     have adJ:decide ((60:Int)<(x.length:Int))=false:=dS;go_wp2_with fail;refine(gG _ n _ l x _ TA eb).mono ?_;rintro e w1 ⟨rfl,rfl⟩;cases hct:(l.take k).contains x with
     |true=>
      rw[hct]at mT;go_wp2_with fail;go_ret;exact⟨dZ (HB.out (by rw[hct];simp)).symm,hb⟩
     |false=>
      rw[hct]at mT;go_wp2_with fail;go_roundw
      case rel=>exact⟨k+1,by omega,by omega,by go_num,by rw[HF.out,HD.out,hxe,hct,aM dP];rfl,hb⟩
      case measure=>simp [intOf];omega
   ·have Jy:decide ((k:Int)<=(rO:Int))=false:=dS;have It:decide ((n:Int)<=(rO:Int))=false:=dS;go_wp2_with fail;go_ret;exact⟨dZ (by rw[mF,HL.out,aK dP];rfl),hb⟩
  ·obtain rfl:k=n:=dP;have Py:mF l rO=decide (k<=rO):=by rw[mF,HF.out,cM ji,HL.out,vE,Bool.and_true]
   have HRs:=aa Py;clear Py;go_wp2_with fail;go_ret;exact⟨dZ HRs.out.symm,hb⟩
def lR (l:List Str):Bool:=l.all List.isEmpty
theorem za (A:Option Addr) (n c:Nat) (l:List Str) (w:World) (hr:Reads encS 1 w w.heap.size A n l) (hn:n<=maxLen):
 Calls prog 185 #[.slice A n c] w λe w'=>e= .returned (.bool (lR l))/\Below w.heap.size w w':=by
 unfold maxLen at hn;have HL:=aa hr.len;go_enter func185,ntmps185;go_wp2_with fail;go_loop [7] (λi=>∃k:Nat,k<=n/\i= .int .i64 k/\(l.take k).all List.isEmpty=true) (λi=>n - (intOf i).toNat)
 case atStart=>exact⟨0,by omega,rfl,by simp⟩
 case round=>
  obtain⟨k,hk,rfl,hf⟩:=hrel;have HF:=aa hf;clear hf;by_cases hlt:k<n
  ·obtain⟨b,off,x,rfl,gD,hx,xO⟩:=hr.atS hlt;have HX:=aa hx;clear hx;cases hxe:x.isEmpty with
   |true=>
    obtain rfl:x=[]:=by simpa using hxe
    go_wp2_with fail;go_round
    case rel=>exact⟨k+1,by omega,by go_num,iY HX.out HF.out rfl⟩
    case measure=>simp [intOf];omega
   |false=>
    go_wp2_with fail;go_ret;exact⟨dZ (nN HX.out hxe).symm,Below.refl _ _⟩
  ·obtain rfl:k=n:=dP;go_wp2_with fail;go_ret;exact⟨dZ (by have:=HF.out;rw[aC ji]at this;exact this.symm),Below.refl _ _⟩
def zT (l:List Str):Bool:=l.all (λs=>decide (s.length<=60))&&(l.isEmpty|| !lR l)
theorem Nz (A:Option Addr) (n c:Nat) (l:List Str) (w:World) (hr:Reads encS 1 w w.heap.size A n l) (hs:∀e∈l,e.length<=maxLen) (hn:n<=maxLen):
 Calls prog 172 #[.slice A n c] w λe w'=>e= .returned (.bool (zT l))/\Below w.heap.size w w':=by
 unfold maxLen at hn;have HL:=aa hr.len;obtain⟨p0,hp0⟩:∃p0:Bool,((n:Int)==0)=p0:=⟨_,rfl⟩;go_enter func172,ntmps172;go_wp2_with fail;have HP:=aa hp0;clear hp0;go_loop [3,4] (λv i=>∃(k:Nat) (q:Bool),k<=n/\i= .int .i64 k/\v= .bool q/\(l.take k).all (λs=>decide (s.length<=60))=true/\q=(p0|| !lR (l.take k))) (λ_ i=>n - (intOf i).toNat)
 case atStart=>exact⟨0,p0,by omega,rfl,rfl,by simp,by simp [lR]⟩
 case round=>
  obtain⟨k,q,hk,rfl,rfl,hf,hq⟩:=hrel;have HF:=aa hf;have HQ:=aa hq;clear hf hq;by_cases hlt:k<n
  ·obtain⟨b,off,x,rfl,gD,hx,xO⟩:=hr.atS hlt;have X_:x.length<=9223372036854775807:=hs _ (aA hx);have HX:=aa hx;have HT:=aa (eJ hx);clear hx;have i1:(0:Int)<=(k:Int):=dP;have i2:(k:Int)<(n:Int):=dP;by_cases h60:(60:Int)<(x.length:Int)
   ·go_wp2_with fail;go_ret;exact⟨dZ (by rw[zT,nN HX.out (aK dP)];rfl),Below.refl _ _⟩
   have adJ:decide ((60:Int)<(x.length:Int))=false:=dS;have jb:=iY HX.out HF.out (aM (show x.length<=60 by omega));have HA:=aa jb;clear jb;have hq2:(q|| !x.isEmpty)=(p0|| !lR (l.take (k+1))):=by rw[HQ.out,HT.out];unfold lR;rw[List.all_append];cases p0<;>cases (l.take k).all List.isEmpty<;>simp
   have HQ2:=aa hq2;clear hq2;cases q with
   |true=>
    go_wp2_with fail;go_round
    case rel=>exact⟨k+1,true,by omega,by go_num,rfl,HA.out,HQ2.out⟩
    case measure=>simp [intOf];omega
   |false=>
    cases hxe:x.isEmpty with
    |true=>
     rw[hxe]at HQ2;obtain rfl:x=[]:=by simpa using hxe
     go_wp2_with fail;go_round
     case rel=>exact⟨k+1,false,by omega,by go_num,rfl,HA.out,HQ2.out⟩
     case measure=>simp [intOf];omega
    |false=>
     rw[hxe]at HQ2;go_wp2_with fail;go_round
     case rel=>exact⟨k+1,true,by omega,by go_num,rfl,HA.out,HQ2.out⟩
     case measure=>simp [intOf];omega
  ·obtain rfl:k=n:=dP;have Py:zT l=q:=by have h1:=HF.out;have h2:=HQ.out;rw[aC ji]at h1 h2;rw[zT,h1,h2,<-HP.out,aj];congr 1;rw[<-HL.out,bg];simp
   have HRs:=aa Py;clear Py;go_wp2_with fail;go_ret;exact⟨dZ HRs.out.symm,Below.refl _ _⟩
def mQ:Nat->Vec->Nat
 |0,_=>1
 |r+1,v=>v.parts.foldl (λo p=>max o (1+mQ r p)) 0
theorem KZ {α:Type} (f:α->Nat) (l:List α) (o M:Nat) (h:∀x∈l,f x<=M) (ho:o<=M):l.foldl (λo p=>max o (f p)) o<=M:=by
 induction l generalizing o with
 |nil=>exact ho
 |cons a t ih=>
  rw[bC];exact ih _ (λx hx=>h x (aP _ hx)) (by have:=h a aT;omega)
theorem Vm (r:Nat) (v:Vec):mQ r v<=r+1:=by
 induction r generalizing v with
 |zero=>simp [mQ]
 |succ r ih=>rw[mQ];exact KZ (λp=>1+mQ r p) _ _ _ (λx _=>by have:=ih x;omega) dP
theorem Pk {β:Type} (f:β->α->β) (o:β) {l:List α} {x:α} (h:l[k]?=some x):(l.take (k+1)).foldl f o=f ((l.take k).foldl f o) x:=by rw[eJ h,List.foldl_append];rfl
theorem Vn (r:Nat) (hr:r<=100):∀(v:Vec) (cs:List Value) (w:World),rep w w.heap.size v.toD cs->
 Calls prog 131 #[av cs,r] w λe w'=>e= .returned (.int .i64 (mQ r v))/\Below w.heap.size w w':=by
 induction r with
 |zero=>
  intro v cs w h;obtain⟨Ai,ni,ci,Ap,np,cp,An,nn,cn,Ac,nc,cc,Al,nl,cl,rfl,hv⟩:=iy h;go_enter func131,ntmps131;go_wp2_with fail;go_ret;exact⟨rfl,(Below.refl _ _).alloc (af _) _⟩
 |succ r ih=>
  intro v cs w h;have ih:=ih dP;obtain⟨Ai,ni,ci,Ap,np,cp,An,nn,cn,Ac,nc,cc,Al,nl,cl,rfl,hv⟩:=iy h;have q0:=(Below.refl w.heap.size w).alloc (af _) (.cells (vc v Ai ni ci Ap np cp An nn cn Ac nc cc Al nl cl).toArray 38);have mD:=hv.pab;unfold maxLen at mD;have Mn:=aa mD.2.2;have OA:np<=9223372036854775807:=dP;have xo:=aa ih;clear ih mD;have jC:((r:Int)+1==0)=false:=dS;rw[show (((r+1:Nat)):Int)=(r:Int)+1 from rfl];go_enter func131,ntmps131;go_wp2_with fail;go_loopw [5,13] (λu i wr=>∃k m:Nat,k<=np/\i= .int .i64 k/\u= .int .i64 m/\m=(v.parts.take k).foldl (λo p=>max o (1+mQ r p)) 0/\m<=102/\Below w.heap.size w wr) (λ_ i _=>np - (intOf i).toNat)
  case atStart=>exact⟨0,0,by omega,rfl,rfl,rfl,by omega,q0⟩
  case round=>
   obtain⟨k,m,hk,rfl,rfl,hm,DK,hb⟩:=hrel;have HM:=aa hm;clear hm;by_cases hlt:k<np
   ·obtain⟨b,off,x,Ru,SN,RP,Rx,SP,RS,Ct,CE,Hw,L4,JS,L7,Rv,SO,Mz,rfl,gD,hx,fE,hvx,c0,c1,c2,c3,c4,c5,c6,c7⟩:=rz (fF hv.pa hb) hlt;have HX:=aa (Pk (λo p=>max o (1+mQ r p)) 0 hx);have hnl:=Vm r x;clear hx;have q1:=hb.alloc hb.size (.cells (vc x Ru SN RP Rx SP RS Ct CE Hw L4 JS L7 Rv SO Mz).toArray 38);go_wp2_with fail;refine(xo.out x _ _ (fb fE (Below.alloc (Below.refl _ _) hb.size _) sx)).mono ?_;rintro e w1 ⟨rfl,hb1⟩;go_wp2_with fail;all_goals
     go_roundw
     case rel=>exact⟨k+1,(v.parts.take (k+1)).foldl (λo p=>max o (1+mQ r p)) (0:Nat),by omega,by go_num,by rw[HX.out,<-HM.out];congr 1;omega,rfl,by rw[HX.out,<-HM.out];omega,ij q1 hb1⟩
     case measure=>simp [intOf];omega
   ·obtain rfl:k=np:=dP;go_wp2_with fail;go_ret;exact⟨eZ (by rw[mQ,HM.out,aC lk]),hb⟩
mutual
def jF:Vec->Nat
 |⟨k,i,p,n,c,l,cd,e⟩=>lenV ⟨k,i,p,n,c,l,cd,e⟩+ik p
def ik:List Vec->Nat
 |[]=>0
 |v::t=>jF v+ik t
end
theorem jU (v:Vec):jF v=lenV v+ik v.parts:=by cases v;rw[jF]
theorem Do (l l':List Vec):ik (l++l')=ik l+ik l':=by
 induction l with
 |nil=>simp [ik]
 |cons a t ih=>simp only[cK,ik,ih];omega
theorem Bs (h:l[k]?=some x):ik (l.take (k+1))=ik (l.take k)+jF x:=by rw[eJ h,Do];simp [ik]
theorem Jj (l:List Vec) (k:Nat):ik (l.take k)<=ik l:=by
 have h:l=l.take k++l.drop k:=by rw[cA]
 conv=>rhs;rw[h]
 rw[Do];omega
mutual
def xN:Vec->Bool
 |⟨k,_,p,_,_,_,_,_⟩=>(k==5)||Jv p
def Jv:List Vec->Bool
 |[]=>false
 |v::t=>xN v||Jv t
end
theorem QN (v:Vec):xN v=((v.kind==5)||Jv v.parts):=by cases v;rw[xN]
theorem Jw (l:List Vec):Jv l=l.any xN:=by
 induction l with
 |nil=>rw[Jv];rfl
 |cons a t ih=>rw[Jv,ih];rfl
theorem Mt {p:α->Bool} {l:List α} {x:α} (h:l[k]?=some x) (ha:(l.take k).any p=false) (hb:p x=false):(l.take (k+1)).any p=false:=by rw[eJ h,List.any_append,ha];simp [hb]
theorem Qy {p:α->Bool} {l:List α} {x:α} (h:l[k]?=some x) (hb:p x=true):l.any p=true:=List.any_eq_true.2 ⟨x,aA h,hb⟩
theorem RL (l:List Vec) (h:∀x∈l,jF x<=2*szD x.toD+1):ik l<=2*gv (l.map Vec.toD)+l.length:=by
 induction l with
 |nil=>simp [ik]
 |cons a t ih=>
  have h1:=ih (λx hx=>h x (aP _ hx));have h2:=h a aT;simp only[ik,br,gv,bU];omega
theorem vsz (v:Vec):v.items.length+v.parts.length+gv (v.parts.map Vec.toD)<=szD v.toD:=by rw[go,szD,szD,au,au];omega
theorem RM:∀v:Vec,jF v<=2*szD v.toD+1:=iH λv ih=>by have h1:=RL v.parts ih;have h2:=wV v;have h3:=vsz v;rw[jU];omega
theorem V8 (h:x∈v.parts):szD x.toD<=szD v.toD:=by have h1:=rC (dt (f:=Vec.toD) h);have h2:=vsz v;omega
def bigV (v:Vec):Prop:=(szD v.toD:Int)<=1000000000000000
theorem bigV.part (h:bigV v) (hx:x∈v.parts):bigV x:=by unfold bigV at h ⊢;have:=V8 hx;omega
theorem bigV.len (h:bigV v):((v.items.length+v.parts.length:Nat):Int)<=1000000000000000:=by unfold bigV at h;have:=vsz v;omega
theorem bigV.cells (h:bigV v):(jF v:Int)<=3000000000000000:=by unfold bigV at h;have:=RM v;omega
theorem RN:∀(v:Vec) (cs:List Value) (w:World),rep w w.heap.size v.toD cs->bigV v->
 Calls prog 133 #[av cs] w λe w'=>e= .returned (.int .i64 (jF v))/\Below w.heap.size w w':=iH λv ih=>by
 intro cs w h ga;have MX:=ga.len;have hbc:=ga.cells;rw[jU]at hbc;obtain⟨Ai,ni,ci,Ap,np,cp,An,nn,cn,Ac,nc,cc,Al,nl,cl,rfl,hv⟩:=iy h;have q0:=(Below.refl w.heap.size w).alloc (af _) (.cells (vc v Ai ni ci Ap np cp An nn cn Ac nc cc Al nl cl).toArray 38);have mD:=hv.pab;unfold maxLen at mD;have Mn:=aa mD.2.2;have OA:np<=9223372036854775807:=dP;have xo:=aa ih;clear ih mD;go_enter func133,ntmps133;go_wp2_with fail;refine(pC v _ _ (fM h q0) dP).mono ?_;rintro e w1 ⟨rfl,hb1⟩;obtain⟨hc1,_⟩:=fY hb1;simp only[dT]at hc1;have q1:=ij q0 hb1;go_wp2_with fail;have XE:Below (w.alloc (.cells (vc v Ai ni ci Ap np cp An nn cn Ac nc cc Al nl cl).toArray 38)).heap.size (w.alloc (.cells (vc v Ai ni ci Ap np cp An nn cn Ac nc cc Al nl cl).toArray 38)) w1:=hb1;go_loopw [3,11] (λu i wr=>∃k:Nat,k<=np/\i= .int .i64 k/\u= .int .i64 ((lenV v+ik (v.parts.take k):Nat):Int)/\Below w.heap.size w wr) (λ_ i _=>np - (intOf i).toNat)
 case atStart=>exact⟨0,by omega,rfl,by simp [ik],q1⟩
 case round=>
  obtain⟨k,hk,rfl,rfl,hb⟩:=hrel;by_cases hlt:k<np
  ·obtain⟨b,off,x,Ru,SN,RP,Rx,SP,RS,Ct,CE,Hw,L4,JS,L7,Rv,SO,Mz,rfl,gD,hx,fE,hvx,c0,c1,c2,c3,c4,c5,c6,c7⟩:=rz (fF hv.pa hb) hlt;have HX:=aa (Bs hx);have HM:=aa (aA hx);have hle:=Jj v.parts (k+1);rw[HX.out]at hle;clear hx;obtain⟨m,hm⟩:∃m:Nat,m=lenV v+ik (v.parts.take k):=⟨_,rfl⟩;have DK:(m+jF x:Int)<=3000000000000000:=dP;rw[<-hm];have HMM:=aa hm;clear hm hle;have q2:=hb.alloc hb.size (.cells (vc x Ru SN RP Rx SP RS Ct CE Hw L4 JS L7 Rv SO Mz).toArray 38);go_wp2_with fail;refine(xo.out x HM.out _ _ (fb fE (Below.alloc (Below.refl _ _) hb.size _) sx) (ga.part HM.out)).mono ?_;rintro e w2 ⟨rfl,jS⟩;go_wp2_with fail;go_roundw
   case rel=>exact⟨k+1,by omega,by go_num,by rw[HX.out,HMM.out];congr 1;omega,ij q2 jS⟩
   case measure=>simp [intOf];omega
  ·obtain rfl:k=np:=dP;go_wp2_with fail;go_ret;exact⟨eZ (by rw[jU,aC lk]),hb⟩
theorem Nx:∀(v:Vec) (cs:List Value) (w:World),rep w w.heap.size v.toD cs->bigV v->
 Calls prog 135 #[av cs] w λe w'=>e= .returned (.int .i64 (jF v))/\Below w.heap.size w w':=iH λv ih=>by
 intro cs w h ga;have MX:=ga.len;have hbc:=ga.cells;rw[jU]at hbc;obtain⟨Ai,ni,ci,Ap,np,cp,An,nn,cn,Ac,nc,cc,Al,nl,cl,rfl,hv⟩:=iy h;have q0:=(Below.refl w.heap.size w).alloc (af _) (.cells (vc v Ai ni ci Ap np cp An nn cn Ac nc cc Al nl cl).toArray 38);have mD:=hv.pab;unfold maxLen at mD;have Mn:=aa mD.2.2;have OA:np<=9223372036854775807:=dP;have xo:=aa ih;clear ih mD;go_enter func135,ntmps135;go_wp2_with fail;refine(lI v _ _ (fM h q0) dP).mono ?_;rintro e w1 ⟨rfl,hb1⟩;obtain⟨hc1,_⟩:=fY hb1;simp only[dT]at hc1;have q1:=ij q0 hb1;go_wp2_with fail;have L_:=Blk.new_ w 38 (vc v Ai ni ci Ap np cp An nn cn Ac nc cc Al nl cl).toArray;go_loopw [3,4] (λu i wr=>∃k:Nat,k<=np/\i= .int .i64 k/\u= .int .i64 ((lenV v+ik (v.parts.take k):Nat):Int)/\Below (w.alloc (.cells (vc v Ai ni ci Ap np cp An nn cn Ac nc cc Al nl cl).toArray 38)).heap.size (w.alloc (.cells (vc v Ai ni ci Ap np cp An nn cn Ac nc cc Al nl cl).toArray 38)) wr) (λ_ i _=>np - (intOf i).toNat)
 case atStart=>exact⟨0,by omega,rfl,by simp [ik],hb1⟩
 case round=>
  obtain⟨k,hk,rfl,rfl,Ww⟩:=hrel;have hb:=ij q0 Ww;have Pw:wr.cell? ⟨w.heap.size,2,none⟩=some (.slice Ap np cp):=(L_.below Ww L_.lt).cell 2;by_cases hlt:k<np
  ·obtain⟨b,off,x,Ru,SN,RP,Rx,SP,RS,Ct,CE,Hw,L4,JS,L7,Rv,SO,Mz,rfl,gD,hx,fE,hvx,c0,c1,c2,c3,c4,c5,c6,c7⟩:=rz (fF hv.pa hb) hlt;have HX:=aa (Bs hx);have HM:=aa (aA hx);have hle:=Jj v.parts (k+1);rw[HX.out]at hle;clear hx;obtain⟨m,hm⟩:∃m:Nat,m=lenV v+ik (v.parts.take k):=⟨_,rfl⟩;have DK:(m+jF x:Int)<=3000000000000000:=dP;rw[<-hm];have HMM:=aa hm;clear hm hle;go_wp2_with fail;refine(xo.out x HM.out _ _ (gY fE hb.size) (ga.part HM.out)).mono ?_;rintro e w2 ⟨rfl,jS⟩;go_wp2_with fail;go_roundw
   case rel=>exact⟨k+1,by omega,by go_num,by rw[HX.out,HMM.out];congr 1;omega,ij Ww jS⟩
   case measure=>simp [intOf];omega
  ·obtain rfl:k=np:=dP;go_wp2_with fail;go_ret;exact⟨eZ (by rw[jU,aC lk];omega),hb⟩
theorem Cg:∀(v:Vec) (cs:List Value) (w:World),rep w w.heap.size v.toD cs->
 Calls prog 98 #[av cs] w λe w'=>e= .returned (.bool (xN v))/\Below w.heap.size w w':=iH λv ih=>by
 intro cs w h;have hHF:=QN v;rw[Jw]at hHF;have Wr:=aa hHF;clear hHF;obtain⟨Ai,ni,ci,Ap,np,cp,An,nn,cn,Ac,nc,cc,Al,nl,cl,rfl,hv⟩:=iy h;have q0:=(Below.refl w.heap.size w).alloc (af _) (.cells (vc v Ai ni ci Ap np cp An nn cn Ac nc cc Al nl cl).toArray 38);have mD:=hv.pab;unfold maxLen at mD;have Mn:=aa mD.2.2;have OA:np<=9223372036854775807:=dP;have xo:=aa ih;clear ih mD;cases hk5:(v.kind==5) with
 |true=>
  go_enter func98,ntmps98;go_wp2_with fail;go_ret;exact⟨dZ (by rw[Wr.out,hk5];rfl),q0⟩
 |false=>
 go_enter func98,ntmps98;go_wp2_with fail;go_loopw [11] (λi wr=>∃k:Nat,k<=np/\i= .int .i64 k/\(v.parts.take k).any xN=false/\Below w.heap.size w wr) (λi _=>np - (intOf i).toNat)
 case atStart=>exact⟨0,by omega,rfl,rfl,q0⟩
 case round=>
  obtain⟨k,hk,rfl,hf,hb⟩:=hrel;have HF:=aa hf;clear hf;by_cases hlt:k<np
  ·obtain⟨b,off,x,Ru,SN,RP,Rx,SP,RS,Ct,CE,Hw,L4,JS,L7,Rv,SO,Mz,rfl,gD,hx,fE,hvx,c0,c1,c2,c3,c4,c5,c6,c7⟩:=rz (fF hv.pa hb) hlt;have HX:=aa hx;have HM:=aa (aA hx);clear hx;have q2:=hb.alloc hb.size (.cells (vc x Ru SN RP Rx SP RS Ct CE Hw L4 JS L7 Rv SO Mz).toArray 38);go_wp2_with fail;refine(xo.out x HM.out _ _ (fb fE (Below.alloc (Below.refl _ _) hb.size _) sx)).mono ?_;rintro e w2 ⟨rfl,jS⟩;cases hq:xN x with
   |true=>
    go_wp2_with fail;go_ret;exact⟨dZ (by rw[Wr.out,Qy HX.out hq];simp),ij q2 jS⟩
   |false=>
    go_wp2_with fail;go_roundw
    case rel=>exact⟨k+1,by omega,by go_num,Mt HX.out HF.out hq,ij q2 jS⟩
    case measure=>simp [intOf];omega
  ·obtain rfl:k=np:=dP;go_wp2_with fail;go_ret;exact⟨dZ (by have:=HF.out;rw[aC lk]at this;rw[Wr.out,this,hk5];rfl),hb⟩
theorem xT:∀(v:Vec) (cs:List Value) (w:World),rep w w.heap.size v.toD cs->
 Calls prog 114 #[av cs] w λe w'=>e= .returned (.bool (xN v))/\Below w.heap.size w w':=iH λv ih=>by
 intro cs w h;have hHF:=QN v;rw[Jw]at hHF;have Wr:=aa hHF;clear hHF;obtain⟨Ai,ni,ci,Ap,np,cp,An,nn,cn,Ac,nc,cc,Al,nl,cl,rfl,hv⟩:=iy h;have q0:=(Below.refl w.heap.size w).alloc (af _) (.cells (vc v Ai ni ci Ap np cp An nn cn Ac nc cc Al nl cl).toArray 38);have L_:=Blk.new_ w 38 (vc v Ai ni ci Ap np cp An nn cn Ac nc cc Al nl cl).toArray;have mD:=hv.pab;unfold maxLen at mD;have Mn:=aa mD.2.2;have OA:np<=9223372036854775807:=dP;have xo:=aa ih;clear ih mD;go_enter func114,ntmps114;go_wp2_with fail;go_loopw [3] (λi wr=>∃k:Nat,k<=np/\i= .int .i64 k/\(v.parts.take k).any xN=false/\Below (w.alloc (.cells (vc v Ai ni ci Ap np cp An nn cn Ac nc cc Al nl cl).toArray 38)).heap.size (w.alloc (.cells (vc v Ai ni ci Ap np cp An nn cn Ac nc cc Al nl cl).toArray 38)) wr) (λi _=>np - (intOf i).toNat)
 case atStart=>exact⟨0,by omega,rfl,rfl,Below.refl _ _⟩
 case round=>
  obtain⟨k,hk,rfl,hf,Ww⟩:=hrel;have HF:=aa hf;clear hf;have hb:=ij q0 Ww;have Pw:wr.cell? ⟨w.heap.size,2,none⟩=some (.slice Ap np cp):=(L_.below Ww L_.lt).cell 2;have Ma:wr.cell? ⟨w.heap.size,0,none⟩=some (.int .i64 v.kind):=(L_.below Ww L_.lt).cell 0;by_cases hlt:k<np
  ·obtain⟨b,off,x,Ru,SN,RP,Rx,SP,RS,Ct,CE,Hw,L4,JS,L7,Rv,SO,Mz,rfl,gD,hx,fE,hvx,c0,c1,c2,c3,c4,c5,c6,c7⟩:=rz (fF hv.pa hb) hlt;have HX:=aa hx;have HM:=aa (aA hx);clear hx;go_wp2_with fail;refine(xo.out x HM.out _ _ (gY fE hb.size)).mono ?_;rintro e w2 ⟨rfl,jS⟩;cases hq:xN x with
   |true=>
    go_wp2_with fail;go_ret;exact⟨dZ (by rw[Wr.out,Qy HX.out hq];simp),ij hb jS⟩
   |false=>
    go_wp2_with fail;go_roundw
    case rel=>exact⟨k+1,by omega,by go_num,Mt HX.out HF.out hq,ij Ww jS⟩
    case measure=>simp [intOf];omega
  ·obtain rfl:k=np:=dP;go_wp2_with fail;go_ret;exact⟨dZ (by have:=HF.out;rw[aC lk]at this;rw[Wr.out,this,Bool.or_false]),hb⟩
def IZ (kind code env:Int) (ni np nn nc nl:Nat):Prop:=
 (0<nl->kind=2)/\(0<np->kind=4)/\(kind≠5->code=0/\env=0)/\(kind=5->ni=0/\nn=0/\ -999<=code/\code<=99999/\0<=env/\env<=99999)/\(kind=0->ni=0/\nc=0)
instance (kind code env:Int) (ni np nn nc nl:Nat):Decidable (IZ kind code env ni np nn nc nl):=by unfold IZ;infer_instance
def SB (v:Vec) (x:Item):Bool:=itemOK v.kind x&&(decide (v.levels.length=0)||eI x||decide (x.den=1/\1<=x.num/\x.num<=v.levels.length))
def wZ (v:Vec) (x:Item):Bool:=atomK v.kind&&SB v x
def CO (v:Vec):Bool:=decide (0<=v.kind/\v.kind<=5/\lenV v<=40)&&mF v.cls 3&&mF v.levels 20
def IY (v:Vec):Bool:=(decide (v.names.length=0)||(decide (v.names.length=lenV v)&& !lR v.names))&&v.names.all (λs=>decide (s.length<=60))
def P6 (v:Vec):Bool:=decide (IZ v.kind v.code v.env v.items.length v.parts.length v.names.length v.cls.length v.levels.length)
def h_ (v:Vec):Bool:=CO v&&IY v&&P6 v&&v.items.all (wZ v)
theorem aim (h:CO v=false\/IY v=false\/P6 v=false\/v.items.all (wZ v)=false):h_ v=false:=by unfold h_;rcases h with h|h|h|h<;>rw[h]<;>simp
mutual
def mJ:Vec->Bool
 |⟨k,i,p,n,c,l,cd,e⟩=>h_ ⟨k,i,p,n,c,l,cd,e⟩&&vK p
def vK:List Vec->Bool
 |[]=>true
 |v::t=>mJ v&&vK t
end
theorem xW (v:Vec):mJ v=(h_ v&&v.parts.all mJ):=by
 have h:∀l,vK l=l.all mJ:=by
  intro l
  induction l with
  |nil=>rw[vK];rfl
  |cons a t ih=>rw[vK,ih];rfl
 cases v;rw[mJ,h]
def okD:Nat->Vec->Bool
 |0,v=>h_ v&&v.parts.isEmpty
 |d+1,v=>h_ v&&v.parts.all (okD d)
theorem xu {α:Type} (f:α->Nat) (l:List α) (o M:Nat):l.foldl (λo p=>max o (f p)) o<=M↔o<=M/\∀x∈l,f x<=M:=by
 induction l generalizing o with
 |nil=>simp
 |cons a t ih=>
  rw[bC,ih];simp only[aX,forall_eq_or_imp];constructor
  ·rintro⟨h1,h2⟩;exact⟨by omega,by omega,h2⟩
  ·rintro⟨h1,h2,h3⟩;exact⟨by omega,h3⟩
theorem abX (d:Nat) (v:Vec):okD d v=(decide (mQ (d+1) v<=d)&&mJ v):=by
 induction d generalizing v with
 |zero=>
  rw[okD,xW,mQ];cases hp:v.parts with
  |nil=>simp
  |cons a t=>
   have:¬(a::t).foldl (λo p=>max o (1+mQ 0 p)) 0<=0:=by rw[xu (λp=>1+mQ 0 p)];intro h;have:=h.2 a aT;omega
   rw[aK this];simp
 |succ d ih=>
  rw[okD,xW,mQ];have h1:v.parts.all (okD d)=(decide (v.parts.foldl (λo p=>max o (1+mQ (d+1) p)) 0<=d+1)&&v.parts.all mJ):=by
   rw[bg,aV,ax,decide_eq_true_iff,xu (λp=>1+mQ (d+1) p),aV];constructor
   ·intro h;refine⟨⟨by omega,λx hx=>?_⟩,λx hx=>?_⟩
    ·have:=h x hx;rw[ih,ax,decide_eq_true_iff]at this;omega
    ·have:=h x hx;rw[ih,ax]at this;exact this.2
   ·rintro⟨⟨_,h2⟩,h3⟩ x hx;rw[ih,ax,decide_eq_true_iff];exact⟨by have:=h2 x hx;omega,h3 x hx⟩
  rw[h1];cases h_ v<;>cases (decide (v.parts.foldl (λo p=>max o (1+mQ (d+1) p)) 0<=d+1))<;>simp
def isVec (v:Vec):Bool:=okD 3 v&&decide (jF v<=200)
theorem ab8 (v:Vec):IY v=((decide (v.names.length=0)||decide (v.names.length=lenV v))&&zT v.names):=by
 unfold IY zT;cases hn:v.names with
 |nil=>simp
 |cons a t=>
  have h0:decide ((a::t).length=0)=false:=dR;rw[h0];cases decide ((a::t).length=lenV v)<;>cases lR (a::t)<;>cases (a::t).all (λs=>decide (s.length<=60))<;>rfl
def PR (d:Nat) (v:Vec):Bool:=match d with
 |0=>v.parts.isEmpty
 |d+1=>v.parts.all (okD d)
theorem s8 (d:Nat) (v:Vec):okD d v=(CO v&&IY v&&P6 v&&v.items.all (wZ v)&&PR d v):=by cases d<;>rw[okD,h_]<;>rfl
theorem aaP {kind:Int} {x:Item} (h:itemOK kind x=true):eI x=decide (x.den=0):=by
 cases hm:eI x with
 |true=>
  obtain rfl:x=⟨0,0,[]⟩:=by simpa [eI]using hm
  rfl
 |false=>
  rw[itemOK,hm,aq]at h;rw[eq_comm,bB];split at h
  ·simp at h;omega
  ·split at h
   ·simp [nZ]at h;omega
   ·split at h
    ·simp at h;omega
    ·cases h
theorem aih {d:Nat} (h:CO v=false\/IY v=false\/P6 v=false\/v.items.all (wZ v)=false\/PR d v=false):okD d v=false:=by rw[s8];rcases h with h|h|h|h|h<;>rw[h]<;>simp
end Go.Proofs.YtekcpadlmfaihaaGreat
