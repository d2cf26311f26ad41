/- The struct HeapOp as data; what its cells are; the law's own functions sz, to, eq over it. -/
import Derived.Test.YtekcpadlmfaihaaGreatZD
import Derived.Test.YtekcpadlmfaihaaGreatZQ
import Derived.Test.YtekcpadlmfaihaaGreatZY
import Derived.Test.YtekcpadlmfaihaaGreatZMB
import Derived.Test.YtekcpadlmfaihaaGreatZG
namespace Go.Proofs.YtekcpadlmfaihaaGreat
open Go.RowKit Proofs.Tryz
set_option maxHeartbeats 8000000
set_option maxRecDepth 100000
set_option linter.unusedSimpArgs false
set_option linter.unusedVariables false
variable {B:Nat} {w:World}
structure Hop where
 kind:Int
 name:Str
 frm:Str
 at_:Int
 value:Vec
def Hop.toD (x:Hop):D:= .st [.i .i64 x.kind,.s x.name,.s x.frm,.i .i64 x.at_,x.value.toD]
theorem qQ (x:Hop):x.toD= .st [.i .i64 x.kind,.s x.name,.s x.frm,.i .i64 x.at_,x.value.toD]:=qf
theorem lQ {x:Hop} {cs:List Value} (h:rep w B x.toD cs):∃(eL:Option Addr) (eS:Nat) (eO:Nat) (eN:Option Addr) (eU:Nat) (eQ:Nat) (eM:Option Addr) (eT:Nat) (eP:Nat) (fh:Option Addr) (fo:Nat) (fk:Nat) (eD:Option Addr) (eF:Nat) (eE:Nat),cs=[.int .i64 x.kind,sv x.name,sv x.frm,.int .i64 x.at_,.int .i64 x.value.kind,.slice eL eS eO,.slice eN eU eQ,.slice eM eT eP,.slice fh fo fk,.slice eD eF eE,.int .i64 x.value.code,.int .i64 x.value.env]/\(Lit.int .i64 x.kind).wf=true/\x.name.length<=maxLen/\x.frm.length<=maxLen/\(Lit.int .i64 x.at_).wf=true/\rep w B x.value.toD [x.value.kind,.slice eL eS eO,.slice eN eU eQ,.slice eM eT eP,.slice fh fo fk,.slice eD eF eE,x.value.code,x.value.env]:=by rw[qQ,rep]at h;obtain⟨css,rfl,h⟩:=h;rw[gb]at h;obtain⟨c0,css,rfl,k0,h⟩:=h;rw[gb]at h;obtain⟨c1,css,rfl,k1,h⟩:=h;rw[gb]at h;obtain⟨c2,css,rfl,k2,h⟩:=h;rw[gb]at h;obtain⟨c3,css,rfl,k3,h⟩:=h;rw[gb]at h;obtain⟨c4,css,rfl,k4,h⟩:=h;rw[gb]at h;subst h;rw[rep]at k0;obtain⟨rfl,k0⟩:=k0;rw[rep]at k1;obtain⟨rfl,k1⟩:=k1;rw[rep]at k2;obtain⟨rfl,k2⟩:=k2;rw[rep]at k3;obtain⟨rfl,k3⟩:=k3;obtain⟨Fw,FE,FB,FA,FH,FD,Fy,FG,FC,LW,LY,LX,Cq,Cs,Cr,rfl,_⟩:=fw k4;exact⟨Fw,FE,FB,FA,FH,FD,Fy,FG,FC,LW,LY,LX,Cq,Cs,Cr,rfl,k0,k1,k2,k3,k4⟩
theorem OS {x:Hop} {eL:Option Addr} {eS:Nat} {eO:Nat} {eN:Option Addr} {eU:Nat} {eQ:Nat} {eM:Option Addr} {eT:Nat} {eP:Nat} {fh:Option Addr} {fo:Nat} {fk:Nat} {eD:Option Addr} {eF:Nat} {eE:Nat} {Fvalue:List Nat} (tu:(Lit.int .i64 x.kind).wf=true) (Kj:x.name.length<=maxLen) (Tp:x.frm.length<=maxLen) (V9:(Lit.int .i64 x.at_).wf=true) (me:own prog w (x.value.toD) 38 Fvalue [x.value.kind,.slice eL eS eO,.slice eN eU eQ,.slice eM eT eP,.slice fh fo fk,.slice eD eF eE,x.value.code,x.value.env]):own prog w x.toD 40 (Fvalue++[]) [x.kind,sv x.name,sv x.frm,x.at_,x.value.kind,.slice eL eS eO,.slice eN eU eQ,.slice eM eT eP,.slice fh fo fk,.slice eD eF eE,x.value.code,x.value.env]:=by rw[qQ,own];exact⟨_,[[.int .i64 x.kind],[sv x.name],[sv x.frm],[.int .i64 x.at_],[.int .i64 x.value.kind,.slice eL eS eO,.slice eN eU eQ,.slice eM eT eP,.slice fh fo fk,.slice eD eF eE,.int .i64 x.value.code,.int .i64 x.value.env]],underlying40,rfl,(fg (F1:=[]) (by rw[own];exact⟨rfl,rfl,tu⟩) (fg (F1:=[]) (by rw[own];exact⟨rfl,rfl,Kj⟩) (fg (F1:=[]) (by rw[own];exact⟨rfl,rfl,Tp⟩) (fg (F1:=[]) (by rw[own];exact⟨rfl,rfl,V9⟩) (fg me p_)))))⟩
theorem wG (x:Hop):szD x.toD=x.name.length+(x.frm.length+(szD (x.value.toD))):=by rw[qQ];simp only[szD,gv];omega
def C9 (x:Hop):Prop:=∀(cs:List Value) (n:Int) (w:World),rep w w.heap.size x.toD cs->0<=n->n<=1048576->Calls prog 27 #[.agg cs.toArray,n] w λe w'=>e= .returned (.int .i64 (jQ (szD x.toD) n))/\Below w.heap.size w w'
theorem Oa (x:Hop):C9 x:=by
 intro cs n w h h0 h1;have kD:=wG x;obtain⟨eL,eS,eO,eN,eU,eQ,eM,eT,eP,fh,fo,fk,eD,eF,eE,rfl,tu,Kj,Tp,V9,me⟩:=lQ h;have q0:=(Below.refl w.heap.size w).alloc (af _) (.cells #[x.kind,sv x.name,sv x.frm,x.at_,x.value.kind,.slice eL eS eO,.slice eN eU eQ,.slice eM eT eP,.slice fh fo fk,.slice eD eF eE,x.value.code,x.value.env] 65);have Cd:=aa kD;clear kD;have akD:x.name.length<=9223372036854775807:=Kj;have ufrm:x.frm.length<=9223372036854775807:=Tp;go_enter func27,ntmps27;by_cases g0:n<(x.name.length:Int)
 ·have d0:decide (n - (x.name.length:Int)<0)=true:=dS;go_wp2_with fail;go_ret;exact⟨eZ mo,q0⟩
 have d0:decide (n - (x.name.length:Int)<0)=false:=dS;by_cases g1:(n - x.name.length)<(x.frm.length:Int)
 ·have d1:decide ((n - x.name.length) - (x.frm.length:Int)<0)=true:=dS;go_wp2_with fail;go_ret;exact⟨eZ mo,q0⟩
 have d1:decide ((n - x.name.length) - (x.frm.length:Int)<0)=false:=dS;go_wp2_with fail;refine(Au x.value _ _ _ (fb me q0 q0.size) dP dP).mono ?_;rintro e w1 ⟨rfl,b1⟩;obtain⟨hc1,_⟩:=fY b1;have z1:=b1.size
 (try simp only[dT]at hc1 z1)
 have y1:w.heap.size<w1.heap.size:=dP;have q1:=ij q0 b1;by_cases g2:jQ (szD (x.value.toD)) ((n - x.name.length) - x.frm.length)<0
 ·have Xs:((n - x.name.length) - x.frm.length)<((szD (x.value.toD):Nat):Int):=n9;go_wp2_with fail;go_ret;exact⟨eZ mo,q1⟩
 have Xs:((szD (x.value.toD):Nat):Int)<=((n - x.name.length) - x.frm.length):=n9;have e2:jQ (szD (x.value.toD)) ((n - x.name.length) - x.frm.length)=((n - x.name.length) - x.frm.length) - ((szD (x.value.toD):Nat):Int):=l8 Xs;obtain⟨m2,DK⟩:∃m:Int,m=jQ (szD (x.value.toD)) ((n - x.name.length) - x.frm.length):=⟨_,rfl⟩;rw[<-DK]at g2 e2 ⊢;have E2:=aa e2;have M2:=aa DK;have le2:0<=m2/\m2<=((n - x.name.length) - x.frm.length):=dP;clear e2 DK;skip;go_wp2_with fail;go_ret;exact⟨eZ (by rw[Cd.out,jQ,aN (by have:=E2.out;omega)]<;>(have:=E2.out;omega)),q1⟩
theorem At (x:Hop):C9 x:=Oa x
def C_ (x:Hop):Prop:=∀(cs:List Value) (w:World),rep w w.heap.size x.toD cs->szD x.toD<=1048576->Calls prog 29 #[.agg cs.toArray] w (gM x.toD 40 w)
theorem Oh (x:Hop):C_ x:=by
 intro cs w h hz;have kD:=wG x;rw[kD]at hz;clear kD;obtain⟨eL,eS,eO,eN,eU,eQ,eM,eT,eP,fh,fo,fk,eD,eF,eE,rfl,tu,Kj,Tp,V9,me⟩:=lQ h;go_enter func29,ntmps29;go_wp2_with fail;refine(Ay x.value _ _ (fb me km fC) dP).mono ?_;rintro e w1 ⟨k1,G1,rfl,o1,AP,b1⟩;obtain⟨qY,rd,q_,q9,rg,rb,qZ,rf,ra,tN,tP,tO,qs,qu,qt,rfl,_⟩:=fw (eW _ _ _ _ o1);obtain⟨hc1,hf1⟩:=fY b1;have z1:=b1.size;simp only[dT,dX]at hc1 hf1 z1 AP;have q1:Below w.heap.size w w1:=Below.trans km (b1.mono fC);have Wc:w.heap.size<w1.heap.size:=dP;have Wd:w.heap.size+1<w1.heap.size:=dP;have y1c:w.heap.size+1+1<w1.heap.size:=dP;go_wp2_with fail;skip;refine bM (v:= .agg #[x.kind,sv x.name,sv x.frm,x.at_,x.value.kind,.slice qY rd q_,.slice q9 rg rb,.slice qZ rf ra,.slice tN tP tO,.slice qs qu qt,x.value.code,x.value.env]) (by simp [results,results29,go_sem,hc1,Wc,Wd,y1c]) rfl ⟨_,G1++[],rfl,?_,?_,?_⟩
 ·refine OS tu Kj Tp V9 ?_
  ·repeat'(first|with_reducible exact o1|refine lG ?_ ?_ _|(exact AP.notin jh))
 ·have k0:Fresh w1.heap.size []:=Fresh.nil;have j1:=Fresh.app AP (jT _ _ _ _ o1) k0 dP;exact j1.mono dP
 ·exact mh
theorem Ax (x:Hop):C_ x:=Oh x
def C7 (x:Hop):Prop:=∀(cs cs':List Value) (w:World),rep w w.heap.size x.toD cs->rep w w.heap.size x.toD cs'->Calls prog 30 #[.agg cs.toArray,.agg cs'.toArray] w λe w'=>e= .returned (.bool true)/\Below w.heap.size w w'
theorem MF (x:Hop):C7 x:=by
 intro cs cs' w h h';obtain⟨eL,eS,eO,eN,eU,eQ,eM,eT,eP,fh,fo,fk,eD,eF,eE,rfl,tu,Kj,Tp,V9,me⟩:=lQ h;obtain⟨mX,nE,m_,mZ,nI,no,mY,nH,nj,pP,p8,pT,lN,l9,lT,rfl,ach,aix,akJ,akF,LE⟩:=lQ h';have aev:(x.kind != x.kind)=false:=dR;have aj8:(x.name==x.name)=true:=dR;have ifrm:(x.frm==x.frm)=true:=dR;have iat_:(x.at_ != x.at_)=false:=dR;have q0:=((Below.refl w.heap.size w).alloc (af _) (.cells #[x.kind,sv x.name,sv x.frm,x.at_,x.value.kind,.slice eL eS eO,.slice eN eU eQ,.slice eM eT eP,.slice fh fo fk,.slice eD eF eE,x.value.code,x.value.env] 40)).alloc eA (.cells #[x.kind,sv x.name,sv x.frm,x.at_,x.value.kind,.slice mX nE m_,.slice mZ nI no,.slice mY nH nj,.slice pP p8 pT,.slice lN l9 lT,x.value.code,x.value.env] 40);go_enter func30,ntmps30;go_wp2_with fail;refine(zv x.value _ _ _ (fb me q0 q0.size) (fb LE q0 q0.size)).mono ?_;rintro e w1 ⟨rfl,b1⟩;obtain⟨hc1,_⟩:=fY b1;have z1:=b1.size
 (try simp only[dT]at hc1 z1)
 have Wc:w.heap.size<w1.heap.size:=dP;have Wd:w.heap.size+1<w1.heap.size:=dP;have q1:=ij q0 b1;go_wp2_with fail;go_ret;exact⟨rfl,q1⟩
theorem KQ (x:Hop):C7 x:=MF x
theorem Ny (d:Nat) (Us:(d:Int)<=100):isP d:=by
 induction d with
 |zero=>exact QZ 0 Us (λd' h=>by omega)
 |succ d ih=>
  refine QZ (d+1) Us (λd' h=>?_);have hdd:d'=d:=dP;rw[hdd];exact ih dP
theorem ew (v:Vec) (cs:List Value) (w:World) (h:rep w w.heap.size v.toD cs) (ga:bigV v):
 Calls prog 67 #[av cs] w λe w'=>e= .returned (.bool (isVec v))/\Below w.heap.size w w':=by
 have hcb:=ga.cells;obtain⟨Ai,ni,ci,Ap,np,cp,An,nn,cn,Ac,nc,cc,Al,nl,cl,rfl,hv⟩:=iy h;have q0:=(Below.refl w.heap.size w).alloc (af _) (.cells (vc v Ai ni ci Ap np cp An nn cn Ac nc cc Al nl cl).toArray 38);go_enter func67,ntmps67;go_wp2_with fail;refine(Ny 3 dP v _ _ (fM h q0) ga).mono ?_;rintro e w1 ⟨rfl,hb1⟩;have q1:=ij q0 hb1;obtain⟨hc1,_⟩:=fY hb1;simp only[dT]at hc1;cases hp:okD 3 v with
 |false=>
  go_wp2_with fail;go_ret;exact⟨dZ (by rw[isVec,hp];rfl),q1⟩
 |true=>
 go_wp2_with fail;refine(Nx v _ _ (fM (fM h q0) hb1) ga).mono ?_;rintro e w2 ⟨rfl,jS⟩;have HR:=aa (show isVec v=decide (jF v<=200) by rw[isVec,hp];rfl);go_wp2_with fail;go_ret;exact⟨dZ (by rw[HR.out,dL];omega),ij q1 jS⟩
def AV (x:Hop):Bool:=
 if x.kind=0 then x.frm.isEmpty&&decide (x.at_=0)
 else if x.kind=2 then x.frm.isEmpty&&decide (1<=x.at_/\x.at_<=40)&&atomK x.value.kind&&decide (x.value.items.length=1)
 else if x.kind=1\/x.kind=3 then isNm x.frm&&decide (x.at_=0/\x.value.kind=0) else false
def je (x:Hop):Bool:=isNm x.name&&isVec x.value&& !xN x.value&&AV x
theorem kS (x:Hop) (cs:List Value) (w:World) (h:rep w w.heap.size x.toD cs) (ga:bigV x.value):
 Calls prog 36 #[av cs] w λe w'=>e= .returned (.bool (je x))/\Below w.heap.size w w':=by
 obtain⟨Ai,ni,ci,Ap,np,cp,An,nn,cn,Ac,nc,cc,Al,nl,cl,rfl,wk,wn,wf,wa,gF⟩:=lQ h;obtain⟨Ru,SN,RP,Rx,SP,RS,Ct,CE,Hw,L4,JS,L7,Rv,SO,Mz,lK,hv⟩:=iy gF;injection lK with _ lK;injection lK with e1 lK;injection lK with e2 lK;injection lK with e3 lK;injection lK with e4 lK;injection lK with e5 lK
 injection e1 with e11 e12 e13;subst e11 e12 e13
 have OQ:=aa hv.it.len;have L_:=Blk.new_ w 40 #[x.kind,sv x.name,sv x.frm,x.at_,x.value.kind,.slice Ai ni ci,.slice Ap np cp,.slice An nn cn,.slice Ac nc cc,.slice Al nl cl,x.value.code,x.value.env];have q0:=(Below.refl w.heap.size w).alloc (af _) (.cells #[x.kind,sv x.name,sv x.frm,x.at_,x.value.kind,.slice Ai ni ci,.slice Ap np cp,.slice An nn cn,.slice Ac nc cc,.slice Al nl cl,x.value.code,x.value.env] 40);have HI:=aa (show je x=(isNm x.name&&isVec x.value&& !xN x.value&&AV x) from rfl);clear e2 e3 e4 e5 lK;go_enter func36,ntmps36;go_wp2_with fail;refine(jK x.name _ wn).mono ?_;rintro e w1 ⟨rfl,rfl⟩;cases hn:isNm x.name with
 |false=>
  go_wp2_with fail;go_ret;exact⟨dZ (by rw[HI.out,hn];rfl),q0⟩
 |true=>
 go_wp2_with fail;refine(ff x.value _ _ (fM gF q0) ga).mono ?_;rintro e w2 ⟨rfl,jS⟩;have q2:=ij q0 jS;have U9:=L_.next jS;obtain⟨hc2,_⟩:=fY jS;simp only[dT]at hc2;cases hvv:isVec x.value with
 |false=>
  go_wp2_with fail;go_ret;exact⟨dZ (by rw[HI.out,hn,hvv];rfl),q2⟩
 |true=>
 go_wp2_with fail;refine(Cg x.value _ _ (fM (fM gF q0) jS)).mono ?_;rintro e w3 ⟨rfl,lE⟩;have q3:=ij q2 lE;have tz:=U9.next lE;have c0:=tz.cell 0;have c2:=tz.cell 2;have c3:=tz.cell 3;have c4:=tz.cell 4;have c5:=tz.cell 5;have c6:=tz.cell 6;have c7:=tz.cell 7;have c8:=tz.cell 8;have c9:=tz.cell 9;have c10:=tz.cell 10;have c11:=tz.cell 11;simp only[ah,ag]at c0 c2 c3 c4 c5 c6 c7 c8 c9 c10 c11;clear hc2;cases hff:xN x.value with
 |true=>
  go_wp2_with fail;go_ret;exact⟨dZ (by rw[HI.out,hn,hvv,hff];rfl),q3⟩
 |false=>
 have HR:=aa (show je x=AV x by rw[HI.out,hn,hvv,hff];rfl);by_cases k0:x.kind=0
 ·exact F0
 have t0:(x.kind==0)=false:=by simpa using k0
 by_cases k2:x.kind=2
 ·have t2:(x.kind==2)=true:=ot;have HK:=aa (show je x=(x.frm.isEmpty&&decide (1<=x.at_/\x.at_<=40)&&atomK x.value.kind&&decide (ni=1)) by rw[HR.out,AV,aH k0,aN k2,OQ.out]);clear k0 k2;cases hfe:x.frm.isEmpty with
  |false=>
   go_wp2_with fail;go_ret;exact⟨dZ (by rw[HK.out,hfe];rfl),q3⟩
  |true=>
  by_cases ha:1<=x.at_/\x.at_<=40
  case neg=>
   have HB:=aa (show je x=false by rw[HK.out,aK ha];simp);have HA:=aa ha;clear ha;go_wp2_with fail;all_goals first|(go_ret;exact⟨dZ HB.out.symm,q3⟩)|(exfalso;apply HA.out;omega)
  have a1:decide (1<=x.at_)=true:=aM ha.1;have a2:decide (x.at_<=40)=true:=aM ha.2;have HK2:=aa (show je x=(atomK x.value.kind&&decide (ni=1)) by rw[HK.out,hfe,aM ha];rfl);go_wp2_with fail;refine(oY x.value _ _ (fb gF q3 q3.size)).mono ?_;rintro e w4 ⟨rfl,DB⟩;have c45:=(tz.next DB).cell 5;simp only[ah,ag]at c45;cases hat:atomK x.value.kind with
  |false=>
   go_wp2_with fail;go_ret;exact⟨dZ (by rw[HK2.out,hat];rfl),ij q3 DB⟩
  |true=>
   go_wp2_with fail;go_ret;exact⟨dZ (by rw[HK2.out,hat,aj,bg];simp;omega),ij q3 DB⟩
 have t2:(x.kind==2)=false:=ot;by_cases k13:x.kind=1\/x.kind=3
 ·have HK:=aa (show je x=(isNm x.frm&&decide (x.at_=0/\x.value.kind=0)) by rw[HR.out,AV,aH k0,aH k2,aN k13]);clear k0 k2;rcases k13 with k1|k1
  case' inl=>have t1:(x.kind==1)=true:=by simpa using k1
  case' inr=>
   have t1:(x.kind==1)=false:=dS;have t3:(x.kind==3)=true:=by simpa using k1
  all_goals
   clear k1;go_wp2_with fail;refine(jK x.frm _ wf).mono ?_;rintro e w4 ⟨rfl,rfl⟩;cases hnf:isNm x.frm
   case false=>
    go_wp2_with fail;go_ret;exact⟨dZ (by rw[HK.out,hnf];rfl),q3⟩
   go_wp2_with fail;all_goals (go_ret;refine⟨dZ ?_,q3⟩;rw[HK.out,hnf,aj,bg];simp [*])
 ·have t1:(x.kind==1)=false:=dS;have t3:(x.kind==3)=false:=dS;have HK:=aa (show je x=false by rw[HR.out,AV,aH k0,aH k2,aH k13]);clear k0 k2 k13;go_wp2_with fail;go_ret;exact⟨dZ HK.out.symm,q3⟩
theorem kZ (x:Hop) (cs:List Value) (w:World) (h:rep w w.heap.size x.toD cs) (ga:bigV x.value):
 Calls prog 47 #[av cs] w λe w'=>e= .returned (.bool (je x))/\Below w.heap.size w w':=by
 obtain⟨Ai,ni,ci,Ap,np,cp,An,nn,cn,Ac,nc,cc,Al,nl,cl,rfl,wk,wn,wf,wa,gF⟩:=lQ h;obtain⟨Ru,SN,RP,Rx,SP,RS,Ct,CE,Hw,L4,JS,L7,Rv,SO,Mz,lK,hv⟩:=iy gF;injection lK with _ lK;injection lK with e1 lK;injection lK with e2 lK;injection lK with e3 lK;injection lK with e4 lK;injection lK with e5 lK
 injection e1 with e11 e12 e13;subst e11 e12 e13
 have OQ:=aa hv.it.len;have L_:=Blk.new_ w 40 #[x.kind,sv x.name,sv x.frm,x.at_,x.value.kind,.slice Ai ni ci,.slice Ap np cp,.slice An nn cn,.slice Ac nc cc,.slice Al nl cl,x.value.code,x.value.env];have q0:=(Below.refl w.heap.size w).alloc (af _) (.cells #[x.kind,sv x.name,sv x.frm,x.at_,x.value.kind,.slice Ai ni ci,.slice Ap np cp,.slice An nn cn,.slice Ac nc cc,.slice Al nl cl,x.value.code,x.value.env] 40);have HI:=aa (show je x=(isNm x.name&&isVec x.value&& !xN x.value&&AV x) from rfl);clear e2 e3 e4 e5 lK;go_enter func47,ntmps47;go_wp2_with fail;refine(gj _ _ _ _).mono ?_;rintro e w1 ⟨rfl,rfl⟩;cases hk:decide (0<=x.kind/\x.kind<=3) with
 |false=>
  have HB:=aa (show je x=false by have:=dm hk;rw[HI.out,AV,aH dP,aH dP,aH dP];simp)
  go_wp2_with fail;go_ret;exact⟨dZ HB.out.symm,q0⟩
 |true=>
 have hk':=cD hk;clear hk;go_wp2_with fail;refine(jL x.name _ wn).mono ?_;rintro e w1 ⟨rfl,rfl⟩;cases hn:isNm x.name with
 |false=>
  go_wp2_with fail;go_ret;exact⟨dZ (by rw[HI.out,hn];rfl),q0⟩
 |true=>
 go_wp2_with fail;refine(ew x.value _ _ (fM gF q0) ga).mono ?_;rintro e w2 ⟨rfl,jS⟩;have q2:=ij q0 jS;have U9:=L_.next jS;obtain⟨hc2,_⟩:=fY jS;simp only[dT]at hc2;cases hvv:isVec x.value with
 |false=>
  go_wp2_with fail;go_ret;exact⟨dZ (by rw[HI.out,hn,hvv];rfl),q2⟩
 |true=>
 go_wp2_with fail;refine(xT x.value _ _ (fM (fM gF q0) jS)).mono ?_;rintro e w3 ⟨rfl,lE⟩;have q3:=ij q2 lE;have tz:=U9.next lE;have c0:=tz.cell 0;have c2:=tz.cell 2;have c3:=tz.cell 3;have c4:=tz.cell 4;have c5:=tz.cell 5;simp only[ah,ag]at c0 c2 c3 c4 c5;clear hc2;cases hff:xN x.value with
 |true=>
  go_wp2_with fail;go_ret;exact⟨dZ (by rw[HI.out,hn,hvv,hff];rfl),q3⟩
 |false=>
 have HR:=aa (show je x=AV x by rw[HI.out,hn,hvv,hff];rfl);by_cases k0:x.kind=0
 ·exact F0
 have t0:(x.kind==0)=false:=by simpa using k0
 by_cases k2:x.kind=2
 ·have t2:(x.kind==2)=true:=ot;have HK:=aa (show je x=(x.frm.isEmpty&&decide (1<=x.at_/\x.at_<=40)&&atomK x.value.kind&&decide (ni=1)) by rw[HR.out,AV,aH k0,aN k2,OQ.out]);clear k0 k2;cases hfe:x.frm.isEmpty with
  |false=>
   go_wp2_with fail;go_ret;exact⟨dZ (by rw[HK.out,hfe];rfl),q3⟩
  |true=>
  go_wp2_with fail;refine(gj _ _ _ _).mono ?_;rintro e w4 ⟨rfl,rfl⟩;cases ha:decide (1<=x.at_/\x.at_<=40) with
  |false=>
   go_wp2_with fail;go_ret;exact⟨dZ (by rw[HK.out,ha];simp),q3⟩
  |true=>
  go_wp2_with fail;refine(gj _ _ _ _).mono ?_;rintro e w4 ⟨rfl,rfl⟩;cases hat:decide (1<=x.value.kind/\x.value.kind<=3) with
  |false=>
   go_wp2_with fail;go_ret;exact⟨dZ (by rw[HK.out,atomK,hat];simp),q3⟩
  |true=>
   go_wp2_with fail;go_ret;exact⟨dZ (by rw[HK.out,atomK,hat,ha,hfe,aj,aj,aj,bg];simp;omega),q3⟩
 have t2:(x.kind==2)=false:=ot;have HK:=aa (show je x=(isNm x.frm&&decide (x.at_=0/\x.value.kind=0)) by rw[HR.out,AV,aH k0,aH k2,aN dP]);clear k0 k2;go_wp2_with fail;refine(jL x.frm _ wf).mono ?_;rintro e w4 ⟨rfl,rfl⟩;cases hnf:isNm x.frm with
 |false=>
  go_wp2_with fail;go_ret;exact⟨dZ (by rw[HK.out,hnf];rfl),q3⟩
 |true=>
 go_wp2_with fail;all_goals (go_ret;refine⟨dZ ?_,q3⟩;rw[HK.out,hnf,aj,bg];simp [*])
def js (st:Hp->Vec->Hp × Int) (s:Hp × List Int) (p:Vec):Hp × List Int:=((st s.1 p).1,s.2++[(st s.1 p).2])
abbrev noParts (v:Vec):Vec:={v with parts:=[]}
def fL:Nat->Hp->Vec->Hp × Int
 |0,h,_=>(h,0)
 |f+1,h,v=>gH (v.parts.foldl (js (fL f)) (h,[])).1 ⟨1,noParts v,(v.parts.foldl (js (fL f)) (h,[])).2⟩
def Ba (ok:Hp->Vec->Prop) (st:Hp->Vec->Hp × Int):Hp × List Int->List Vec->Prop
 |_,[]=>True
 |s,p::t=>ok s.1 p/\Ba ok st (js st s p) t
def rX:Nat->Hp->Vec->Prop
 |0,_,_=>False
 |f+1,h,v=>Ba (rX f) (fL f) (h,[]) v.parts/\((v.parts.foldl (js (fL f)) (h,[])).1.cells.length:Int)<=1073741824/\szD v.toD<=100000000000/\(v.parts.length:Int)<=1073741824
theorem qC {α:Type} {f:α->Vec->α} {l:List Vec} {a:α} {j:Nat} {y:Vec} (h:l[j]?=some y):(l.take (j+1)).foldl f a=f ((l.take j).foldl f a) y:=by rw[List.take_add_one,h,List.foldl_append];rfl
theorem vL {ok:Hp->Vec->Prop} {st:Hp->Vec->Hp × Int}:∀{l:List Vec} {s:Hp × List Int} {j:Nat} {y:Vec},Ba ok st s l->l[j]?=some y->ok ((l.take j).foldl (js st) s).1 y
 |[],_,_,_,_,h'=>by simp at h'
 |p::t,s,0,y,ho,h'=>by simp at h';subst h';rw[Ba]at ho;exact ho.1
 |p::t,s,j+1,y,ho,h'=>by simp at h';rw[Ba]at ho;rw[cG,bC];exact vL ho.2 h'
theorem tM:∀{l:List Cel} {i k:Nat},gy l i=some k->k<i+l.length
 |[],i,k,h=>by simp [gy]at h
 |c::t,i,k,h=>by
  rw[gy]at h;split at h
  ·injection h with h;simp;omega
  ·have:=tM h;simp;omega
theorem E6 {h:Hp} {c:Cel} (hl:(h.cells.length:Int)<=1073741824):(Lit.int .i64 (gH h c).2).wf=true:=by
 rw[kP];unfold gH;cases hf:gy h.cells 0 with
 |none=>simp only;omega
 |some k=>have:=tM hf;simp only;omega
def ab1 (fn:Nat) (f:Nat):Prop:=∀(h:Hp) (v:Vec) (g:Nat) (F:List Nat) (B:Nat) (cs:List Value) (w:World),HB w g h F->rep w B v.toD cs->B<=w.heap.size->(∀y∈g::F,B<=y)->rX f h v->
 Calls prog fn #[.pointer (some ⟨g,0,none⟩),.agg cs.toArray] w λe w'=>e= .returned (.int .i64 (fL f h v).2)/\(Lit.int .i64 (fL f h v).2).wf=true/\∃F',HB w' g (fL f h v).1 F'/\Sub w.heap.size F F'/\Mod (g::F) w w'
theorem air {g:Nat} {t:TypeId} {p q a' b' c' d' e' f' h' i':Value} (k:Blk w g t [p,a',b',c',d',e',f',h',i',q]) (a b c d e f h i:Value):
 Blk ((((((((w.setCell ⟨g,1,none⟩ a).setCell ⟨g,2,none⟩ b).setCell ⟨g,3,none⟩ c).setCell ⟨g,4,none⟩ d).setCell ⟨g,5,none⟩ e).setCell ⟨g,6,none⟩ f).setCell ⟨g,7,none⟩ h).setCell ⟨g,8,none⟩ i) g t [p,a,b,c,d,e,f,h,i,q]/\Mod [g] w ((((((((w.setCell ⟨g,1,none⟩ a).setCell ⟨g,2,none⟩ b).setCell ⟨g,3,none⟩ c).setCell ⟨g,4,none⟩ d).setCell ⟨g,5,none⟩ e).setCell ⟨g,6,none⟩ f).setCell ⟨g,7,none⟩ h).setCell ⟨g,8,none⟩ i):=by
 have P:∀(w:World) (o:Nat) (u:Value),Mod [g] w (w.setCell ⟨g,o,none⟩ u):=λw o u=>Mod.poke (F:=[g]) (p:=⟨g,o,none⟩) dR u
 exact⟨(((((((k.set_ 1 a).set_ 2 b).set_ 3 c).set_ 4 d).set_ 5 e).set_ 6 f).set_ 7 h).set_ 8 i,iV (iV (iV (iV (iV (iV (iV (P _ _ _) (P _ _ _) (λ_ h=>h)) (P _ _ _) (λ_ h=>h)) (P _ _ _) (λ_ h=>h)) (P _ _ _) (λ_ h=>h)) (P _ _ _) (λ_ h=>h)) (P _ _ _) (λ_ h=>h)) (P _ _ _) (λ_ h=>h)⟩
theorem nK:rep w B (.sl []) [()]:=by rw[rep];exact⟨none,0,0,0,[],rfl,af _,by unfold maxLen;omega,Reads.nil_,EO⟩
theorem PO (v:Vec):szD (noParts v).toD<=szD v.toD:=by rw[go,go];simp only[szD,gv,bL,bf];omega
theorem Ew:∀{d:Nat} {v:Vec},okD d v=true->okD (d+1) v=true
 |0,v,h=>by rw[s8,ax]at h ⊢;refine⟨h.1,?_⟩;have:=h.2;simp only[PR,dh]at this;simp [PR,this]
 |d+1,v,h=>by rw[s8,ax]at h ⊢;refine⟨h.1,?_⟩;have h2:=h.2;simp only[PR,aV]at h2 ⊢;exact λy hy=>Ew (h2 y hy)
theorem n7 {d:Nat} {v:Vec} (h:okD d v=true):(∀y∈v.parts,∃d',d=d'+1/\okD d' y=true)/\v.parts.length<=40:=by
 rw[s8]at h;simp only[ax]at h;obtain⟨⟨⟨⟨hA,_⟩,hC⟩,_⟩,hL⟩:=h;refine⟨λy hy=>?_,?_⟩
 ·cases d with
  |zero=>simp only[PR,dh]at hL;rw[hL]at hy;simp at hy
  |succ d=>simp only[PR,aV]at hL;exact⟨d,rfl,hL y hy⟩
 ·simp only[CO,ax,aL]at hA;simp only[P6,aL]at hC;have h40:=hA.1.1.2.2;unfold lenV at h40;split at h40
  ·rename_i h5
   unfold IZ at hC;have:v.parts.length=0:=dP;omega
  ·omega
def lcP (v:Vec):Prop:=∀(cs:List Value) (w:World),okD 3 v=true->szD v.toD<=500000000000->rep w w.heap.size v.toD cs->Calls prog 56 #[av cs] w (gM v.toD 38 w)
theorem BF (l:List Vec) (ih:∀y∈l,lcP y) (jV:∀y∈l,okD 3 y=true/\szD y.toD<=500000000000) (h40:l.length<=40) (A:Option Addr) (n c:Nat) (w:World) (h:rep w w.heap.size (.sl (l.map Vec.toD)) [.slice A n c]):
 Calls prog 127 #[.slice A n c] w (oK (l.map Vec.toD) 36 w):=by
 obtain⟨kO,hlc,sT⟩:=ef h;rw[au]at kO;have hn:n<=40:=dP;have HL:=aa kO;have HI:=aa ih;have HK:=aa jV;have x0:Below w.heap.size w (w.alloc (.cells #[] 38)):=(Below.refl _ _).alloc (af _) _;clear kO ih jV h40;go_enter func127,ntmps127;go_wp2_with fail;go_loopw [3,4] (λo i wr=>∃(j:Nat) (A':Option Addr) (c':Nat) (Fo:List Nat),j<=n/\i= .int .i64 j/\o= .slice A' j c'/\own prog wr (.sl ((l.take j).map Vec.toD)) 36 Fo [.slice A' j c']/\Fresh w.heap.size Fo/\Below w.heap.size w wr) (λ_ i _=>n - (intOf i).toNat)
 case atStart=>exact⟨0,some ⟨w.heap.size,0,none⟩,0,[w.heap.size],by omega,rfl,rfl,rW underlying36,⟨by simp,by simp⟩,x0⟩
 case round=>
  obtain⟨j,A',c',Fo,hj,rfl,rfl,oo,fro,bel⟩:=hrel;by_cases hlt:j<n
  ·obtain⟨b,off,x,Ei,ui,vi,Ep,up,vp,En,un,vn,Ec,uc,vc,El,ul,vl,rfl,gD,hx,fE,e0,e1,e2,e3,e4,e5,e6,e7⟩:=my (fF h bel) hlt;have hm:=aA hx;have WB:=HK.out x hm;have HX:=aa hx;have HCP:=aa (HI.out x hm);have HOX:=aa WB.1;have ahV:=WB.2;have loo:=gC oo;have zr:=bel.size;have uK:b<wr.heap.size:=dP;have j40:(j:Int)<=40:=dP;have j41:(j:Int)<(n:Int):=dP;have j0:(0:Int)<=(j:Int):=dP;clear hx hm WB;go_wp2_with fail;refine(Ny 3 dP x _ _ (gY fE zr) (by unfold bigV;omega)).mono ?_;rw[HOX.out];rintro e w1 ⟨rfl,hb1⟩;have c0:=(hb1.cell (p:=⟨b,off+j*8,none⟩) uK).trans e0;have c1:=(hb1.cell (p:=⟨b,off+j*8+1,none⟩) uK).trans e1;have c2:=(hb1.cell (p:=⟨b,off+j*8+2,none⟩) uK).trans e2;have c3:=(hb1.cell (p:=⟨b,off+j*8+3,none⟩) uK).trans e3;have c4:=(hb1.cell (p:=⟨b,off+j*8+4,none⟩) uK).trans e4;have c5:=(hb1.cell (p:=⟨b,off+j*8+5,none⟩) uK).trans e5;have c6:=(hb1.cell (p:=⟨b,off+j*8+6,none⟩) uK).trans e6;have c7:=(hb1.cell (p:=⟨b,off+j*8+7,none⟩) uK).trans e7;have ago:=ij bel hb1;have z1:=hb1.size;have WE:=fM (gY fE zr) hb1;replace oo:=em oo hb1;clear e0 e1 e2 e3 e4 e5 e6 e7;go_wp2_with (first
    |(go_at_call 56;refine(HCP.out _ w1 HOX.out ahV WE).mono ?_;rintro e w2 ⟨cs2,G2,rfl,o2,fr2,jS⟩;obtain⟨Bi,mi,di,Bp,mp,dp,Bn,mn,dn,Bc,mc,dc,Bl,ml,dl,rfl,-⟩:=fw (eW _ _ _ _ o2);have z2:=jS.size;have x2:Below w2.heap.size w2 (w2.alloc (.cells #[x.kind,.slice Bi mi di,.slice Bp mp dp,.slice Bn mn dn,.slice Bc mc dc,.slice Bl ml dl,x.code,x.env] 38)):=(Below.refl _ _).alloc (af _) _;have kn2:Blk (w2.alloc (.cells #[x.kind,.slice Bi mi di,.slice Bp mp dp,.slice Bn mn dn,.slice Bc mc dc,.slice Bl ml dl,x.code,x.env] 38)) w2.heap.size 38 [x.kind,.slice Bi mi di,.slice Bp mp dp,.slice Bn mn dn,.slice Bc mc dc,.slice Bl ml dl,x.code,x.env]:=Blk.new' (l:=[.int .i64 x.kind,.slice Bi mi di,.slice Bp mp dp,.slice Bn mn dn,.slice Bc mc dc,.slice Bl ml dl,.int .i64 x.code,.int .i64 x.env]))
    |(at_builtin;refine n8 (xs:=(l.take j).map Vec.toD) (F:=Fo) (d:=x.toD) (F':=G2) (b:=w2.heap.size) (m:=1) (te:=38) (cs:=[.int .i64 x.kind,.slice Bi mi di,.slice Bp mp dp,.slice Bn mn dn,.slice Bc mc dc,.slice Bl ml dl,.int .i64 x.code,.int .i64 x.env]) jM dU rfl _ _ rfl rfl (em (em oo jS) x2) rfl kn2 (em o2 x2) rfl ?_ eb dP ?_;(exact aE.2 ⟨fro.1,fr2.1,λa ha b hb e=>by have h1:=loo a ha;have h2:=fr2.2 b hb;omega⟩);intro gg gc w3 F3 o3 ap3 md3))
   have z3:=md3.size;simp only[dT]at z3 ap3;go_roundw
   case rel=>
    refine⟨j+1,some ⟨gg,0,none⟩,gc,F3,by omega,by go_num,rfl,?_,⟨ap3.1,λy hy=>?_⟩,?_⟩
    ·rw[eJ HX.out,aI];exact o3
    ·rcases ap3.2 y hy with h1|h1|h1
     ·exact fro.2 y h1
     ·have:=fr2.2 y h1;omega
     ·omega
    ·exact jN (ij ago (ij jS x2)) md3 (λy hy=>fro.2 y hy) eA
   case measure=>simp [intOf];omega
  ·obtain rfl:j=n:=dP;rw[aC ws]at oo;go_wp2_with fail;go_ret;exact⟨A',j,c',Fo,rfl,oo,fro,bel⟩
theorem nT (v:Vec):lcP v:=by
 refine iH (P:=lcP) (λv ih=>?_) v;intro cs w jV kD h;have hp:=n7 jV;have ga:bigV v:=by unfold bigV;omega
 have xy:∀y∈v.parts,okD 3 y=true/\szD y.toD<=500000000000:=λy hy=>by obtain⟨d',hd,Ya⟩:=hp.1 y hy;obtain rfl:d'=2:=dP;refine⟨Ew Ya,?_⟩;have h1:=go v;have h2:∀(l:List Vec),y∈l->szD y.toD<=gv (l.map Vec.toD):=Gg;have h3:=h2 v.parts hy;rw[h1]at kD;simp only[szD]at kD;omega
 have adO:=JN v v.parts (λA n c w hr=>BF v.parts ih xy hp.2 A n c w hr) cs w h kD;have e:(⟨v.kind,v.items,v.parts,v.names,v.cls,v.levels,v.code,v.env⟩:Vec)=v:=by cases v;rfl
 rw[e]at adO;exact adO
def incS (h:Hp) (p:Int):Hp:=eG h p.toNat (gE (celD h p))
def incOK (h:Hp) (p:Int):Prop:=inR h p=true/\Xd (celD h p).count
def ownH (h:Hp) (s:Str):Hp × Int:=gH ((celD h (slotD h s)).parts.foldl incS h) ⟨1,(celD h (slotD h s)).value,(celD h (slotD h s)).parts⟩
def iz (h:Hp) (s:Str):Hp × Int:=if (celD h (slotD h s)).count=1 then (h,slotD h s) else ({fd (ownH h s).1 s (ownH h s).2 with copies:=wrap64 (h.copies+1)},(ownH h s).2)
theorem qd (h:Hp) (c:Cel):(gH h c).1.names=h.names/\(gH h c).1.slots=h.slots/\(gH h c).1.copies=h.copies:=by unfold gH;cases gy h.cells 0<;>exact⟨rfl,rfl,rfl⟩
theorem nX {f:Hp->Int->Hp} (hf:∀h p,(f h p).names=h.names/\(f h p).slots=h.slots/\(f h p).copies=h.copies):∀(l:List Int) (h:Hp),(l.foldl f h).names=h.names/\(l.foldl f h).slots=h.slots/\(l.foldl f h).copies=h.copies
 |[],h=>⟨rfl,rfl,rfl⟩
 |p::t,h=>by rw[bC];have h1:=nX hf t (f h p);have h2:=hf h p;exact⟨h1.1.trans h2.1,h1.2.1.trans h2.2.1,h1.2.2.trans h2.2.2⟩
theorem tX (h:Hp) (p:Int):(incS h p).names=h.names/\(incS h p).slots=h.slots/\(incS h p).copies=h.copies:=⟨rfl,rfl,rfl⟩
theorem ug:∀(f:Nat) (h:Hp) (k:Int),(iD f h k).names=h.names/\(iD f h k).slots=h.slots/\(iD f h k).copies=h.copies
 |0,h,k=>⟨rfl,rfl,rfl⟩
 |f+1,h,k=>by
  rw[iD];split
  ·exact⟨rfl,rfl,rfl⟩
  ·exact nX (ug f) _ _
theorem KH (h:Hp) (s:Str) (k:Int):(fd h s k).copies=h.copies:=by
 unfold fd;split
 ·exact(ug _ _ _).2.2
 ·rfl
theorem Bo (h:Hp) (c k:Int):celD {h with copies:=c} k=celD h k:=rfl
theorem zB {f:Hp->Int->Hp} {c:Int} (hf:∀h p,f {h with copies:=c} p={f h p with copies:=c}):∀(l:List Int) (h:Hp),l.foldl f {h with copies:=c}={l.foldl f h with copies:=c}
 |[],h=>rfl
 |p::t,h=>by rw[bC,hf,zB hf t,bC]
theorem vM (c:Int):∀(f:Nat) (h:Hp) (k:Int),iD f {h with copies:=c} k={iD f h k with copies:=c}
 |0,h,k=>rfl
 |f+1,h,k=>by
  rw[iD,iD,Bo];split
  ·rfl
  ·exact zB (vM c f) _ (eG h k.toNat lf)
theorem RJ (h:Hp) (s:Str) (k c:Int):fd {h with copies:=c} s k={fd h s k with copies:=c}:=by
 unfold fd;split
 ·exact vM c 5 {h with slots:=h.slots.set (ix h.names s 0).toNat k} (slotD h s)
 ·rfl
structure OwnOK (h:Hp) (s:Str):Prop where
 len:h.names.length=h.slots.length
 nm:(h.names.length:Int)<=1073741824
 has:hasN h s=true
 inr:inR h (slotD h s)=true
 more:(celD h (slotD h s)).count=1\/((celD h (slotD h s)).value.parts=[]/\szD (celD h (slotD h s)).value.toD<=500000000000/\((celD h (slotD h s)).parts.length:Int)<=1073741824/\allOK incOK incS h (celD h (slotD h s)).parts/\
  (((celD h (slotD h s)).parts.foldl incS h).cells.length:Int)<=1073741824/\relOK 5 {(ownH h s).1 with slots:=(ownH h s).1.slots.set (ix (ownH h s).1.names s 0).toNat (ownH h s).2} (slotD (ownH h s).1 s))
theorem Aa (c:Int):∀(f:Nat) (h:Hp) (k:Int),relOK f {h with copies:=c} k↔relOK f h k
 |0,h,k=>Iff.rfl
 |f+1,h,k=>by
  have iU:∀(l:List Int) (h:Hp),allOK (relOK f) (iD f) {h with copies:=c} l↔allOK (relOK f) (iD f) h l:=by
   intro l
   induction l with
   |nil=>intro h;exact Iff.rfl
   |cons p t ih=>intro h;rw[allOK,allOK,vM,ih,Aa c f h p]
  rw[relOK,relOK,Bo];have:=iU (celD h k).parts (eG h k.toNat lf);exact and_congr Iff.rfl (and_congr Iff.rfl (or_congr Iff.rfl this))
theorem ab2 (f:Nat) (ih:ab1 40 f):ab1 40 (f+1):=by
 intro h v g F B cs w H hr hB hBF jV;rw[rX]at jV;obtain⟨UD,K9,kD,mD⟩:=jV;obtain⟨Ai,ni,ci,Ap,np,cp,An,nn,cn,Ac,nc,cc,Al,nl,cl,rfl,wk,ri,rp,rn,rc,rl,wc,we⟩:=fw hr;have hlp:=ef rp;rw[au]at hlp;have UB:(np:Int)<=1073741824:=dP;have xo:=aa ih;have OR:=aa UD;have HL:=aa hlp;have JA:=H.lt;clear ih UD hlp mD hr;have x0:Below w.heap.size w ((w.alloc (.cells #[v.kind,.slice Ai ni ci,.slice Ap np cp,.slice An nn cn,.slice Ac nc cc,.slice Al nl cl,v.code,v.env] 38)).alloc (.cells #[.int .i64 1,.int .i64 0,(),(),(),(),(),.int .i64 0,.int .i64 0,()] 43)):=((Below.refl _ _).alloc (af _) _).alloc dR _;have k3:Blk ((w.alloc (.cells #[v.kind,.slice Ai ni ci,.slice Ap np cp,.slice An nn cn,.slice Ac nc cc,.slice Al nl cl,v.code,v.env] 38)).alloc (.cells #[.int .i64 1,.int .i64 0,(),(),(),(),(),.int .i64 0,.int .i64 0,()] 43)) w.heap.size 38 [v.kind,.slice Ai ni ci,.slice Ap np cp,.slice An nn cn,.slice Ac nc cc,.slice Al nl cl,v.code,v.env]:=(Blk.new' (l:=[.int .i64 v.kind,.slice Ai ni ci,.slice Ap np cp,.slice An nn cn,.slice Ac nc cc,.slice Al nl cl,.int .i64 v.code,.int .i64 v.env])).al;have k5:Blk ((w.alloc (.cells #[v.kind,.slice Ai ni ci,.slice Ap np cp,.slice An nn cn,.slice Ac nc cc,.slice Al nl cl,v.code,v.env] 38)).alloc (.cells #[.int .i64 1,.int .i64 0,(),(),(),(),(),.int .i64 0,.int .i64 0,()] 43)) (w.heap.size+1) 43 [.int .i64 1,.int .i64 0,(),(),(),(),(),.int .i64 0,.int .i64 0,()]:=by have:=Blk.new' (w:=w.alloc (.cells #[v.kind,.slice Ai ni ci,.slice Ap np cp,.slice An nn cn,.slice Ac nc cc,.slice Al nl cl,v.code,v.env] 38)) (t:=43) (l:=[.int .i64 1,.int .i64 0,.slice none 0 0,.slice none 0 0,.slice none 0 0,.slice none 0 0,.slice none 0 0,.int .i64 0,.int .i64 0,.slice none 0 0]);simpa only[dT]using this
 have H0:=H.next x0;obtain⟨W,hW⟩:∃W,W=((w.alloc (.cells #[v.kind,.slice Ai ni ci,.slice Ap np cp,.slice An nn cn,.slice Ac nc cc,.slice Al nl cl,v.code,v.env] 38)).alloc (.cells #[.int .i64 1,.int .i64 0,(),(),(),(),(),.int .i64 0,.int .i64 0,()] 43)):=⟨_,rfl⟩;have zW:W.heap.size=w.heap.size+1+1:=by rw[hW];simp only[dT]
 obtain⟨a0,a1,a2,a3,a4,a5,a6,a7⟩:=k3.c8;go_enter func40,ntmps40;go_wp2_with fail;rw[<-hW]at x0 k3 k5 H0 a0 a1 a2 a3 a4 a5 a6 a7 ⊢;clear hW a0 a1 a2 a3 a4 a5 a6 a7;go_loopw [12] (λt wr=>∃(j:Nat) (F':List Nat) (Aq:Option Addr) (cq:Nat) (Fq:List Nat),j<=np/\t= .int .i64 j/\HB wr g ((v.parts.take j).foldl (js (fL f)) (h,[])).1 F'/\Sub w.heap.size F F'/\Blk wr w.heap.size 38 [v.kind,.slice Ai ni ci,.slice Ap np cp,.slice An nn cn,.slice Ac nc cc,.slice Al nl cl,v.code,v.env]/\Blk wr (w.heap.size+1) 43 [.int .i64 1,.int .i64 0,(),(),(),(),(),.int .i64 0,.int .i64 0,.slice Aq j cq]/\
  own prog wr (.sl (((v.parts.take j).foldl (js (fL f)) (h,[])).2.map (D.i .i64))) 26 Fq [.slice Aq j cq]/\Fresh (w.heap.size+1+1) Fq/\(∀y∈w.heap.size::(w.heap.size+1)::Fq,y ∉ g::F')/\Mod (g::F) w wr) (λt _=>np - (intOf t).toNat)
 case atStart=>exact⟨0,F,none,0,[],by omega,rfl,H0,Sub.refl,k3,k5,kY underlying26,Fresh.nil,λy hy hm=>by(have:=H.lo y hm;simp at hy;omega),gU Mod.refl x0⟩
 case round=>
  clear k3 k5 H0 x0;obtain⟨j,F',Aq,cq,Fq,hj,rfl,Hj,sj,k3,k5,oq,qL,Bw,mj⟩:=hrel;have bw:Below B w wr:=mj.below hBF hB;have ZS:=gC oq;have hW1:w.heap.size<wr.heap.size:=k3.lt;have hW2:w.heap.size+1<wr.heap.size:=k5.lt;have hBr:B<=wr.heap.size:=dP;have hgj:=Hj.lt;obtain⟨a0,a1,a2,a3,a4,a5,a6,a7⟩:=k3.c8;by_cases hlj:j<np
  ·obtain⟨b,off,p,Ei,ui,vi,Ep,up,vp,En,un,vn,Ec,uc,vc,El,ul,vl,rfl,gD,hx,fE,e0,e1,e2,e3,e4,e5,e6,e7⟩:=my (fF rp bw) hlj;have HX:=aa hx;clear hx;go_wp2_with fail;have kp:Blk (wr.alloc (.cells #[p.kind,.slice Ei ui vi,.slice Ep up vp,.slice En un vn,.slice Ec uc vc,.slice El ul vl,p.code,p.env] 38)) wr.heap.size 38 [p.kind,.slice Ei ui vi,.slice Ep up vp,.slice En un vn,.slice Ec uc vc,.slice El ul vl,p.code,p.env]:=Blk.new' (l:=[.int .i64 p.kind,.slice Ei ui vi,.slice Ep up vp,.slice En un vn,.slice Ec uc vc,.slice El ul vl,.int .i64 p.code,.int .i64 p.env]);have xa:Below wr.heap.size wr (wr.alloc (.cells #[p.kind,.slice Ei ui vi,.slice Ep up vp,.slice En un vn,.slice Ec uc vc,.slice El ul vl,p.code,p.env] 38)):=(Below.refl _ _).alloc (af _) _;replace k3:=k3.next xa;replace k5:=k5.next xa;replace oq:=em oq xa;have XN:=Hj.lo;replace Hj:=Hj.next xa;replace fE:=fF fE (bw.alloc hBr (.cells #[p.kind,.slice Ei ui vi,.slice Ep up vp,.slice En un vn,.slice Ec uc vc,.slice El ul vl,p.code,p.env] 38) |> λ_=>(xa.mono hBr));have mx:=gU mj xa;obtain⟨wx,hwx⟩:∃wx,wx=wr.alloc (.cells #[p.kind,.slice Ei ui vi,.slice Ep up vp,.slice En un vn,.slice Ec uc vc,.slice El ul vl,p.code,p.env] 38):=⟨_,rfl⟩;have zx:wx.heap.size=wr.heap.size+1:=by rw[hwx];simp only[dT]
   obtain⟨bp,XE⟩:∃bp,bp=wr.heap.size:=⟨_,rfl⟩;rw[<-hwx]at kp k3 k5 oq Hj fE mx ⊢;rw[<-XE]at kp zx XN ZS ⊢;have uK:w.heap.size+1<bp:=dP;clear XE hwx xa e0 e1 e2 e3 e4 e5 e6 e7 a0 a1 a2 a3 a4 a5 a6 a7;have XW:=vL OR.out HX.out;have WY:=aa XW;clear XW;have XS:∀y∈w.heap.size::(w.heap.size+1)::Fq,y<wx.heap.size:=λy hy=>by
    rcases aX.1 hy with e|hy
    ·omega
    ·rcases aX.1 hy with e|hy
     ·omega
     ·have:=ZS y hy;omega
   have Xv:∀y∈g::F',B<=y:=λy hy=>by
    rcases kj (g:=g) sj y hy with h1|h1
    ·exact hBF y h1
    ·omega
   have cv:=k5.cell 9;simp only[ah,ag]at cv;obtain⟨b0,b1,b2,b3,b4,b5,b6,b7⟩:=kp.c8;refine bu ?_;refine aW (S:=λV=>V.cell? ⟨bp,0,none⟩=some (.int .i64 p.kind)/\V.cell? ⟨bp,1,none⟩=some (.slice Ei ui vi)/\V.cell? ⟨bp,2,none⟩=some (.slice Ep up vp)/\V.cell? ⟨bp,3,none⟩=some (.slice En un vn)/\V.cell? ⟨bp,4,none⟩=some (.slice Ec uc vc)/\V.cell? ⟨bp,5,none⟩=some (.slice El ul vl)/\V.cell? ⟨bp,6,none⟩=some (.int .i64 p.code)/\V.cell? ⟨bp,7,none⟩=some (.int .i64 p.env)) dU ⟨b0,b1,b2,b3,b4,b5,b6,b7⟩ (λhH=>?_);clear b0 b1 b2 b3 b4 b5 b6 b7;refine ey 0 ?_;refine ey 2 ?_;refine ey 3 ?_;have SD:=kp.dw.c8;refine dG (rs:=[1,4]) dU dR (λi hi=>?_);simp only[aX,df,or_false]at hi;rcases hi with rfl|rfl;all_goals refine dD gO (λK hK=>?_)
   ·go_simp;refine hK _ _ ⟨SD,?_⟩;refine iW ?_;refine fZ 4 ?_;intro K hK;go_simp;go_at_call 40;refine(xo.out _ p g F' B _ wx.drew Hj.dw (vP fE) si Xv WY.out).mono ?_;rintro e w3 ⟨rfl,X8,F3,H3,s3,m3⟩;have z3:=m3.size;simp only[dW]at z3 s3;obtain⟨q,hq⟩:∃q:Int,q=(fL f ((v.parts.take j).foldl (js (fL f)) (h,[])).1 p).2:=⟨_,rfl⟩;rw[<-hq]at X8 ⊢;have HQ:=aa hq;clear hq;have zJ:=AG Bw XS s3;have kp3:=Blk.mod (g:=bp) kp.dw m3 (λhm=>by have:=XN bp hm;omega);have CC:=Blk.mod (g:=w.heap.size) k3.dw m3 (Bw _ dR);have UZ:=Blk.mod (g:=w.heap.size+1) k5.dw m3 (Bw _ dR);have ZY:=fH (gX oq) m3 (λy hy=>Bw y eK);have x4:Below w3.heap.size w3 (w3.alloc (.cells #[q] 3)):=(Below.refl _ _).alloc (af _) _;have kn4:Blk (w3.alloc (.cells #[q] 3)) w3.heap.size 3 [q]:=Blk.new' (l:=[.int .i64 q]);have kp4:=kp3.next x4;have S3:=kp3.c8;have S4:=kp4.c8;have Jm:=UZ.cell 9;simp only[ah,ag]at Jm;have Jn:=(UZ.next x4).cell 9;simp only[ah,ag]at Jn;refine hK _ _ ⟨S3,?_⟩;refine iW ?_;refine fZ 5 ?_;intro K hK;go_simp;refine hK _ _ ⟨S4,?_⟩;refine iW ?_;refine fZ 6 ?_;intro K hK;refine gL (A:=Aq) (n:=j) (c:=cq) (b:=w3.heap.size) (m:=1) (xs:=((v.parts.take j).foldl (js (fL f)) (h,[])).2.map (D.i .i64)) (F:=Fq) (d:=D.i .i64 q) (F':=[]) (te:=3) (cs:=[.int .i64 q]) Kh ?_ ?_ (.tmp 17) (.tmp 21) ?_ ?_ ?_ ?_ ?_ ?_ ?_ ?_ ?_ ?_ ?_
    ·kernel_rfl
    ·rfl
    ·rfl
    ·rfl
    ·exact lz
    ·rfl
    ·exact kn4
    ·rw[own];exact⟨rfl,rfl,X8⟩
    ·rfl
    ·exact lw
    ·exact g8
    ·omega
    intro gg gc w5 F5 o5 ap5 md5;simp only[dT]at ap5;have ZQ:=Blk.mod (g:=bp) kp4 md5 (λhm=>by have:=ZS bp hm;omega);have vB:=Blk.mod (g:=w.heap.size) (CC.next x4) md5 (qL.notin dP);have PG:=Blk.mod (g:=w.heap.size+1) (UZ.next x4) md5 (qL.notin dP);have H5:=(H3.next x4).mod md5 (λy hy hm=>zJ y eV hy);have z5:=md5.size;simp only[dT]at z5;have S5:=ZQ.c8;have pU:=PG.cell 9;simp only[ah,ag]at pU;have Zr:=PG.frozen 9;have UL:w.heap.size+1<w5.heap.size:=PG.lt;refine hK _ _ ⟨S5,?_⟩;refine iW ?_;refine ey 7 ?_;refine fZ 8 ?_;intro K hK;go_simp;have kp6:=Blk.pk (p:=⟨w.heap.size+1,9,none⟩) (u:= .slice (some ⟨gg,0,none⟩) (j+1) gc) iT ZQ;refine hK _ _ ⟨kp6.c8,?_⟩;refine iW ?_;refine bv dU ?_ _;refine ba ?_;clear S3 S4 S5 Jm Jn pU;go_wp2_with fail;go_roundw
    case rel=>
     have Tt:∀y∈F5,y∈Fq\/y=w3.heap.size+1:=λy hy=>yL
     refine⟨j+1,F3,some ⟨gg,0,none⟩,gc,F5,by omega,by go_num,?_,sj.trans s3 dP,Blk.pk (p:=⟨w.heap.size+1,9,none⟩) iT vB,PG.set_ 9 _,?_,⟨ap5.1,λy hy=>?_⟩,λy hy hm=>?_,?_⟩
     ·exact yj
     ·exact yz
     ·exact yH
     ·exact yC
     ·exact yq
    case measure=>simp [intOf];omega
   ·clear SD;go_simp;go_at_call 40;refine(xo.out _ p g F' B _ wx.drew Hj.dw (vP fE) si Xv WY.out).mono ?_;rintro e w3 ⟨rfl,X8,F3,H3,s3,m3⟩;have z3:=m3.size;simp only[dW]at z3 s3;obtain⟨q,hq⟩:∃q:Int,q=(fL f ((v.parts.take j).foldl (js (fL f)) (h,[])).1 p).2:=⟨_,rfl⟩;rw[<-hq]at X8 ⊢;have HQ:=aa hq;clear hq;have zJ:=AG Bw XS s3;have kp3:=Blk.mod (g:=bp) kp.dw m3 (λhm=>by have:=XN bp hm;omega);have CC:=Blk.mod (g:=w.heap.size) k3.dw m3 (Bw _ dR);have UZ:=Blk.mod (g:=w.heap.size+1) k5.dw m3 (Bw _ dR);have ZY:=fH (gX oq) m3 (λy hy=>Bw y eK);have x4:Below w3.heap.size w3 (w3.alloc (.cells #[q] 3)):=(Below.refl _ _).alloc (af _) _;have kn4:Blk (w3.alloc (.cells #[q] 3)) w3.heap.size 3 [q]:=Blk.new' (l:=[.int .i64 q]);have kp4:=kp3.next x4;have S3:=kp3.c8;have S4:=kp4.c8;have Jm:=UZ.cell 9;simp only[ah,ag]at Jm;have Jn:=(UZ.next x4).cell 9;simp only[ah,ag]at Jn;refine hK _ _ ⟨S3,?_⟩;refine iW ?_;refine dG (rs:=[1,5]) dU dR (λi hi=>?_);simp only[aX,df,or_false]at hi;rcases hi with rfl|rfl;all_goals refine dD gO (λK hK=>?_)
    ·go_simp;refine hK _ _ ⟨S3,?_⟩;refine iW ?_;refine fZ 5 ?_;intro K hK;go_simp;refine hK _ _ ⟨S4,?_⟩;refine iW ?_;refine fZ 6 ?_;intro K hK;refine gL (A:=Aq) (n:=j) (c:=cq) (b:=w3.heap.size) (m:=1) (xs:=((v.parts.take j).foldl (js (fL f)) (h,[])).2.map (D.i .i64)) (F:=Fq) (d:=D.i .i64 q) (F':=[]) (te:=3) (cs:=[.int .i64 q]) Kh ?_ ?_ (.tmp 17) (.tmp 21) ?_ ?_ ?_ ?_ ?_ ?_ ?_ ?_ ?_ ?_ ?_
     ·kernel_rfl
     ·rfl
     ·rfl
     ·rfl
     ·exact lz
     ·rfl
     ·exact kn4
     ·rw[own];exact⟨rfl,rfl,X8⟩
     ·rfl
     ·exact lw
     ·exact g8
     ·omega
     intro gg gc w5 F5 o5 ap5 md5;simp only[dT]at ap5;have ZQ:=Blk.mod (g:=bp) kp4 md5 (λhm=>by have:=ZS bp hm;omega);have vB:=Blk.mod (g:=w.heap.size) (CC.next x4) md5 (qL.notin dP);have PG:=Blk.mod (g:=w.heap.size+1) (UZ.next x4) md5 (qL.notin dP);have H5:=(H3.next x4).mod md5 (λy hy hm=>zJ y eV hy);have z5:=md5.size;simp only[dT]at z5;have S5:=ZQ.c8;have pU:=PG.cell 9;simp only[ah,ag]at pU;have Zr:=PG.frozen 9;have UL:w.heap.size+1<w5.heap.size:=PG.lt;refine hK _ _ ⟨S5,?_⟩;refine iW ?_;refine ey 7 ?_;refine fZ 8 ?_;intro K hK;go_simp;have kp6:=Blk.pk (p:=⟨w.heap.size+1,9,none⟩) (u:= .slice (some ⟨gg,0,none⟩) (j+1) gc) iT ZQ;refine hK _ _ ⟨kp6.c8,?_⟩;refine iW ?_;refine bv dU ?_ _;refine ba ?_;clear S3 S4 S5 Jm Jn pU;go_wp2_with fail;go_roundw
     case rel=>
      have Tt:∀y∈F5,y∈Fq\/y=w3.heap.size+1:=λy hy=>yL
      refine⟨j+1,F3,some ⟨gg,0,none⟩,gc,F5,by omega,by go_num,?_,sj.trans s3 dP,Blk.pk (p:=⟨w.heap.size+1,9,none⟩) iT vB,PG.set_ 9 _,?_,⟨ap5.1,λy hy=>?_⟩,λy hy hm=>?_,?_⟩
      ·exact yj
      ·exact yz
      ·exact yH
      ·exact yC
      ·exact yq
     case measure=>simp [intOf];omega
    ·go_simp;refine hK _ _ ⟨S4,?_⟩;refine iW ?_;refine fZ 1 ?_;intro K hK;have cv5:=(UZ.next x4).cell 9;simp only[ah,ag]at cv5;go_simp;refine hK _ _ ⟨S4,?_⟩;refine iW ?_;refine fZ 6 ?_;intro K hK;refine gL (A:=Aq) (n:=j) (c:=cq) (b:=w3.heap.size) (m:=1) (xs:=((v.parts.take j).foldl (js (fL f)) (h,[])).2.map (D.i .i64)) (F:=Fq) (d:=D.i .i64 q) (F':=[]) (te:=3) (cs:=[.int .i64 q]) Kh ?_ ?_ (.tmp 17) (.tmp 21) ?_ ?_ ?_ ?_ ?_ ?_ ?_ ?_ ?_ ?_ ?_
     ·kernel_rfl
     ·rfl
     ·rfl
     ·rfl
     ·exact lz
     ·rfl
     ·exact kn4
     ·rw[own];exact⟨rfl,rfl,X8⟩
     ·rfl
     ·exact lw
     ·exact g8
     ·omega
     intro gg gc w5 F5 o5 ap5 md5;simp only[dT]at ap5;have ZQ:=Blk.mod (g:=bp) kp4 md5 (λhm=>by have:=ZS bp hm;omega);have vB:=Blk.mod (g:=w.heap.size) (CC.next x4) md5 (qL.notin dP);have PG:=Blk.mod (g:=w.heap.size+1) (UZ.next x4) md5 (qL.notin dP);have H5:=(H3.next x4).mod md5 (λy hy hm=>zJ y eV hy);have z5:=md5.size;simp only[dT]at z5;have S5:=ZQ.c8;have pU:=PG.cell 9;simp only[ah,ag]at pU;have Zr:=PG.frozen 9;have UL:w.heap.size+1<w5.heap.size:=PG.lt;refine hK _ _ ⟨S5,?_⟩;refine iW ?_;refine ey 7 ?_;refine fZ 8 ?_;intro K hK;go_simp;have kp6:=Blk.pk (p:=⟨w.heap.size+1,9,none⟩) (u:= .slice (some ⟨gg,0,none⟩) (j+1) gc) iT ZQ;refine hK _ _ ⟨kp6.c8,?_⟩;refine iW ?_;refine bv dU ?_ _;refine ba ?_;clear S3 S4 S5 Jm Jn pU;go_wp2_with fail;go_roundw
     case rel=>
      have Tt:∀y∈F5,y∈Fq\/y=w3.heap.size+1:=λy hy=>yL
      refine⟨j+1,F3,some ⟨gg,0,none⟩,gc,F5,by omega,by go_num,?_,sj.trans s3 dP,Blk.pk (p:=⟨w.heap.size+1,9,none⟩) iT vB,PG.set_ 9 _,?_,⟨ap5.1,λy hy=>?_⟩,λy hy hm=>?_,?_⟩
      ·exact yj
      ·exact yz
      ·exact yH
      ·exact yC
      ·exact yq
     case measure=>simp [intOf];omega
  ·obtain rfl:j=np:=dP;rw[aC wu]at Hj oq;have fz:=k3.frozen 2;have bw1:Below B w (wr.setCell ⟨w.heap.size,2,none⟩ (.slice none 0 0)):=bw.setCell hB _;have rv:=uU (x:=noParts v) wk ri nK rn rc rl wc we;have mw:Mod [w.heap.size] wr (wr.setCell ⟨w.heap.size,2,none⟩ (.slice none 0 0)):=Mod.poke dR _;go_wp2_with fail;refine(jd (noParts v) _ _ (gY (fF rv bw1) qm) (by have:=PO v;omega)).mono ?_;rintro e w4 ⟨cs4,G4,rfl,o4,fr4,DB⟩;obtain⟨Bi,mi,di,Bp,mp,dp,Bn,mn,dn,Bc,mc,dc,Bl,ml,dl,rfl,-⟩:=fw (eW _ _ _ _ o4);have z4:=DB.size;simp only[dX]at z4 fr4;have H4:=(Hj.mod mw (λy hy hm=>by simp at hm;subst hm;exact Bw _ dR hy)).next DB;have k54:=(Blk.mod (g:=w.heap.size+1) k5 mw dR).next DB;have oq4:=em (fH oq mw (λy hy hm=>by simp at hm;subst hm;have:=qL.2 _ hy;omega)) DB;obtain⟨c0,c1,c2,c3,c4,c5,c6,c7,c8,c9⟩:=k54.d10;obtain⟨f0,f1,f2,f3,f4,f5,f6,f7,f8,f9⟩:=k54.fr10 (m:=0);simp only[bI]at f1 f2 f3 f4 f5 f6 f7 f8 f9;obtain⟨PG,m55⟩:=air k54 (.int .i64 v.kind) (.slice Bi mi di) (.slice Bp mp dp) (.slice Bn mn dn) (.slice Bc mc dc) (.slice Bl ml dl) (.int .i64 v.code) (.int .i64 v.env);have hw4:w.heap.size+1<w4.heap.size:=k54.lt;clear a0 a1 a2 a3 a4 a5 a6 a7;go_wp2_with fail;have oc:own prog _ (Cel.toD ⟨1,noParts v,(v.parts.foldl (js (fL f)) (h,[])).2⟩) 43 (G4++(Fq++[])) _:=uO (kP.2 dR) (fH o4 m55 (λy hy hm=>by simp at hm;subst hm;have:=fr4.2 _ hy;omega)) (fH oq4 m55 (λy hy hm=>by simp at hm;subst hm;have:=qL.2 _ hy;omega));have H5:=H4.mod m55 (λy hy hm=>by simp at hm;subst hm;exact Bw _ dR hy);have hGd:∀y∈G4++(Fq++[]),y ∉ g::F':=λy hy hm=>by
    rcases aG.1 hy with hy|hy
    ·have h1:=fr4.2 y hy;have h2:=Hj.lo y hm;omega
    ·exact Bw y qj hm
   have hGn:(G4++(Fq++[])).Nodup:=by rw[bP];exact aE.2 ⟨fr4.1,qL.1,λa ha b hb e=>by have h1:=fr4.2 a ha;have h2:=ZS b hb;omega⟩
   refine(Oe _ _ g F' _ _ _ H5 oc hGd hGn K9).mono ?_;rintro e w6 ⟨rfl,F6,H6,s6,m6⟩;go_wp2_with fail;go_ret;have z55:=m55.size;have hpd:fL (f+1) h v=gH (v.parts.foldl (js (fL f)) (h,[])).1 ⟨1,noParts v,(v.parts.foldl (js (fL f)) (h,[])).2⟩:=by rw[fL]
   rw[hpd];refine⟨rfl,E6 K9,F6,H6,λy hy=>?_,?_⟩
   ·rcases s6 y hy with h1|h1|h1
    ·exact sj y h1
    ·rcases aG.1 h1 with h1|h1
     ·have:=fr4.2 y h1;exact .inr dP
     ·have:=qL.2 y mt;exact .inr dP
    ·exact .inr dP
   ·exact nO (Mod.trans (gU (Mod.trans mj mw (λy hy=> .inr (by simp at hy;omega))) DB) m55 (λy hy=> .inr (by simp at hy;omega))) m6 (kj sj) (af _)
def Vf (f:Nat):Prop:=∀(h:Hp) (v:Vec) (g:Nat) (F:List Nat) (B:Nat) (cs:List Value) (w:World),HB w g h F->rep w B v.toD cs->B<=w.heap.size->(∀y∈g::F,B<=y)->rX f h v->okD 3 v=true->
 Calls prog 51 #[.pointer (some ⟨g,0,none⟩),.agg cs.toArray] w λe w'=>e= .returned (.int .i64 (fL f h v).2)/\(Lit.int .i64 (fL f h v).2).wf=true/\∃F',HB w' g (fL f h v).1 F'/\Sub w.heap.size F F'/\Mod (g::F) w w'
theorem SH (f:Nat) (ih:Vf f):Vf (f+1):=by
 intro h v g F B cs w H hr hB hBF jV hv;rw[rX]at jV;obtain⟨UD,K9,kD,mD⟩:=jV;have QS:=hr;obtain⟨Ai,ni,ci,Ap,np,cp,An,nn,cn,Ac,nc,cc,Al,nl,cl,rfl,wk,ri,rp,rn,rc,rl,wc,we⟩:=fw hr;have hlp:=ef rp;rw[au]at hlp;have UB:(np:Int)<=1073741824:=dP;have xo:=aa ih;have OR:=aa UD;have HL:=aa hlp;have HV:=aa hv;have JA:=H.lt;clear ih UD hlp mD hr hv;have x0:Below w.heap.size w (w.alloc (.cells #[v.kind,.slice Ai ni ci,.slice Ap np cp,.slice An nn cn,.slice Ac nc cc,.slice Al nl cl,v.code,v.env] 38)):=(Below.refl _ _).alloc (af _) _;have k3:Blk (w.alloc (.cells #[v.kind,.slice Ai ni ci,.slice Ap np cp,.slice An nn cn,.slice Ac nc cc,.slice Al nl cl,v.code,v.env] 38)) w.heap.size 38 [v.kind,.slice Ai ni ci,.slice Ap np cp,.slice An nn cn,.slice Ac nc cc,.slice Al nl cl,v.code,v.env]:=Blk.new' (l:=[.int .i64 v.kind,.slice Ai ni ci,.slice Ap np cp,.slice An nn cn,.slice Ac nc cc,.slice Al nl cl,.int .i64 v.code,.int .i64 v.env]);have H0:=H.next x0;go_enter func51,ntmps51;go_wp2_with fail;refine(nT v _ _ HV.out dP (fb (gY QS hB) x0 x0.size)).mono ?_;rintro e w1 ⟨cs1,G1,rfl,o1,AP,hb1⟩;obtain⟨Bi,mi,di,Bp,mp,dp,Bn,mn,dn,Bc,mc,dc,Bl,ml,dl,I1,I2,I3,I4,I5,rfl,rfl,p1,p2,p3,p4,p5⟩:=jE o1;have z1:=hb1.size;simp only[dT]at z1 AP;have k31:=k3.next hb1;obtain⟨a0,a1,a2,a3,a4,a5,a6,a7⟩:=k31.c8;have hw1:w.heap.size<w1.heap.size:=dP;go_wp2_with fail;obtain⟨W,hW⟩:∃W,W=(((w1.alloc (.cells #[v.kind,.slice Bi mi di,.slice (some ⟨w1.heap.size+1,0,none⟩) 0 0,.slice Bn mn dn,.slice Bc mc dc,.slice Bl ml dl,v.code,v.env] 38)).alloc (.cells #[] 38)).alloc (.cells #[] 3)):=⟨_,rfl⟩;have xb:Below w1.heap.size w1 (((w1.alloc (.cells #[v.kind,.slice Bi mi di,.slice (some ⟨w1.heap.size+1,0,none⟩) 0 0,.slice Bn mn dn,.slice Bc mc dc,.slice Bl ml dl,v.code,v.env] 38)).alloc (.cells #[] 38)).alloc (.cells #[] 3)):=(((Below.refl _ _).alloc (af _) _).alloc dR _).alloc eA _;have k5:Blk (((w1.alloc (.cells #[v.kind,.slice Bi mi di,.slice (some ⟨w1.heap.size+1,0,none⟩) 0 0,.slice Bn mn dn,.slice Bc mc dc,.slice Bl ml dl,v.code,v.env] 38)).alloc (.cells #[] 38)).alloc (.cells #[] 3)) w1.heap.size 38 [v.kind,.slice Bi mi di,.slice (some ⟨w1.heap.size+1,0,none⟩) 0 0,.slice Bn mn dn,.slice Bc mc dc,.slice Bl ml dl,v.code,v.env]:=((Blk.new' (l:=[.int .i64 v.kind,.slice Bi mi di,.slice (some ⟨w1.heap.size+1,0,none⟩) 0 0,.slice Bn mn dn,.slice Bc mc dc,.slice Bl ml dl,.int .i64 v.code,.int .i64 v.env])).al).al;have oe:own prog (((w1.alloc (.cells #[v.kind,.slice Bi mi di,.slice (some ⟨w1.heap.size+1,0,none⟩) 0 0,.slice Bn mn dn,.slice Bc mc dc,.slice Bl ml dl,v.code,v.env] 38)).alloc (.cells #[] 38)).alloc (.cells #[] 3)) (.sl []) 36 [w1.heap.size+1] [.slice (some ⟨w1.heap.size+1,0,none⟩) 0 0]:=by have:=fK (o:= .cells #[] 3) (rW (w:=w1.alloc (.cells #[v.kind,.slice Bi mi di,.slice (some ⟨w1.heap.size+1,0,none⟩) 0 0,.slice Bn mn dn,.slice Bc mc dc,.slice Bl ml dl,v.code,v.env] 38)) (e:=38) underlying36);simpa only[dT]using this
 have oi:own prog (((w1.alloc (.cells #[v.kind,.slice Bi mi di,.slice (some ⟨w1.heap.size+1,0,none⟩) 0 0,.slice Bn mn dn,.slice Bc mc dc,.slice Bl ml dl,v.code,v.env] 38)).alloc (.cells #[] 38)).alloc (.cells #[] 3)) (.sl []) 26 [w1.heap.size+1+1] [.slice (some ⟨w1.heap.size+1+1,0,none⟩) 0 0]:=by have:=rW (w:=(w1.alloc (.cells #[v.kind,.slice Bi mi di,.slice (some ⟨w1.heap.size+1,0,none⟩) 0 0,.slice Bn mn dn,.slice Bc mc dc,.slice Bl ml dl,v.code,v.env] 38)).alloc (.cells #[] 38)) (e:=3) underlying26;simpa only[dT]using this
 have ov:own prog (((w1.alloc (.cells #[v.kind,.slice Bi mi di,.slice (some ⟨w1.heap.size+1,0,none⟩) 0 0,.slice Bn mn dn,.slice Bc mc dc,.slice Bl ml dl,v.code,v.env] 38)).alloc (.cells #[] 38)).alloc (.cells #[] 3)) (noParts v).toD 38 _ [v.kind,.slice Bi mi di,.slice (some ⟨w1.heap.size+1,0,none⟩) 0 0,.slice Bn mn dn,.slice Bc mc dc,.slice Bl ml dl,v.code,v.env]:=jD (x:=noParts v) wk (em p1 xb) oe (em p3 xb) (em p4 xb) (em p5 xb) wc we;have zW:W.heap.size=w1.heap.size+1+1+1:=by rw[hW];simp only[dT]
 have hIl:∀y∈I1++(I2++(I3++(I4++(I5++[])))),y<w1.heap.size:=gC o1;have hIn:w1.heap.size+1 ∉ I1++(I2++(I3++(I4++(I5++[])))):=λhm=>by have:=hIl _ hm;omega
 obtain⟨G,hG⟩:∃G,G=I1++([w1.heap.size+1]++(I3++(I4++(I5++[])))):=⟨_,rfl⟩;rw[<-hG]at ov;have hGn:G.Nodup:=by rw[hG];exact ub AP.1 dR (λy hy=>by simp only[List.mem_singleton]at hy;subst hy;exact .inr hIn)
 have hGf:∀y∈G,w.heap.size+1<=y:=λy hy=>by
  rw[hG]at hy;rcases aG.1 hy with hy|hy
  ·exact AP.2 y eK
  ·rcases aG.1 hy with hy|hy
   ·simp at hy;omega
   ·exact AP.2 y qj
 have hGl:∀y∈G,y<w1.heap.size+1+1:=λy hy=>by
  rw[hG]at hy;rcases aG.1 hy with hy|hy
  ·have:=hIl y eK;omega
  ·rcases aG.1 hy with hy|hy
   ·simp at hy;omega
   ·have:=hIl y qj;omega
 have hGb:w1.heap.size ∉ G:=λhm=>by
  rw[hG]at hm;rcases aG.1 hm with hm|hm
  ·have:=hIl _ (bJ _ hm);omega
  ·rcases aG.1 hm with hm|hm
   ·simp at hm
   ·have:=hIl w1.heap.size (by simp at hm;simp [hm]);omega
 have H1:=(H0.next hb1).next xb;have k3':=k31.next xb;have mm:=gU (gU (gU (F:=g::F) Mod.refl x0) hb1) xb;have XR:=H.lo;clear a0 a1 a2 a3 a4 a5 a6 a7 o1 p1 p2 p3 p4 p5 hIl hIn hG AP k31 oe;obtain⟨bW,hbW⟩:∃bW,bW=w1.heap.size:=⟨_,rfl⟩;have uK:w.heap.size+1<=bW:=dP;rw[<-hW]at k5 oi ov H1 k3' mm ⊢;rw[<-hbW]at k5 oi ov zW hGl hGb ⊢;clear hW hbW xb hb1 H0 k3 x0 z1 hw1;go_loopw [6,7] (λpt i wr=>∃(j:Nat) (F':List Nat) (Aq:Option Addr) (cq:Nat) (Fq:List Nat),j<=np/\i= .int .i64 j/\pt= .slice Aq j cq/\HB wr g ((v.parts.take j).foldl (js (fL f)) (h,[])).1 F'/\Sub w.heap.size F F'/\Blk wr w.heap.size 38 [v.kind,.slice Ai ni ci,.slice Ap np cp,.slice An nn cn,.slice Ac nc cc,.slice Al nl cl,v.code,v.env]/\Blk wr bW 38 [v.kind,.slice Bi mi di,.slice (some ⟨bW+1,0,none⟩) 0 0,.slice Bn mn dn,.slice Bc mc dc,.slice Bl ml dl,v.code,v.env]/\own prog wr (noParts v).toD 38 G [v.kind,.slice Bi mi di,.slice (some ⟨bW+1,0,none⟩) 0 0,.slice Bn mn dn,.slice Bc mc dc,.slice Bl ml dl,v.code,v.env]/\
  own prog wr (.sl (((v.parts.take j).foldl (js (fL f)) (h,[])).2.map (D.i .i64))) 26 Fq [.slice Aq j cq]/\Fresh (bW+1+1) Fq/\(∀y∈w.heap.size::bW::(G++Fq),y ∉ g::F')/\Mod (g::F) w wr) (λ_ i _=>np - (intOf i).toNat)
 case atStart=>exact⟨0,F,some ⟨bW+1+1,0,none⟩,0,[bW+1+1],by omega,rfl,rfl,H1,Sub.refl,k3',k5,ov,oi,⟨by simp,by simp⟩,λy hy hm=>by(have h1:=XR y hm;have h2:w.heap.size<=y:=by(rcases aX.1 hy with e|hy;omega;rcases aX.1 hy with e|hy;omega;rcases aG.1 hy with hy|hy;(have:=hGf y hy;omega);(simp at hy;omega)));omega,mm⟩
 case round=>
  clear H1 k3' k5 ov oi mm zW;obtain⟨j,F',Aq,cq,Fq,hj,rfl,rfl,Hj,sj,k3,k5,ov,oq,qL,Bw,mj⟩:=hrel;have bw:Below B w wr:=mj.below hBF hB;have ZS:=gC oq;have lov:=gC ov;have hW1:w.heap.size<wr.heap.size:=k3.lt;have hW2:bW<wr.heap.size:=k5.lt;have hBr:B<=wr.heap.size:=dP;obtain⟨a0,a1,a2,a3,a4,a5,a6,a7⟩:=k3.c8;by_cases hlj:j<np
  ·obtain⟨b,off,p,Ei,ui,vi,Ep,up,vp,En,un,vn,Ec,uc,vc,El,ul,vl,rfl,gD,hx,fE,e0,e1,e2,e3,e4,e5,e6,e7⟩:=my (fF rp bw) hlj;have HX:=aa hx;have ad2:okD 3 p=true:=by obtain⟨d',hd,Ya⟩:=(n7 HV.out).1 p (aA hx);obtain rfl:d'=2:=dP;exact Ew Ya
   have HOX:=aa ad2;have WY:=aa (vL OR.out hx);have XS:∀y∈w.heap.size::bW::(G++Fq),y<wr.heap.size:=λy hy=>by
    rcases aX.1 hy with e|hy
    ·omega
    ·rcases aX.1 hy with e|hy
     ·omega
     ·rcases aG.1 hy with hy|hy
      ·exact lov y hy
      ·exact ZS y hy
   have Xv:∀y∈g::F',B<=y:=λy hy=>by
    rcases kj (g:=g) sj y hy with h1|h1
    ·exact hBF y h1
    ·omega
   have XN:=Hj.lo;clear hx ad2;go_wp2_with (first
    |(go_at_call 51;refine(xo.out _ p g F' B _ wr Hj fE hBr Xv WY.out HOX.out).mono ?_;rintro e w3 ⟨rfl,X8,F3,H3,s3,m3⟩;have z3:=m3.size;obtain⟨q,hq⟩:∃q:Int,q=(fL f ((v.parts.take j).foldl (js (fL f)) (h,[])).1 p).2:=⟨_,rfl⟩;rw[<-hq]at X8 ⊢;have HQ:=aa hq;clear hq;have zJ:=AG Bw XS s3;have CC:=Blk.mod (g:=w.heap.size) k3 m3 (Bw _ dR);have UZ:=Blk.mod (g:=bW) k5 m3 (Bw _ dR);have ZY:=fH oq m3 (λy hy=>Bw y eK);have ov3:=fH ov m3 (λy hy=>Bw y eK);have x4:Below w3.heap.size w3 (w3.alloc (.cells #[q] 3)):=(Below.refl _ _).alloc (af _) _;have kn4:Blk (w3.alloc (.cells #[q] 3)) w3.heap.size 3 [q]:=Blk.new' (l:=[.int .i64 q]))
    |(at_builtin;refine n8 (xs:=((v.parts.take j).foldl (js (fL f)) (h,[])).2.map (D.i .i64)) (F:=Fq) (d:=D.i .i64 q) (F':=[]) (b:=w3.heap.size) (m:=1) (te:=3) (cs:=[.int .i64 q]) Kh dU rfl _ _ rfl rfl (em ZY x4) rfl kn4 (by rw[own];exact⟨rfl,rfl,X8⟩) rfl (by rw[bP];exact qL.1) eb dP ?_;intro gg gc w5 F5 o5 ap5 md5))
   simp only[dT]at ap5;have hFG:∀y∈G,y ∉ Fq:=λy hy hm=>by have h1:=hGl y hy;have h2:=qL.2 y hm;omega
   go_roundw
   case rel=>
    refine⟨j+1,F3,some ⟨gg,0,none⟩,gc,F5,by omega,by go_num,rfl,?_,sj.trans s3 dP,Blk.mod (g:=w.heap.size) (CC.next x4) md5 (qL.notin dP),Blk.mod (g:=bW) (UZ.next x4) md5 (qL.notin dP),fH (em ov3 x4) md5 hFG,?_,⟨ap5.1,λy hy=>?_⟩,λy hy hm=>?_,?_⟩
    ·rw[qC HX.out];exact(H3.next x4).mod md5 (λy hy hm=>zJ y eV hy)
    ·rw[qC HX.out];show own prog _ (.sl ((((v.parts.take j).foldl (js (fL f)) (h,[])).2++[(fL f ((v.parts.take j).foldl (js (fL f)) (h,[])).1 p).2]).map (D.i .i64))) _ _ _
     rw[<-HQ.out,aI];exact o5
    ·rcases ap5.2 y hy with h1|h1|h1
     ·exact qL.2 y h1
     ·simp at h1
     ·omega
    ·have ahv:=H3.lo y hm;rcases aX.1 hy with e|hy
     ·exact zJ y mr hm
     ·rcases aX.1 hy with e|hy
      ·exact zJ y mr hm
      ·rcases aG.1 hy with hy|hy
       ·exact zJ y eK hm
       ·rcases ap5.2 y hy with h1|h1|h1
        ·exact zJ y kw hm
        ·simp at h1
        ·omega
    ·exact Mod.trans (gU (nO mj m3 (kj sj) (af _)) x4) md5 (λy hy=> .inr (by have:=qL.2 y hy;omega))
   case measure=>simp [intOf];omega
  ·obtain rfl:j=np:=dP;rw[aC wu]at Hj oq;obtain⟨b0,b1,b2,b3,b4,b5,b6,b7⟩:=k5.c8;have oc:own prog wr (Cel.toD ⟨0,noParts v,(v.parts.foldl (js (fL f)) (h,[])).2⟩) 43 (G++(Fq++[])) _:=uO (kP.2 dR) ov oq;have hGd:∀y∈G++(Fq++[]),y ∉ g::F':=λy hy=>Bw y qj
   have agY:(G++(Fq++[])).Nodup:=by rw[bP];exact aE.2 ⟨hGn,qL.1,λa ha b hb e=>by have h1:=hGl a ha;have h2:=qL.2 b hb;omega⟩
   go_wp2_with fail;refine(Eb _ _ g F' _ _ _ Hj oc hGd agY K9).mono ?_;rintro e w6 ⟨rfl,F6,H6,s6,m6⟩;go_wp2_with fail;go_ret;have hpd:fL (f+1) h v=gH (v.parts.foldl (js (fL f)) (h,[])).1 ⟨1,noParts v,(v.parts.foldl (js (fL f)) (h,[])).2⟩:=by rw[fL]
   rw[hpd];refine⟨rfl,E6 K9,F6,H6,λy hy=>?_,?_⟩
   ·rcases s6 y hy with h1|h1|h1
    ·exact sj y h1
    ·rcases aG.1 h1 with h1|h1
     ·have:=hGf y h1;exact .inr dP
     ·have:=qL.2 y mt;exact .inr dP
    ·exact .inr dP
   ·exact nO mj m6 (kj sj) (af _)
end Go.Proofs.YtekcpadlmfaihaaGreat
