/- Drawn operations on a heap: words. -/
import Derived.Test.YtekcpadlmfaihaaGreatWHu
import Derived.Test.YtekcpadlmfaihaaGreatWNb
import Derived.Test.YtekcpadlmfaihaaGreatWNss
import Derived.Test.YtekcpadlmfaihaaGreatWLm
import Derived.Test.YtekcpadlmfaihaaGreatWJd
import Derived.Test.YtekcpadlmfaihaaGreatWLn
import Derived.Test.YtekcpadlmfaihaaGreatWHyd
import Derived.Test.YtekcpadlmfaihaaGreatWHye
import Derived.Test.YtekcpadlmfaihaaGreatWLk
import Derived.Test.YtekcpadlmfaihaaGreatWLv
import Derived.Test.YtekcpadlmfaihaaGreatWLj
import Derived.Test.YtekcpadlmfaihaaGreatWNd
import Derived.Test.YtekcpadlmfaihaaGreatWNg
import Derived.Test.YtekcpadlmfaihaaGreatWDtItem
import Derived.ProofKit
import Derived.OpenShut
import Derived.ShutString
import Derived.ChangeOld
import Derived.Deep.Slices
import Derived.Deep.Fields
import Derived.ChangeSame
namespace Go.Proofs.YtekcpadlmfaihaaGreat
open Go.RowKit Proofs.Tryz
set_option linter.unusedSimpArgs false
set_option linter.unusedVariables false
variable {x:Hop} {cc ci cl cn cp nc ni nl nn np:Nat} {Ac Ai Al An Ap:Option Addr}
theorem acY:ElemTy prog 31 40 12 192:=by obtain⟨i0,hi,rJ,tW,hz2⟩:=cZ aaY;exact⟨i0,_,underlying31,hi,rJ,tW,hz2,rfl,by omega⟩
def DO (K:Nat) (A:Option Addr) (n c:Nat) (w:World) (g:Nat) (e:Ending) (w':World):Prop:=∃(x:Hop) (cs:List Value) (F:List Nat),szD x.toD<=K/\e= .returned (.agg cs.toArray)/\own prog w' x.toD 40 F cs/\Fresh w.heap.size F/\DrA A n c w g w'
def acj (k K:Nat) (l:List Hop):Prop:=l.length<=k/\gv (l.map Hop.toD)<=K
def DL (k K:Nat) (A:Option Addr) (n c:Nat) (w:World) (g:Nat) (e:Ending) (w':World):Prop:=∃(l:List Hop) (B:Option Addr) (m:Nat) (F:List Nat),acj k K l/\e= .returned (.slice B l.length m)/\own prog w' (.sl (l.map Hop.toD)) 31 F [.slice B l.length m]/\Fresh w.heap.size F/\DrA A n c w g w'
noncomputable section
def Gh.O (x:Gh):Hop:=@Classical.epsilon Hop ⟨⟨0,[],[],0,zeroV⟩⟩ λv=>v.toD=x.d
def Gh.P (x:Gh):List Hop:=@Classical.epsilon (List Hop) ⟨[]⟩ λv=>D.sl (v.map Hop.toD)=x.d
end
section
variable {w0 w w':World} {X:List Nat} {A:Option Addr} {n c g:Nat} {V0 V1:Value} {R:List As} {f:Nat} {args:Array Value} {Ψ:Ending->World->Prop} {d:D} {t:TypeId} {F:List Nat} {cs:List Value} {k K:Nat}
theorem Mem.outD (hC:Fe w [g] A n g) (M:Mem prog w [g] w' (.bk g 122 [.slice A n c,V0,V1]:: .fa (ti n V0 V1):: .ow d t cs::R)):∃F,own prog w' d t F cs/\Fresh w.heap.size F/\DrA A n c w g w':=by
 have hd:=Mem.outCur hC M;obtain⟨hm,FF,s1,n1,hx⟩:=M;obtain⟨F1,F2,rfl,⟨rfl,_⟩,s2⟩:=fJ.1 s1;obtain⟨F3,F4,rfl,⟨rfl,_⟩,s3⟩:=fJ.1 s2;obtain⟨F5,F6,rfl,o,s4⟩:=fJ.1 s3;refine⟨F5,o,⟨(aE.1 (aE.1 (aE.1 n1).2.1).2.1).1,λy hy=>?_⟩,hd⟩;rcases hx y eK with h1|h1
 ·exact zu
 ·exact h1
theorem Mem.outHop (hC:Fe w [g] A n g) (M:Mem prog w [g] w' (.bk g 122 [.slice A n c,V0,V1]:: .fa (ti n V0 V1):: .ow x.toD 40 cs::R)) (hK:szD x.toD<=K):DO K A n c w g (.returned (.agg cs.toArray)) w':=by obtain⟨F,o,h,hd⟩:=M.outD hC;exact⟨x,cs,F,hK,rfl,o,h,hd⟩
theorem Mem.outOps {l:List Hop} {B:Option Addr} {m:Nat} (hC:Fe w [g] A n g) (M:Mem prog w [g] w' (.bk g 122 [.slice A n c,V0,V1]:: .fa (ti n V0 V1):: .ow (.sl (l.map Hop.toD)) 31 [.slice B l.length m]::R)) (hK:acj k K l):DL k K A n c w g (.returned (.slice B l.length m)) w':=by obtain⟨F,o,h,hd⟩:=M.outD hC;exact⟨l,B,m,F,hK,rfl,o,h,hd⟩
theorem Mem.openHop {k0 k1 k2 k3 v0 v6 v7:Value} (M:Mem prog w0 X w (.ow x.toD 40 [k0,k1,k2,k3,v0,.slice Ai ni ci,.slice Ap np cp,.slice An nn cn,.slice Ac nc cc,.slice Al nl cl,v6,v7]::R)):
 (Lit.int .i64 x.kind).wf=true/\x.name.length<=maxLen/\x.frm.length<=maxLen/\(Lit.int .i64 x.at_).wf=true/\(Lit.int .i64 x.value.kind).wf=true/\(Lit.int .i64 x.value.code).wf=true/\(Lit.int .i64 x.value.env).wf=true/\Mem prog w0 X w (.ow x.value.toD 38 [v0,.slice Ai ni ci,.slice Ap np cp,.slice An nn cn,.slice Ac nc cc,.slice Al nl cl,v6,v7]::R):=by
 obtain⟨_,_,_,_,_,_,_,_,_,_,_,_,_,_,_,he,a1,a2,a3,a4,rv⟩:=lQ (M.rp 0 rfl);obtain⟨_,_,_,_,_,_,_,_,_,_,-,wk,-,-,-,-,-,wc,we⟩:=d_ rv;refine⟨a1,a2,a3,a4,wk,wc,we,Mem.as (C:=[_]) (C':=[_]) M λF hF _=>?_⟩;have o:own prog w x.toD 40 F _:=iQ.1 hF;refine iQ.2 ?_;show own prog w x.value.toD 38 F _;rw[qQ,own]at o;obtain⟨KW,css,h1,lK,h⟩:=o;rw[underlying40]at h1;injection h1 with h1;injection h1 with h1;subst h1;replace h:iB prog w [.i .i64 x.kind,.s x.name,.s x.frm,.i .i64 x.at_,x.value.toD] [3,9,9,3,38] F css:=h;rw[iB]at h;obtain⟨t0,u0,G0,H0,d0,e0,ht,rfl,rfl,k0,h⟩:=h;injection ht with rL ht2;subst rL ht2;rw[own]at k0;obtain⟨rfl,rfl,_⟩:=k0;rw[iB]at h;obtain⟨t1,u1,G1,H1,d1,e1,ht,rfl,rfl,k1,h⟩:=h;injection ht with rL ht2;subst rL ht2;rw[own]at k1;obtain⟨rfl,rfl,_⟩:=k1;rw[iB]at h;obtain⟨t2,u2,G2,H2,d2,e2,ht,rfl,rfl,k2,h⟩:=h;injection ht with rL ht2;subst rL ht2;rw[own]at k2;obtain⟨rfl,rfl,_⟩:=k2;rw[iB]at h;obtain⟨t3,u3,G3,H3,d3,e3,ht,rfl,rfl,k3,h⟩:=h;injection ht with rL ht2;subst rL ht2;rw[own]at k3;obtain⟨rfl,rfl,_⟩:=k3;rw[iB]at h;obtain⟨t4,u4,G4,H4,d4,e4,ht,rfl,rfl,k4,h⟩:=h;injection ht with rL ht2;subst rL ht2;rw[iB]at h;obtain⟨-,rfl,rfl⟩:=h;simp only[List.flatten_cons,List.flatten_nil,List.singleton_append,bP,bF]at lK;obtain⟨-,-,-,-,he⟩:=lK;rw[he];simpa using k4
theorem Mem.joinHop (M:Mem prog w0 X w (.ow x.value.toD 38 [x.value.kind,.slice Ai ni ci,.slice Ap np cp,.slice An nn cn,.slice Ac nc cc,.slice Al nl cl,x.value.code,x.value.env]::R))
 (wk:(Lit.int .i64 x.kind).wf=true) (wn:x.name.length<=maxLen) (wf:x.frm.length<=maxLen) (wa:(Lit.int .i64 x.at_).wf=true):Mem prog w0 X w (.ow x.toD 40 [x.kind,sv x.name,sv x.frm,x.at_,x.value.kind,.slice Ai ni ci,.slice Ap np cp,.slice An nn cn,.slice Ac nc cc,.slice Al nl cl,x.value.code,x.value.env]::R):=
 Mem.as (C:=[_]) (C':=[_]) M λF hF _=>by have o:=OS wk wn wf wa (iQ.1 hF);exact iQ.2 (show own prog w x.toD 40 F _ from by simpa using o)
theorem ac_ (hC:Fe w0 X A n g) (M:Mem prog w0 X w (.bk g 122 [.slice A n c,V0,V1]:: .fa (ti n V0 V1)::R)) (hc:CuA A n c w g->Calls prog f args w (DO K A n c w g))
 (hK:∀(x:Gh) w',Mem prog w0 X w' (.bk g 122 [.slice A n c,x.f 0,x.f 1]:: .fa (ti n (x.f 0) (x.f 1)):: .fa (szD x.O.toD<=K):: .ow x.O.toD 40 [x.O.kind,sv x.O.name,sv x.O.frm,x.O.at_,x.O.value.kind,.slice (x.A 1) x.O.value.items.length (x.C 1),.slice (x.A 2) x.O.value.parts.length (x.C 2),.slice (x.A 3) x.O.value.names.length (x.C 3),.slice (x.A 4) x.O.value.cls.length (x.C 4),.slice (x.A 5) x.O.value.levels.length (x.C 5),x.O.value.code,x.O.value.env]::R)->Ψ (.returned (.agg #[x.O.kind,sv x.O.name,sv x.O.frm,x.O.at_,x.O.value.kind,.slice (x.A 1) x.O.value.items.length (x.C 1),.slice (x.A 2) x.O.value.parts.length (x.C 2),.slice (x.A 3) x.O.value.names.length (x.C 3),.slice (x.A 4) x.O.value.cls.length (x.C 4),.slice (x.A 5) x.O.value.levels.length (x.C 5),x.O.value.code,x.O.value.env])) w'):Calls prog f args w Ψ:=
 (hc (M.cua hC)).mono λe w' q=>by
  obtain⟨v,cs,F,hs,rfl,ho,hF,hd⟩:=q
  let u:Hop:=@Classical.epsilon Hop ⟨⟨0,[],[],0,zeroV⟩⟩ λz=>z.toD=v.toD
  have hu:u.toD=v.toD:=@Classical.epsilon_spec Hop (λz=>z.toD=v.toD) ⟨v,rfl⟩;rw[<-hu]at ho hs;obtain⟨V2,V3,M'⟩:=M.drOwn hd ho hF;obtain⟨Ai,ci,Ap,cp,An,cn,Ac,cc,Al,cl,rfl,-⟩:=gQ (k:=u.kind) (nm:=u.name) (fr:=u.frm) (a:=u.at_) (v:=u.value) (M'.rp 2 rfl);exact hK ⟨0,none,0,λk=>[V2,V3].getD k undef,λk=>([none,Ai,Ap,An,Ac,Al]:List (Option Addr)).getD k none,λk=>([0,ci,cp,cn,cc,cl]:List Nat).getD k 0,v.toD⟩ w' ((M'.fact (p:=szD u.toD<=K) hs).perm (List.Perm.trans (List.Perm.swap _ _ _) (List.Perm.cons _ (List.Perm.swap _ _ _))))
theorem Gi (l:List Hop):D.sl ((@Classical.epsilon (List Hop) ⟨[]⟩ λv=>D.sl (v.map Hop.toD)=D.sl (l.map Hop.toD)).map Hop.toD)=D.sl (l.map Hop.toD):=@Classical.epsilon_spec (List Hop) (λv=>D.sl (v.map Hop.toD)=D.sl (l.map Hop.toD)) ⟨l,rfl⟩
theorem agj (hC:Fe w0 X A n g) (M:Mem prog w0 X w (.bk g 122 [.slice A n c,V0,V1]:: .fa (ti n V0 V1)::R)) (hc:CuA A n c w g->Calls prog f args w (DL k K A n c w g))
 (hK:∀(x:Gh) w',Mem prog w0 X w' (.bk g 122 [.slice A n c,x.f 0,x.f 1]:: .fa (ti n (x.f 0) (x.f 1)):: .fa (acj k K x.P):: .ow (.sl (x.P.map Hop.toD)) 31 [.slice x.a x.P.length x.c]::R)->Ψ (.returned (.slice x.a x.P.length x.c)) w'):Calls prog f args w Ψ:=
 (hc (M.cua hC)).mono λe w' q=>by
  obtain⟨v,B,m,F,hs,rfl,ho,hF,hd⟩:=q
  let u:List Hop:=@Classical.epsilon (List Hop) ⟨[]⟩ λz=>D.sl (z.map Hop.toD)=D.sl (v.map Hop.toD)
  have hu:D.sl (u.map Hop.toD)=D.sl (v.map Hop.toD):=Gi v;have hm:u.map Hop.toD=v.map Hop.toD:=by injection hu
  have hl:u.length=v.length:=by have:=cU List.length hm;simpa using this
  have hb:acj k K u:=⟨by rw[hl];exact hs.1,by rw[hm];exact hs.2⟩;rw[<-hu]at ho;rw[<-hl]at ho ⊢;obtain⟨V2,V3,M'⟩:=M.drOwn hd ho hF;exact hK ⟨0,B,m,λk=>[V2,V3].getD k undef,λ_=>none,λ_=>0,.sl (v.map Hop.toD)⟩ w' ((M'.fact (p:=acj k K u) hb).perm (List.Perm.trans (List.Perm.swap _ _ _) (List.Perm.cons _ (List.Perm.swap _ _ _))))
theorem Mem.newBlk {P:Program} (h:Mem P w0 X w R) (hk:Blk w' w.heap.size t cs) (hb:Below w.heap.size w w'):Mem P w0 X w' (.bk w.heap.size t cs::R):=
 Mem.step (C:=[]) (C':=[_]) h λF hF _=>by rw[Sats]at hF;subst hF;exact⟨[w.heap.size],fJ.2 ⟨[w.heap.size],[],rfl,⟨rfl,hk⟩,by rw[Sats]⟩,by simp,λg hg=> .inr (by simp at hg;omega),Mod.of_below hb⟩
theorem agk {B:Nat} {bs:List UInt8} (hr:Reads zq 1 w0 B A n bs) (hB:B<=w0.heap.size) (hX:∀x∈X,B<=x) (hn:n<=1048576) (M:Mem prog w0 X w R)
 (hK:∀(x:Gh) w',Mem prog w0 X w' (.bk x.b 122 [.slice A n c,x.f 0,x.f 1]:: .fa (ti n (x.f 0) (x.f 1)):: .fa (Fe w0 X A n x.b)::R)->Ψ (.returned (.pointer (some ⟨x.b,0,none⟩))) w'):Calls prog 32 #[.slice A n c] w Ψ:=
 (acL A n c bs w ((hr.below (M.mod.below hX hB)).more (du hB M.mod.size)) hn).mono λe w' q=>by obtain⟨rfl,⟨bs',i,h,B',hk,-,-,h5,h6,-⟩,hb⟩:=q;have hs:=M.mod.size;have M':=(M.newBlk hk hb);have M2:=(((M'.fact (p:=Fe w0 X A n w.heap.size) ⟨bs,B,hr,by omega,hB,hX,by omega⟩).fact (p:=ti n (.int .i64 i) (.int .i64 h)) ⟨i,h,rfl,rfl,h5,h6⟩).up [2]);exact hK ⟨w.heap.size,none,0,λk=>([i,h]:List Value).getD k undef,λ_=>none,λ_=>0,.b false⟩ w' M2
end
theorem MC {k:Int} {x:Item} (h:itemOK k x=true):x.den=0↔eI x=true:=by
 constructor
 ·intro h0;unfold itemOK at h;rw[bX]at h;rcases h with h|h
  ·exact h
  ·split at h
   ·simp only[ax,beq_iff_eq]at h;omega
   ·split at h
    ·have:=vw h;omega
    ·split at h
     ·simp only[ax,beq_iff_eq]at h;omega
     ·cases h
 ·intro h0;obtain rfl:x=⟨0,0,[]⟩:=by simpa [eI]using h0
  rfl
theorem TW {frm k:Int} {x:Item}:eI (gI frm k x)=true↔eI x=true:=by
 unfold gI;split
 ·exact Iff.rfl
 ·next hc=>
  have hm:¬eI x=true:=λe=>hc (.inl e);split
  ·simp [eI,sN]at hm ⊢;exact hm
  ·split<;>(simp [eI,sN]at hm ⊢;exact hm)
theorem abS {l:List Str} (h:∀x∈l,x.length<=60) (k:Nat):(ZT l k).length<=60:=by
 unfold ZT;cases hx:l[k]? with
 |none=>simp
 |some t=>exact h t (aA hx)
theorem xX {xk:Int} {y:Item} {xn xc xl:List Str} (hx:isVec ⟨xk,[y],[],xn,xc,xl,0,0⟩=true) (h1:1<=xk) (h3:xk<=3):
 ∃(pk:Int) (py:Item),(1<=pk/\pk<=3)/\itemOK pk py=true/\SU ⟨xk,[y],[],xn,xc,xl,0,0⟩=⟨pk,[py],[],[],[],[],0,0⟩/\
  (∀(cx:List Value) (w:World),rep w w.heap.size (Vec.toD ⟨xk,[y],[],xn,xc,xl,0,0⟩) cx->Calls prog 109 #[av cx] w (gM (Vec.toD ⟨pk,[py],[],[],[],[],0,0⟩) 38 w))/\
  (∀(cx:List Value) (w:World),rep w w.heap.size (Vec.toD ⟨xk,[y],[],xn,xc,xl,0,0⟩) cx->Calls prog 121 #[av cx] w (gM (Vec.toD ⟨pk,[py],[],[],[],[],0,0⟩) 38 w)):=by
 have F:=jf hx;obtain⟨m1,m2,m3,m4,m5,m6⟩:=FV.more (jB (i6 hx).1);have hy:itemOK xk y=true:=F.it y dR;have ZM:=rU hy;have hz:szD (Vec.toD ⟨xk,[y],[],xn,xc,xl,0,0⟩)<=500000000000:=by have:=vz hx;omega
 have kQ:xl.length<=20:=F.lev.1;have ahp:∀s∈xl,s.length<=60:=F.lev.2;have ht:=abS ahp (y.num - 1).toNat;have htm:(ZT xl (y.num - 1).toNat).length<=maxLen:=eb;have hL:0<xl.length->eI y=false->∃q:Nat,y.num=(q:Int)+1/\xl[q]?=some (ZT xl (y.num - 1).toNat):=λh0 hm=>by
  have h6:xl.length=0\/eI y=true\/(y.den=1/\1<=y.num/\y.num<=xl.length):=m6 y dR;rcases h6 with h|h|h
  ·omega
  ·rw[h]at hm;cases hm
  ·refine⟨(y.num - 1).toNat,by omega,?_⟩;unfold ZT;rw[aw dP];rfl
 obtain⟨pk,py,Ma,Sn,e⟩:∃(pk:Int) (py:Item),(1<=pk/\pk<=3)/\itemOK pk py=true/\SU ⟨xk,[y],[],xn,xc,xl,0,0⟩=⟨pk,[py],[],[],[],[],0,0⟩:=by
  by_cases hl:xl=[]
  ·exact⟨xk,y,⟨h1,h3⟩,hy,by unfold SU;rw[aN hl]⟩
  ·refine⟨3,if eI y then y else sN (ZT xl (y.num - 1).toNat),by omega,?_,by unfold SU;rw[aH hl];rfl⟩;split
   ·next hm=>simp [itemOK,hm]
   ·exact DZ ht
 refine⟨pk,py,Ma,Sn,e,λcx w hr=>?_,λcx w hr=>?_⟩
 ·have:=abZ xk y xn xc xl _ htm dP hL cx w hr hz;rw[e]at this;exact this
 ·have:=Vd xk y xn xc xl _ htm dP ZM (λ_=>MC hy) hL cx w hr;rw[e]at this;exact this
theorem O8 {xk:Int} {y:Item} {xn xc xl:List Str} (hx:isVec ⟨xk,[y],[],xn,xc,xl,0,0⟩=true) (h1:1<=xk) (h3:xk<=3) (lv:List Str) (hlb:lv.length<=20):
 ∃ly:Item,itemOK 2 ly=true/\
  (∀(A:Option Addr) (c:Nat) (cx:List Value) (w:World),rep w w.heap.size (Vec.toD ⟨xk,[y],[],xn,xc,xl,0,0⟩) cx->rep w w.heap.size (.sl (lv.map .s)) [.slice A lv.length c]->Calls prog 108 #[av cx,.slice A lv.length c] w (gM (Vec.toD ⟨2,[ly],[],[],[],[],0,0⟩) 38 w))/\
  (∀(A:Option Addr) (c:Nat) (cx:List Value) (w:World),rep w w.heap.size (Vec.toD ⟨xk,[y],[],xn,xc,xl,0,0⟩) cx->rep w w.heap.size (.sl (lv.map .s)) [.slice A lv.length c]->Calls prog 120 #[av cx,.slice A lv.length c] w (gM (Vec.toD ⟨2,[ly],[],[],[],[],0,0⟩) 38 w)):=by
 obtain⟨pk,py,Ma,Sn,e,PI,PS⟩:=xX hx h1 h3;have hy3:=JG Sn Ma.1 Ma.2 (Int.le_refl 3);have hlc:PM lv pk py=Eh lv (gI pk 3 py):=by
  unfold PM Eh;rw[Dh py Ma.1 Ma.2 (Int.le_refl 3)];have:(py.den=0\/ix lv (gI pk 3 py).text 0<0)↔(eI (gI pk 3 py)=true\/ix lv (gI pk 3 py).text 0<0):=by rw[MC Sn,TW]
  by_cases h:eI (gI pk 3 py)=true\/ix lv (gI pk 3 py).text 0<0
  ·rw[aN (this.2 h),aN h]
  ·rw[aH (λq=>h (this.1 q)),aH h]
 refine⟨Eh lv (gI pk 3 py),?_,λA c cx w hr hl=>?_,λA c cx w hr hl=>?_⟩
 ·unfold Eh;split
  ·simp [itemOK,eI]
  ·next h=>
   have:=(pY lv (gI pk 3 py).text 0).2;have hn:=JE (y:=ix lv (gI pk 3 py).text 0+1) dP dP;unfold itemOK;rw[aH dQ,aN rfl,hn,Bool.or_true]
 ·refine RI xk y (gI pk 3 py) xn xc xl lv A c cx w hr (λcx w hr=>?_) hl dP;exact V1 xk pk y py xn xc xl cx w hr e (λcx w hr=>by rw[e];exact PI cx w hr) dP Ma.2 (rU hy3)
 ·have:=SE xk pk y py xn xc xl lv A c cx w hr PS (λh=>QX (by rw[<-h];exact Sn)) hl dP;rw[hlc]at this;exact this
theorem Bt {v:Vec} {k:Int} (hv:isVec v=true) (h0:v.kind<=k) (hk:k<=3):isVec ⟨k,v.items.map (gI v.kind k),[],v.names,[],[],0,0⟩=true/\(∀x∈v.items,itemOK k (gI v.kind k x)=true)/\
 ∀(cs:List Value) (w:World),rep w w.heap.size v.toD cs->Calls prog 122 #[av cs,k] w (eH (Vec.toD ⟨k,v.items.map (gI v.kind k),[],v.names,[],[],0,0⟩) 38 (.bool true) w):=by
 have F:=jf hv;obtain⟨m1,m2,m3,m4,m5,m6⟩:=FV.more (jB (i6 hv).1);have Nn:∀x∈v.items,1<=v.kind:=λx hx=>by have:=F.ni (List.length_pos_of_mem hx);unfold atomK at this;have:=cD this;exact this.1
 have hp:v.parts.length=0:=by
  rcases bz v.parts.length with e|e
  ·exact e
  ·have:=F.np e;omega
 have hi:∀x∈v.items,itemOK k (gI v.kind k x)=true:=λx hx=>JG (F.it x hx) (Nn x hx) h0 hk;have hm:v.items.map (sI v.kind k)=v.items.map (gI v.kind k):=cT (λx hx=>Dh x (Nn x hx) h0 hk);have hc:isVec ⟨k,v.items.map (gI v.kind k),[],v.names,[],[],0,0⟩=true:=by
  refine DW ⟨by have:=F.kind.1;omega,hk⟩ (λh=>?_) (by have:=F.len;simp;omega) ⟨?_,F.names⟩ (λx hx=>?_)
  ·have h:0<v.items.length:=by simpa using h
   have:=Nn _ (dA h);omega
  ·rcases m2 with e|⟨e,e'⟩
   ·exact .inl e
   ·refine .inr ⟨?_,e'⟩;rw[e];unfold lenV;rw[aH dP,hp];simp
  ·obtain⟨z,hz,rfl⟩:=List.mem_map.1 hx;exact hi z hz
 refine⟨hc,hi,λcs w hr=>?_⟩;have:=Xg v k cs w hr (by have:=F.len;omega) (pB F) F.kind.1 h0 dP (λx hx=>by rw[Dh x (Nn x hx) h0 hk];exact rU (hi x hx)) (λx hx h=>QX (by rw[<-h];exact F.it x hx)) hv (eC hv) (by rw[hm];exact hc) (by rw[hm];exact eC hc);rw[hm]at this;exact this
theorem KX {T:Vec} (h:(kG T).2=[]):isVec T=true/\(kG T).1=T:=by
 unfold kG at h ⊢;split
 ·next e=>exact⟨e,rfl⟩
 ·next e=>rw[aH e]at h;cases h
theorem LN {v:Vec} {B:Nat} (h:VB v B):VB (gZ v) B:=by
 unfold gZ;split
 ·exact⟨h.i,h.p,⟨by simp,by simp⟩,h.c,h.l⟩
 ·exact h
theorem Bf (v:Vec):(gZ v).kind=v.kind:=by unfold gZ;split<;>rfl
theorem uf {α:Type} {l:List α} {n q:Nat} {d y z:α} (h:z∈(eY l n d).set q y):z∈l\/z=d\/z=y:=by
 rcases List.mem_or_eq_of_mem_set h with h|h
 ·unfold eY at h;rcases aG.1 h with h|h
  ·exact .inl h
  ·exact .inr (.inl (List.eq_of_mem_replicate h))
 ·exact .inr (.inr h)
theorem ue {α:Type} {l:List α} {q:Nat} {d y:α} (hl:l.length<=40) (hq:q<40):((eY l (q+1) d).set q y).length<=40:=by rw[da];unfold eY;simp;omega
theorem QJ {l:List Str} {q:Nat} (hl:l.length<=40) (hq:q<40) (h:∀x∈l,x.length<=60):(gS l (q+1)).length<=41/\∀x∈gS l (q+1),x.length<=60:=by
 unfold gS;split
 ·simp
 ·unfold eY;refine⟨by simp;omega,λx hx=>?_⟩;rcases aG.1 hx with h1|h1
  ·exact h x h1
  ·rw[List.eq_of_mem_replicate h1];simp
theorem VB.big {v:Vec} (h:VB v 740880000):bigV v:=by have:=h.sz;unfold bigV;omega
def wH (v x:Vec) (pt:Int) (rv:Vec) (rs:Str):Prop:=
 (∀(cv cs cx:List Value) (W:World),rep W W.heap.size v.toD cv->rep W W.heap.size (nU [pt]).toD cs->rep W W.heap.size x.toD cx->Calls prog 42 #[av cv,av cs,av cx] W (eH rv.toD 38 (sv rs) W))/\
 (∀(cv cs cx:List Value) (W:World),rep W W.heap.size v.toD cv->rep W W.heap.size (nU [pt]).toD cs->rep W W.heap.size x.toD cx->Calls prog 52 #[av cv,av cs,av cx] W (eH rv.toD 38 (sv rs) W))
theorem N9 {v:Vec} {xk:Int} {y:Item} {xn xc xl:List Str} {q:Nat} (hv:isVec v=true) (hx:isVec ⟨xk,[y],[],xn,xc,xl,0,0⟩=true) (h1:1<=xk) (h3:xk<=3) (hq:q<40) (h4:v.kind=4):
 ∃T:Vec,T.kind=4/\wH v ⟨xk,[y],[],xn,xc,xl,0,0⟩ ((q+1:Nat):Int) (kG T).1 (kG T).2:=by
 have F:=jf hv;obtain⟨m1,m2,m3,m4,m5,m6⟩:=FV.more (jB (i6 hv).1);obtain⟨OC,hvb⟩:=rm hv h4;have Uu:v.items=[]:=by rw[OC]
 have kQ:v.levels=[]:=by rw[OC]
 have gK:=F.len;have hnn:=pB F;have hn5:¬v.kind=5:=dP;have ZB:lenV v=v.parts.length:=by unfold lenV;rw[aH hn5,Uu];simp
 have hnm:v.names=[]\/v.names.length=v.parts.length:=by
  rcases m2 with e|⟨e,e'⟩
  ·exact .inl (aR.1 e)
  ·exact .inr (by rw[e,ZB])
 have UC:=(i6 hv).1;have xy:∀z∈v.parts,okD 3 z=true/\szD z.toD<=740880000:=λz hz=>by have h:=UC;rw[okD]at h;simp only[ax,aV]at h;have h2:=Ew (h.2 z hz);exact⟨h2,AZ h2⟩
 obtain⟨pk,py,Ma,Sn,e,PI,PS⟩:=xX hx h1 h3;have hone:=JF Ma.1 Ma.2 Sn;have hwr:=PF Ma.1 Ma.2 Sn;have h1o:okD 3 (qw pk py)=true:=Ev dP (λ_=>Ma.1) dR dR (by simpa using Sn);have h1s:szD (qw pk py).toD<=740880000:=AZ h1o;have abA:VB (EE v.parts v.names v.cls v.levels q (qw pk py)) 740880000:=by
  refine⟨by simp [EE],⟨?_,λz hz=>?_⟩,QJ hnn hq F.names,⟨by have:=F.cls.1;show v.cls.length<=40;omega,F.cls.2⟩,⟨by have:=F.lev.1;show v.levels.length<=40;omega,F.lev.2⟩⟩
  ·have:=ue (l:=v.parts) (d:=zeroV) (y:=qw pk py) (q:=q) dP hq;show ((eY v.parts (q+1) zeroV).set q (qw pk py)).length<=41;omega
  ·rcases uf (show z∈(eY v.parts (q+1) zeroV).set q (qw pk py) from hz) with h|rfl|rfl
   ·exact(xy z h).2
   ·simp [zeroV,go,szD,gv]
   ·exact h1s
 have ga:=(LN abA).big;have ec:conv v 4=⟨4,[],v.parts,v.names,[],[],0,0⟩:=by unfold conv;rw[aN rfl,Uu];simp
 refine⟨gZ (EE v.parts v.names v.cls v.levels q (qw pk py)),by rw[Bf];rfl,?_,?_⟩
 ·intro cv cs cx W gF mP fE;obtain⟨sb,so,c1,A2,c2,A3,c3,A4,c4,A5,c5,rfl,-,-,-,-⟩:=kV mP;refine xr v _ _ xk pk y py py xn xc xl q hq cv _ cx W gF mP fE h1 h3 (λW a b c=>QB v _ cv cx _ W a c hv hx (eC hv) (eC hx) hn5 _ dP dP b) (λh=>by rw[kQ]at h;simp at h) (λ_ W r=>PI cx W r) (λh=>by rw[kQ]at h;simp at h) (λ_ pb pc cz W a b c d=>?_);exact VS v ⟨pk,[py],[],[],[],[],0,0⟩ (qw pk py) v.parts q pb 0 pc _ _ _ _ _ _ _ _ _ _ _ _ _ _ _ _ _ cv cz W a b c d hq (by rw[h4];show max 4 pk=4;omega) (by show ¬pk=5;omega) hnm dP r_ sn dP
   (λcs W r=>by have:=zn v cs W r dP dP hnn hn5 dP (by rw[Uu];simp) (λz hz=>by have:=(xy z hz).2;omega);rw[ec]at this;exact this)
   (λcs W r=>zn ⟨pk,[py],[],[],[],[],0,0⟩ cs W r dR dR dR (by show ¬pk=5;omega) (by show pk<=4;omega) (λz hz=>by obtain rfl:z=py:=ms;exact rU Sn) dR) ga
 ·intro cv cs cx W gF mP fE;refine N0 v xk pk y py (qw pk py) v.parts xn xc xl q hq cv cs cx W gF mP fE h1 h3 hv (eC hv) hx (eC hx) h4 dP hnm dP gK r_ sn h1o dP
   (λW r A c=>Ag (lenV v) (by rw[ZB];omega) A v.names.length c B7 _ dP dP cs W r) (λh=>by rw[kQ]at h;simp at h) (λ_ W r=>PS cx W r) (λcs W r=>?_) (λcs W r=>?_) ga
  ·rw[OC]at r;exact Cw v.parts v.names v.cls [] cs W r dP hnn (λz hz=>⟨(xy z hz).1,by have:=(xy z hz).2;omega⟩) (by rw[<-OC];exact hv) (by rw[<-OC];exact eC hv) hvb (eC hvb)
  ·exact Xh pk py [] [] [] cs W r dR Ma.1 Ma.2 (rU Sn) hone (eC hone) hwr (eC hwr)
theorem BH {v:Vec} {xk zk:Int} {y zy:Item} {xn xc xl:List Str} {q:Nat} (hv:isVec v=true) (hx:isVec ⟨xk,[y],[],xn,xc,xl,0,0⟩=true) (h1:1<=xk) (h3:xk<=3) (hq:q<40) (h4:v.kind<=3) (hzk:1<=zk/\zk<=3) (hzy:itemOK zk zy=true) (hz2:0<v.levels.length->zk=2)
 (LI:0<v.levels.length->∀(A:Option Addr) (c:Nat) (cx:List Value) (w:World),rep w w.heap.size (Vec.toD ⟨xk,[y],[],xn,xc,xl,0,0⟩) cx->rep w w.heap.size (.sl (v.levels.map .s)) [.slice A v.levels.length c]->Calls prog 108 #[av cx,.slice A v.levels.length c] w (gM (Vec.toD ⟨2,[zy],[],[],[],[],0,0⟩) 38 w))
 (LS:0<v.levels.length->∀(A:Option Addr) (c:Nat) (cx:List Value) (w:World),rep w w.heap.size (Vec.toD ⟨xk,[y],[],xn,xc,xl,0,0⟩) cx->rep w w.heap.size (.sl (v.levels.map .s)) [.slice A v.levels.length c]->Calls prog 120 #[av cx,.slice A v.levels.length c] w (gM (Vec.toD ⟨zk,[zy],[],[],[],[],0,0⟩) 38 w))
 (PI:v.levels.length=0->∀(cx:List Value) (w:World),rep w w.heap.size (Vec.toD ⟨xk,[y],[],xn,xc,xl,0,0⟩) cx->Calls prog 109 #[av cx] w (gM (Vec.toD ⟨zk,[zy],[],[],[],[],0,0⟩) 38 w))
 (PS:v.levels.length=0->∀(cx:List Value) (w:World),rep w w.heap.size (Vec.toD ⟨xk,[y],[],xn,xc,xl,0,0⟩) cx->Calls prog 121 #[av cx] w (gM (Vec.toD ⟨zk,[zy],[],[],[],[],0,0⟩) 38 w)):
 ∃T:Vec,T.kind<=3/\wH v ⟨xk,[y],[],xn,xc,xl,0,0⟩ ((q+1:Nat):Int) (kG T).1 (kG T).2:=by
 have F:=jf hv;obtain⟨m1,m2,m3,m4,m5,m6⟩:=FV.more (jB (i6 hv).1);have hn5:¬v.kind=5:=dP;have gK:=F.len;have hnn:=pB F;have hp:v.parts.length=0:=by
  rcases bz v.parts.length with e|e
  ·exact e
  ·have:=F.np e;omega
 have ZB:lenV v=v.items.length:=by unfold lenV;rw[aH hn5,hp];rfl
 have hnm:v.names=[]\/v.names.length=v.items.length:=by
  rcases m2 with e|⟨e,e'⟩
  ·exact .inl (aR.1 e)
  ·exact .inr (by rw[e,ZB])
 obtain⟨k,hk⟩:∃k,max v.kind zk=k:=⟨_,rfl⟩;have Sk:v.kind<=k/\zk<=k/\k<=3:=dP;obtain⟨c1,c2,c3⟩:=Bt hv Sk.1 Sk.2.2;have hone:=JF hzk.1 hzk.2 hzy;obtain⟨d1,d2,d3⟩:=Bt hone Sk.2.1 Sk.2.2;have hyk:itemOK k (gI zk k zy)=true:=d2 zy dR;have abA:VB (A_ k (v.items.map (gI v.kind k)) v.names v.cls v.levels q (gI zk k zy)) 740880000:=by
  refine⟨⟨?_,λz hz=>?_⟩,by simp [A_],QJ hnn hq F.names,⟨by have:=F.cls.1;show v.cls.length<=40;omega,F.cls.2⟩,⟨by have:=F.lev.1;show v.levels.length<=40;omega,F.lev.2⟩⟩
  ·have:=ue (l:=v.items.map (gI v.kind k)) (d:=(⟨0,0,[]⟩:Item)) (y:=gI zk k zy) (q:=q) dS hq;show ((eY (v.items.map (gI v.kind k)) (q+1) (⟨0,0,[]⟩:Item)).set q (gI zk k zy)).length<=41;omega
  ·rcases uf (show z∈(eY (v.items.map (gI v.kind k)) (q+1) (⟨0,0,[]⟩:Item)).set q (gI zk k zy) from hz) with h|rfl|rfl
   ·obtain⟨u,hu,rfl⟩:=List.mem_map.1 h;exact D5 (c2 u hu)
   ·simp
   ·exact D5 hyk
 have ga:=(LN abA).big;have HR:∀(B1 B2 B3 B4 B5:Option Addr) (m1 d1 m2 d2 m3 d3 m4 d4 m5 d5:Nat) (e1 e2:Int) (pb pc:Nat) (cv cz:List Value) (W:World),rep W W.heap.size v.toD cv->rep W W.heap.size (Vec.toD ⟨zk,[zy],[],[],[],[],0,0⟩) cz->pb<W.heap.size->W.cell? ⟨pb,0,none⟩=some (.int .i64 ((q+1:Nat):Int))->Calls prog 110 #[av cv,.slice (some ⟨pb,0,none⟩) 1 pc,.agg #[.int .i64 2,.slice B1 m1 d1,.slice B2 m2 d2,.slice B3 m3 d3,.slice B4 m4 d4,.slice B5 m5 d5,e1,e2],av cz,.int .i64 ((q+1:Nat):Int)] W
  (eH (kG (gZ (A_ k (v.items.map (gI v.kind k)) v.names v.cls v.levels q (gI zk k zy)))).1.toD 38 (sv (kG (gZ (A_ k (v.items.map (gI v.kind k)) v.names v.cls v.levels q (gI zk k zy)))).2) W):=
  λB1 B2 B3 B4 B5 m1 d1 m2 d2 m3 d3 m4 d4 m5 d5 e1 e2 pb pc cv cz W a b c d=>VP v ⟨zk,[zy],[],[],[],[],0,0⟩ zy q k pb 0 pc B1 B2 B3 B4 B5 m1 d1 m2 d2 m3 d3 m4 d4 m5 d5 e1 e2 cv cz W a b c d hq hk dP F.kind.1 (by show 0<=zk;omega) rfl dP hnm dR r_ sn (λz hz=>rU (c2 z hz)) (rU hyk) ga
 refine⟨gZ (A_ k (v.items.map (gI v.kind k)) v.names v.cls v.levels q (gI zk k zy)),by rw[Bf];exact Sk.2.2,?_,?_⟩
 ·intro cv cs cx W gF mP fE;obtain⟨sb,so,c1,A2,c2,A3,c3,A4,c4,A5,c5,rfl,-,-,-,-⟩:=kV mP;exact xr v _ _ xk zk y zy zy xn xc xl q hq cv _ cx W gF mP fE h1 h3 (λW a b c=>QB v _ cv cx _ W a c hv hx (eC hv) (eC hx) hn5 _ dP dP b) (λh A c W r1 r2=>LI h A c cx W r1 r2) (λh W r=>PI h cx W r)
   (λh pb pc cz W a b c d=>HR _ _ _ _ _ _ _ _ _ _ _ _ _ _ _ _ _ pb pc cv cz W a (by rw[hz2 h];exact b) c d) (λ_ pb pc cz W a b c d=>HR _ _ _ _ _ _ _ _ _ _ _ _ _ _ _ _ _ pb pc cv cz W a b c d)
 ·intro cv cs cx W gF mP fE;exact NW v xk zk k y zy (gI zk k zy) (v.items.map (gI v.kind k)) xn xc xl q hq cv cs cx W gF mP fE h1 h3 hv (eC hv) hx (eC hx) F.kind.1 dP hk dP (by simpa using hnm) dS gK r_ sn (rU hyk)
   (λW r A c=>Ag (lenV v) (by rw[ZB];omega) A v.names.length c B7 _ dP dP cs W r) (λh A c W r1 r2=>LS h A c cx W r1 r2) (λh W r=>PS h cx W r) c3 d3 ga
theorem N8 {v x:Vec} {pt:Int} (hv:isVec v=true) (hx:isVec x=true) (hk:1<=x.kind/\x.kind<=3) (h1:x.items.length=1) (hp:1<=pt/\pt<=40) (h5:¬v.kind=5):
 ∃(rv:Vec) (rs:Str),wH v x pt rv rs/\(rs=[]->(rv.kind=4↔v.kind=4)/\isVec rv=true):=by
 obtain⟨xk,y,xn,xc,xl,rfl⟩:=Y3 hx hk h1;obtain⟨q,rfl⟩:∃q:Nat,pt=((q+1:Nat):Int):=⟨pt.toNat - 1,by omega⟩;have F:=jf hv;have hq:q<40:=dP;by_cases h4:v.kind=4
 ·obtain⟨T,hT,hB⟩:=N9 hv hx hk.1 hk.2 hq h4;refine⟨_,_,hB,λe=>?_⟩;obtain⟨e1,e2⟩:=KX e;rw[e2,hT,h4];exact⟨Iff.rfl,e1⟩
 ·have hv3:v.kind<=3:=by have:=F.kind.2;omega
  obtain⟨T,hT,hB⟩:∃T:Vec,T.kind<=3/\wH v ⟨xk,[y],[],xn,xc,xl,0,0⟩ ((q+1:Nat):Int) (kG T).1 (kG T).2:=by
   by_cases hl:v.levels.length=0
   ·obtain⟨pk,py,Ma,Sn,e,PI,PS⟩:=xX hx hk.1 hk.2;exact BH hv hx hk.1 hk.2 hq hv3 Ma Sn (λh=>by omega) (λh=>by omega) (λh=>by omega) (λ_=>PI) (λ_=>PS)
   ·obtain⟨ly,hly,LI,LS⟩:=O8 hx hk.1 hk.2 v.levels F.lev.1;exact BH hv hx hk.1 hk.2 hq hv3 dP hly (λ_=>rfl) (λ_=>LI) (λ_=>LS) (λh=>absurd h hl) (λh=>absurd h hl)
  refine⟨_,_,hB,λe=>?_⟩;obtain⟨e1,e2⟩:=KX e;rw[e2];exact⟨⟨λh=>by omega,λh=>absurd h h4⟩,e1⟩
def ElI (v x:Vec) (nm:Str) (rv:Vec) (rs:Str):Prop:=∀(cv cs cx:List Value) (W:World),rep W W.heap.size v.toD cv->rep W W.heap.size (iA [nm]).toD cs->rep W W.heap.size x.toD cx->Calls prog 112 #[av cv,av cs,av cx] W (eH rv.toD 38 (sv rs) W)
def ElS (v x:Vec) (nm:Str) (rv:Vec) (rs:Str):Prop:=∀(cv cs cx:List Value) (W:World),rep W W.heap.size v.toD cv->rep W W.heap.size (iA [nm]).toD cs->rep W W.heap.size x.toD cx->Calls prog 128 #[av cv,av cs,av cx] W (eH rv.toD 38 (sv rs) W)
def FiI (v x:Vec) (nm:Str) (rv:Vec) (rs:Str):Prop:=∀(cv cx:List Value) (W:World),rep W W.heap.size v.toD cv->rep W W.heap.size x.toD cx->Calls prog 45 #[av cv,sv nm,av cx] W (eH rv.toD 38 (sv rs) W)
def FiS (v x:Vec) (nm:Str) (rv:Vec) (rs:Str):Prop:=∀(cv cx:List Value) (W:World),rep W W.heap.size v.toD cv->rep W W.heap.size x.toD cx->Calls prog 57 #[av cv,sv nm,av cx] W (eH rv.toD 38 (sv rs) W)
theorem Dp {x:Vec}:∀{l:List Vec},x∈l->jF x<=ik l
 |[],h=>by simp at h
 |a::t,h=>by
  rw[ik];rcases aX.1 h with rfl|h
  ·omega
  ·have:=Dp h;omega
theorem PV {T x:Vec} (h4:T.kind=4) (h:isVec T=true) (hx:x∈T.parts):isVec ⟨4,[],[x],[],[],[],0,0⟩=true:=by
 obtain⟨h1,h2⟩:=i6 h;rw[okD]at h1;simp only[ax,aV]at h1;refine vy (tY dR (rr 3) dR (λz hz=>?_)) ?_
 ·obtain rfl:z=x:=ms;exact h1.2 z hx
 ·rw[jU]at h2 ⊢;have h3:=Dp hx;have h5:1<=lenV T:=by unfold lenV;rw[aH dP];have:=List.length_pos_of_mem hx;omega
  have h6:lenV ⟨4,[],[x],[],[],[],0,0⟩=1:=rfl;have h7:ik (Vec.parts ⟨4,[],[x],[],[],[],0,0⟩)=jF x:=by simp [ik]
  rw[h6,h7];omega
theorem NO {its:List Vec} {nf cls lv:List Str} {q:Nat} {nm:Str} {x:Vec}:x∈(gZ (mV its nf cls lv q nm x)).parts:=by
 have h:(gZ (mV its nf cls lv q nm x)).parts=(eY its (q+1) zeroV).set q x:=by unfold gZ;split<;>rfl
 rw[h];refine aA (i:=q) ?_;rw[List.getElem?_set_self];unfold eY;simp;omega
theorem Jt {ns:List Str} {n:Nat} (h:ns=[]\/ns.length=n):(gA ns n).length=n:=by
 unfold gA;split
 ·simp
 ·rcases h with h|h
  ·contradiction
  ·exact h
theorem Uj {ns:List Str} {n:Nat} (h:∀s∈ns,s.length<=60):∀s∈gA ns n,s.length<=60:=by
 unfold gA;split
 ·intro s hs;rw[List.eq_of_mem_replicate hs];simp
 ·exact h
theorem E7 {ns:List Str} {n:Nat} {nm:Str} (hn:n<=40) (h:ns=[]\/ns.length=n):∃q:Nat,q<=n/\pu ns n nm=((q+1:Nat):Int)/\(ix ns nm 0<0->q=n)/\(∀j:Nat,ix ns nm 0=(j:Int)->q=j/\j<n/\ns.length=n):=by
 have hg:=pY ns nm 0;by_cases hi:ix ns nm 0<0
 ·exact⟨n,af _,by rw[tq hi];omega,λ_=>rfl,λj hj=>by omega⟩
 ·obtain⟨j,hj⟩:=bQ (show 0<=ix ns nm 0 by omega);have hl:ns.length=n:=by
   rcases h with rfl|h
   ·simp at hg;omega
   ·exact h
  exact⟨j,by omega,by rw[tt hi,hj];omega,λh=>absurd h hi,λi hij=>by omega⟩
structure LV (its:List Vec) (ns cls:List Str):Prop where
 v:isVec ⟨4,[],its,ns,cls,[],0,0⟩=true
 b:isVec ⟨4,[],its,ns,[],[],0,0⟩=true
 l:its.length<=40
 n:ns=[]\/ns.length=its.length
 n60:ns.length<=40/\∀s∈ns,s.length<=60
 c:cls.length<=3/\∀s∈cls,s.length<=60
 p:∀z∈its,okD 3 z=true/\szD z.toD<=740880000
theorem LV.of {its:List Vec} {ns cls:List Str} (hv:isVec ⟨4,[],its,ns,cls,[],0,0⟩=true):LV its ns cls:=by
 have F:=jf hv;obtain⟨m1,m2,m3,m4,m5,m6⟩:=FV.more (jB (i6 hv).1);have UC:=(i6 hv).1;have gK:([]:List Item).length+its.length<=40:=F.len;refine⟨hv,(rm hv rfl).2,by simpa using gK,?_,⟨pB F,F.names⟩,F.cls,λz hz=>?_⟩
 ·rcases m2 with e|⟨e,e'⟩
  ·exact .inl (aR.1 e)
  ·exact .inr (by have e:ns.length=_:=e;rw[e];unfold lenV;rw[aH qn];simp)
 ·rw[okD]at UC;simp only[ax,aV]at UC;have h2:=Ew (UC.2 z hz);exact⟨h2,AZ h2⟩
theorem LV.conv {its:List Vec} {ns cls:List Str} (L:LV its ns cls) (cs:List Value) (W:World) (r:rep W W.heap.size (Vec.toD ⟨4,[],its,ns,cls,[],0,0⟩) cs):Calls prog 160 #[av cs,.int .i64 4] W (eH (Vec.toD ⟨4,[],its,ns,[],[],0,0⟩) 38 (.bool true) W):=by
 have:=zn ⟨4,[],its,ns,cls,[],0,0⟩ cs W r dR L.l L.n60.1 qn (by show (4:Int)<=4;decide) dR (λz hz=>by have:=(L.p z hz).2;omega);have ec:Go.Proofs.YtekcpadlmfaihaaGreat.conv ⟨4,[],its,ns,cls,[],0,0⟩ 4=⟨4,[],its,ns,[],[],0,0⟩:=by unfold Go.Proofs.YtekcpadlmfaihaaGreat.conv;rw[aN rfl];simp
 rw[ec]at this;exact this
theorem LV.coer {its:List Vec} {ns cls:List Str} (L:LV its ns cls) (cs:List Value) (W:World) (r:rep W W.heap.size (Vec.toD ⟨4,[],its,ns,cls,[],0,0⟩) cs):Calls prog 122 #[av cs,.int .i64 4] W (eH (Vec.toD ⟨4,[],its,ns,[],[],0,0⟩) 38 (.bool true) W):=
 Cw its ns cls [] cs W r L.l L.n60.1 (λz hz=>⟨(L.p z hz).1,by have:=(L.p z hz).2;omega⟩) L.v (eC L.v) L.b (eC L.b)
theorem LV.res {its:List Vec} {ns cls:List Str} (L:LV its ns cls) {nm:Str} (hn:1<=nm.length/\nm.length<=60) {q:Nat} (hp:pu ns its.length nm=((q+1:Nat):Int)) (cs:List Value) (A:Option Addr) (c:Nat) (W:World) (r1:rep W W.heap.size (iA [nm]).toD cs) (r2:rep W W.heap.size (.sl (ns.map .s)) [.slice A ns.length c]):
 Calls prog 117 #[.int .i64 (its.length:Nat),.slice A ns.length c,av cs] W (jq [((q+1:Nat):Int)] [] W):=by
 have:=LH its.length L.l ns A c (by rcases L.n with h|h<;>first|exact .inl (by rw[h];rfl)|exact .inr h) nm eb hn.2 (by cases nm;simp at hn;rfl) cs W r2 r1;rw[hp]at this;exact this
theorem LV.asg {its:List Vec} {ns cls:List Str} (L:LV its ns cls) {x:Vec} (hx:isVec x=true) {nm:Str} (hn:1<=nm.length/\nm.length<=60) {q:Nat} (hp:pu ns its.length nm=((q+1:Nat):Int)) (cv cs cx:List Value) (W:World) (a:rep W W.heap.size (Vec.toD ⟨4,[],its,ns,cls,[],0,0⟩) cv) (b:rep W W.heap.size (iA [nm]).toD cs) (c:rep W W.heap.size x.toD cx):
 Calls prog 105 #[av cv,av cs,av cx] W (jq [((q+1:Nat):Int)] [] W):=by
 have:=Xb ⟨4,[],its,ns,cls,[],0,0⟩ x cv cx cs W a c L.v hx (eC L.v) (eC hx) qn nm eb hn.2 (by cases nm;simp at hn;rfl) b;have e:lenV ⟨4,[],its,ns,cls,[],0,0⟩=its.length:=by unfold lenV;rw[aH qn];simp
 rw[e]at this;have e2:pu (Vec.names ⟨4,[],its,ns,cls,[],0,0⟩) its.length nm=((q+1:Nat):Int):=hp;rw[e2]at this;exact this
theorem We:szD zeroV.toD=0:=by simp [zeroV,go,szD,gv]
theorem YC {its:List Vec} {ns cls:List Str} (L:LV its ns cls) {x:Vec} (hxs:szD x.toD<=740880000) {nm:Str} (hn:nm.length<=60) {q:Nat} (hq:q<40):VB (mV its (gA ns its.length) cls [] q nm x) 740880000:=by
 have hf:=Jt L.n;have hf6:=Uj (n:=its.length) L.n60.2;refine⟨by simp [mV],⟨?_,λz hz=>?_⟩,?_,⟨by have:=L.c.1;show cls.length<=40;omega,L.c.2⟩,by simp [mV]⟩
 ·have:=ue (l:=its) (d:=zeroV) (y:=x) (q:=q) L.l hq;show ((eY its (q+1) zeroV).set q x).length<=41;omega
 ·rcases uf (show z∈(eY its (q+1) zeroV).set q x from hz) with h|rfl|rfl
  ·exact(L.p z h).2
  ·rw[We];omega
  ·exact hxs
 ·show (if q<its.length then _ else _:List Str).length<=41/\∀s∈(if q<its.length then _ else _:List Str),s.length<=60;have hl:=L.l;split
  ·exact⟨by omega,hf6⟩
  ·refine⟨?_,λs hs=>?_⟩
   ·have:=ue (l:=gA ns its.length) (d:=([]:Str)) (y:=nm) (q:=q) dP hq;omega
   ·rcases uf hs with h|rfl|rfl
    ·exact hf6 s h
    ·simp
    ·exact hn
theorem Jp {its:List Vec} {ns cls:List Str} {x:Vec} {nm:Str} (L:LV its ns cls) (hx:isVec x=true) (hx0:¬x.kind=0) (hn:1<=nm.length/\nm.length<=60):
 ∃(rv:Vec) (rs:Str),ElI ⟨4,[],its,ns,cls,[],0,0⟩ x nm rv rs/\ElS ⟨4,[],its,ns,cls,[],0,0⟩ x nm rv rs/\(rs=[]->∃q:Nat,q<40/\pu ns its.length nm=((q+1:Nat):Int)/\rv=gZ (mV its (gA ns its.length) cls [] q nm x)/\isVec rv=true):=by
 obtain⟨q,Px,UG,-,-⟩:=E7 (nm:=nm) L.l L.n;have hl:=L.l;have UM:=(i6 hx).1;have hxs:=vz hx;have abr:nm.length<=maxLen:=eb;have hX1:bigV ⟨4,[],[x],[],[],[],0,0⟩:=by have:VB ⟨4,[],[x],[],[],[],0,0⟩ 740880000:=⟨by simp,⟨by simp,λz hz=>by obtain rfl:z=x:=ms;exact hxs⟩,by simp,by simp,by simp⟩;exact this.big
 have Ng:max (4:Int) 4=4:=dQ;have hxk:¬(4:Int)=5:=dQ;have CX:∀(cs:List Value) (W:World),rep W W.heap.size (Vec.toD ⟨4,[],[x],[],[],[],0,0⟩) cs->Calls prog 160 #[av cs,.int .i64 4] W (eH (Vec.toD ⟨4,[],[x],[],[],[],0,0⟩) 38 (.bool true) W):=λcs W r=>by
  have:=zn ⟨4,[],[x],[],[],[],0,0⟩ cs W r dR dR dR hxk (by show (4:Int)<=4;decide) dR (λz hz=>by obtain rfl:z=x:=ms;omega);have ec:conv ⟨4,[],[x],[],[],[],0,0⟩ 4=⟨4,[],[x],[],[],[],0,0⟩:=rfl
  rw[ec]at this;exact this
 by_cases hq:q<40
 ·have ga:=(LN (YC L hxs hn.2 hq)).big;refine⟨(kG (gZ (mV its (gA ns its.length) cls [] q nm x))).1,(kG (gZ (mV its (gA ns its.length) cls [] q nm x))).2,?_,?_,λe=>?_⟩
  ·intro cv cs cx W gF mP fE;refine uV _ x _ _ nm _ dP cv cs cx W gF mP fE rfl hx0 (λW a b c=>L.asg hx hn UG cv cs cx W a b c) (λpb pc cz W a b c d e=>?_);obtain⟨sb,so,c1,A2,c2,A3,c3,A4,c4,A5,c5,rfl,tV,-,-,e2⟩:=jX b;exact VT ⟨4,[],its,ns,cls,[],0,0⟩ ⟨4,[],[x],[],[],[],0,0⟩ x its q nm pb 0 pc sb so c1 _ _ _ _ _ _ _ _ _ _ _ _ _ _ cv cz W a c d e tV e2 hq abr Ng hxk L.n L.l (by have:=L.c.1;show cls.length<=40;omega) dR dP L.conv CX ga
  ·intro cv cs cx W gF mP fE;have iU:=λbx hb HS=>Af its ns cls x (kG (gZ (mV its (gA ns its.length) cls [] q nm x))).1 (kG (gZ (mV its (gA ns its.length) cls [] q nm x))).2 nm q dP cv cs cx W gF mP fE L.v (eC L.v) hx (eC hx) L.l hx0 (L.res hn UG cs) bx hb hX1 UM dP HS;cases hb:isVec ⟨4,[],[x],[],[],[],0,0⟩ with
   |true=>
    exact iU true hb λ_ cz W a b c=>N6 its ns cls x nm q hq cv cs cz W a b c abr L.v (eC L.v) hb (eC hb) L.n L.l (by have:=L.c.1;omega) UM dP (L.res hn UG cs) L.coer
     (λcs W r=>Cw [x] [] [] [] cs W r dR dR (λz hz=>by obtain rfl:z=x:=ms;exact⟨UM,by omega⟩) hb (eC hb) hb (eC hb)) ga
   |false=>
    have:=iU false hb (λh=>by cases h);have hT:isVec (gZ (mV its (gA ns its.length) cls [] q nm x))=false:=by
     cases hT:isVec (gZ (mV its (gA ns its.length) cls [] q nm x)) with
     |false=>rfl
     |true=>
      have:=PV (by rw[Bf];rfl) hT NO;rw[hb]at this;cases this
    have e1:kG (gZ (mV its (gA ns its.length) cls [] q nm x))=(zeroV,E_):=by unfold kG;rw[hT];rfl
    rw[e1];exact this
  ·obtain⟨e1,e2⟩:=KX e;rw[e2];exact⟨q,hq,UG,rfl,e1⟩
 ·obtain rfl:q=40:=dP;refine⟨zeroV,E_,?_,?_,λe=>by cases e⟩
  ·intro cv cs cx W gF mP fE;refine uV _ x _ _ nm _ dP cv cs cx W gF mP fE rfl hx0 (λW a b c=>L.asg hx hn UG cv cs cx W a b c) (λpb pc cz W a b c d e=>?_);obtain⟨sb,so,c1,A2,c2,A3,c3,A4,c4,A5,c5,rfl,tV,-,-,e2⟩:=jX b;exact VQ ⟨4,[],its,ns,cls,[],0,0⟩ ⟨4,[],[x],[],[],[],0,0⟩ pb 0 pc sb so c1 _ _ _ _ _ _ _ _ _ _ _ _ _ _ cv cz W a c Ng hxk
  ·intro cv cs cx W gF mP fE;have iU:=λbx hb HS=>Af its ns cls x zeroV E_ nm 40 dP cv cs cx W gF mP fE L.v (eC L.v) hx (eC hx) L.l hx0 (L.res hn UG cs) bx hb hX1 UM dP HS;cases hb:isVec ⟨4,[],[x],[],[],[],0,0⟩ with
   |true=>
    exact iU true hb λ_ cz W a b c=>NY its ns cls x nm cv cs cz W a b c abr L.v (eC L.v) hb (eC hb) L.n L.l (by have:=L.c.1;omega) (L.res hn UG cs) L.coer
     (λcs W r=>Cw [x] [] [] [] cs W r dR dR (λz hz=>by obtain rfl:z=x:=ms;exact⟨UM,by omega⟩) hb (eC hb) hb (eC hb))
   |false=>exact iU false hb (λh=>by cases h)
theorem Jq {its:List Vec} {ns cls:List Str} {x:Vec} {nm:Str} (L:LV its ns cls) (hx:isVec x=true) (hx0:x.kind=0) (hn:1<=nm.length/\nm.length<=60):
 ∃rI rS:Vec,ElI ⟨4,[],its,ns,cls,[],0,0⟩ x nm rI []/\ElS ⟨4,[],its,ns,cls,[],0,0⟩ x nm rS []:=by
 obtain⟨q,Px,UG,-,-⟩:=E7 (nm:=nm) L.l L.n;have hl:=L.l;have hF:=(jf hx).len;refine⟨PN ⟨4,[],its,ns,cls,[],0,0⟩ q,Xk its ns cls q,?_,?_⟩
 ·intro cv cs cx W gF mP fE;exact Di _ x _ nm _ dP cv cs cx W gF mP fE rfl hx0 (λW a b c=>L.asg hx hn UG cv cs cx W a b c) (λpb pc W a d e=>SK ⟨4,[],its,ns,cls,[],0,0⟩ q pb pc dP cv W a d e (by unfold lenV;rw[aH qn];simp) L.l dR L.n (by have:=L.c.1;show cls.length<=40;omega) (λz hz=>by have:=(L.p z hz).2;omega))
 ·intro cv cs cx W gF mP fE;exact LG its ns cls x _ [] nm q dP cv cs cx W gF mP fE L.v (eC L.v) hx (eC hx) L.l hx0 (L.res hn UG cs)
   (λW a b c=>N5 its ns cls x _ nm q dP cv cs cx W a b c L.v (eC L.v) hx (eC hx) L.l hx0 hF (L.res hn UG cs) (λpb pc W a d e=>PH its ns cls q pb pc dP cv W a d e L.l L.n (by have:=L.c.1;omega) (λz hz=>⟨(L.p z hz).1,by have:=(L.p z hz).2;omega⟩)))
theorem Pi {v x:Vec} {nm:Str} (hv:isVec v=true) (hx:isVec x=true) (hn:1<=nm.length/\nm.length<=60):
 ∃(rI rS:Vec) (rs:Str),FiI v x nm rI rs/\FiS v x nm rS rs/\(rs=[]->v.kind=4->¬x.kind=0->∃q:Nat,q<40/\pu v.names v.parts.length nm=((q+1:Nat):Int)/\rS=gZ (mV v.parts (gA v.names v.parts.length) v.cls [] q nm x)/\isVec rS=true):=by
 have hb:=eC hv;have qo:=eC hx;by_cases h4:v.kind=4
 ·obtain⟨OC,-⟩:=rm hv h4;have L:LV v.parts v.names v.cls:=LV.of (by rw[<-OC];exact hv);by_cases hx0:x.kind=0
  ·obtain⟨rI,rS,a,b⟩:=Jq L hx hx0 hn;rw[<-OC]at a b;exact⟨rI,rS,[],λcv cx W r1 r2=>ze v x rI [] nm cv cx W r1 r2 hv hx hb qo hn.1 hn.2 h4 a,λcv cx W r1 r2=>EY v x rS [] nm cv cx W r1 r2 hv hx hb qo hn.1 hn.2 h4 b,λ_ _ h=>absurd hx0 h⟩
  ·obtain⟨rv,rs,a,b,c⟩:=Jp L hx hx0 hn;rw[<-OC]at a b;exact⟨rv,rv,rs,λcv cx W r1 r2=>ze v x rv rs nm cv cx W r1 r2 hv hx hb qo hn.1 hn.2 h4 a,λcv cx W r1 r2=>EY v x rv rs nm cv cx W r1 r2 hv hx hb qo hn.1 hn.2 h4 b,λe _ _=>c e⟩
 ·by_cases h0:v.kind=0
  ·have L:LV [] [] []:=LV.of (vy (tY (d:=2) dR (rr 3) dR dR) (by rw[jU];simp [ik,lenV]));by_cases hx0:x.kind=0
   ·obtain⟨rI,rS,a,b⟩:=Jq L hx hx0 hn;exact⟨rI,rS,[],λcv cx W r1 r2=>zh v x rI [] nm cv cx W r1 r2 hv hx hb qo hn.1 hn.2 h0 a,λcv cx W r1 r2=>EZ v x rS [] nm cv cx W r1 r2 hv hx hb qo hn.1 hn.2 h0 b,λ_ h=>absurd h h4⟩
   ·obtain⟨rv,rs,a,b,c⟩:=Jp L hx hx0 hn;exact⟨rv,rv,rs,λcv cx W r1 r2=>zh v x rv rs nm cv cx W r1 r2 hv hx hb qo hn.1 hn.2 h0 a,λcv cx W r1 r2=>EZ v x rv rs nm cv cx W r1 r2 hv hx hb qo hn.1 hn.2 h0 b,λ_ h=>absurd h h4⟩
  ·exact⟨zeroV,zeroV,_,λcv cx W r1 r2=>KE v x nm cv cx W r1 r2 hv hx hb qo h4 h0,λcv cx W r1 r2=>P9 v x nm cv cx W r1 r2 hv hx hb qo h4 h0,λe=>by cases e⟩
open Go.ChangeShapes Go.WideShapes Go.Deep Go.RowKit
theorem aeN:ownKnob prog.godebug=none:=dU
theorem Q1:laidOutB prog=true:=dU
section
variable {H:Type} {enc:TypeId × Value->H} {P:Program} {w:World} {base:Nat} {V0:Nat->Bool} {abd:Bool}
theorem O1 {w:World} {a:Addr} {u:Value} (h:w.cell? (a.add 0)=some u):∃b off,a=⟨b,off,none⟩/\b<w.heap.size:=by
 have h0:w.cell? a=some u:=by simpa [Addr.add]using h
 obtain⟨b,off,spot⟩:=a;have:=World.cell?_spot h0;simp at this;subst this;exact⟨b,off,rfl,World.block_lt_of_cell? w _ h0⟩
theorem Ja (b off n:Nat):(⟨b,off,none⟩:Addr).add n=⟨b,off+n,none⟩:=by unfold Addr.add;by_cases h:n=0<;>simp [h]
end
open Go.ChangeShapes Go.WideShapes Go.Deep Go.RowKit
theorem acy {z:Int} (h:(Lit.int .u8 z).wf=true):z=((UInt8.ofNat z.toNat).toNat:Int):=by
 have hx:0<=z/\z<=255:=by simpa [Lit.wf,IntKind.min,IntKind.max,IntKind.signed,IntKind.bits]using h
 rw[UInt8.toNat_ofNat_of_lt' (by show z.toNat<256;omega)];omega
theorem abB {H:Type} {enc:TypeId × Value->H} {P:Program} {w:World} {base:Nat} {V0:Nat->Bool} {abd:Bool} {t e:TypeId} {A:Option Addr} {len cap:Nat} {d:DataW H} {p:List MemPlace} (ht:P.underlying t=some (.slice e)) (he:P.underlying e=some (.int .u8)) (hC:P.cellsOf e=1)
 (h:DataW.Trod enc P w base V0 abd t (.slice A len cap) d p):∃l:List UInt8,Reads zq 1 w w.heap.size A len l/\len<=maxLen:=by
 obtain⟨mS,hf⟩:=h;rcases open_ints ht he hC hf with ⟨lK,_⟩|⟨a,Ef,aaJ,zs,lK,_,hl,hm,hz,_,zd,hwz⟩
 ·simp [Value.cells]at lK;obtain⟨rfl,rfl,rfl⟩:=lK;exact⟨[],Reads.nil_,by unfold maxLen;omega⟩
 ·simp [Value.cells]at lK;obtain⟨rfl,rfl,rfl⟩:=lK;have hlz:len<=zs.length:=by rw[hz];split<;>omega
  refine⟨(zs.take len).map λz=>UInt8.ofNat z.toNat,⟨by simp;omega,λhn=>?_⟩,by omega⟩;obtain⟨b,off,rfl,hb⟩:=O1 (zd 0 dP);refine⟨b,off,rfl,hb,λk x j u hx hu=>?_⟩;have hk:k<len:=by have:=(ay.1 hx).1;simp at this;omega
  match j,hu with
  |j+1,hu=>simp [zq]at hu
  |0,hu=>
   simp [zq]at hu;subst hu;have hc:=zd k dP;rw[Ja]at hc;rw[cu,cF,hc];have hzk:zs[k]?=some zs[k]:=aw dP;rw[cg,List.getElem?_take,aN hk,hzk]at hx;simp at hx;subst hx;rw[List.getD_eq_getElem?_getD,hzk];simp only[bV];have:=acy (hwz _ (aA hzk));rw[<-this]
end Go.Proofs.YtekcpadlmfaihaaGreat
