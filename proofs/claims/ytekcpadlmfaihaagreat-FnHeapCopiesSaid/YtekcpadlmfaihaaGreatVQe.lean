/- Drawn operations on a heap: words. -/
import Derived.Test.YtekcpadlmfaihaaGreatVLg
import Derived.Test.YtekcpadlmfaihaaGreatVNf
import Derived.Test.YtekcpadlmfaihaaGreatVHyf
import Derived.Test.YtekcpadlmfaihaaGreatVHf
import Derived.Test.YtekcpadlmfaihaaGreatVLd
import Derived.Test.YtekcpadlmfaihaaGreatVHye
import Derived.Test.YtekcpadlmfaihaaGreatVLn
import Derived.Test.YtekcpadlmfaihaaGreatVLi
import Derived.Test.YtekcpadlmfaihaaGreatVNd
import Derived.Test.YtekcpadlmfaihaaGreatVNg
import Derived.Test.YtekcpadlmfaihaaGreatVHh
import Derived.Test.YtekcpadlmfaihaaGreatVVi
import Derived.Test.YtekcpadlmfaihaaGreatVNu
namespace Go.Proofs.YtekcpadlmfaihaaGreat
open Go.RowKit Proofs.Tryz
set_option maxHeartbeats 8000000
set_option maxRecDepth 100000
set_option linter.unusedSimpArgs false
set_option linter.unusedVariables false
variable {x:Hop} {cc ci cl cn cp nc ni nl nn np:Nat} {Ac Ai Al An Ap:Option Addr}
theorem acY:ElemTy prog 31 40 12 192:=by obtain⟨i0,hi,rJ,tW,hz2⟩:=cZ aaY;exact⟨i0,_,underlying31,hi,rJ,tW,hz2,rfl,by omega⟩
def DO (K:Nat) (A:Option Addr) (n c:Nat) (w:World) (g:Nat) (e:Ending) (w':World):Prop:=∃(x:Hop) (cs:List Value) (F:List Nat),szD x.toD<=K/\e= .returned (.agg cs.toArray)/\own prog w' x.toD 40 F cs/\Fresh w.heap.size F/\DrA A n c w g w'
def acj (k K:Nat) (l:List Hop):Prop:=l.length<=k/\gv (l.map Hop.toD)<=K
def DL (k K:Nat) (A:Option Addr) (n c:Nat) (w:World) (g:Nat) (e:Ending) (w':World):Prop:=∃(l:List Hop) (B:Option Addr) (m:Nat) (F:List Nat),acj k K l/\e= .returned (.slice B l.length m)/\own prog w' (.sl (l.map Hop.toD)) 31 F [.slice B l.length m]/\Fresh w.heap.size F/\DrA A n c w g w'
noncomputable section
def Gh.O (x:Gh):Hop:=@Classical.epsilon Hop ⟨⟨0,[],[],0,zeroV⟩⟩ λv=>v.toD=x.d
def Gh.P (x:Gh):List Hop:=@Classical.epsilon (List Hop) ⟨[]⟩ λv=>D.sl (v.map Hop.toD)=x.d
end
section
variable {w0 w w':World} {X:List Nat} {A:Option Addr} {n c g:Nat} {V0 V1:Value} {R:List As} {f:Nat} {args:Array Value} {Ψ:Ending->World->Prop} {d:D} {t:TypeId} {F:List Nat} {cs:List Value} {k K:Nat}
theorem Mem.outD (hC:Fe w [g] A n g) (M:Mem prog w [g] w' (.bk g 122 [.slice A n c,V0,V1]:: .fa (ti n V0 V1):: .ow d t cs::R)):∃F,own prog w' d t F cs/\Fresh w.heap.size F/\DrA A n c w g w':=by
 have hd:=Mem.outCur hC M;obtain⟨hm,FF,s1,n1,hx⟩:=M;obtain⟨F1,F2,rfl,⟨rfl,_⟩,s2⟩:=fJ.1 s1;obtain⟨F3,F4,rfl,⟨rfl,_⟩,s3⟩:=fJ.1 s2;obtain⟨F5,F6,rfl,o,s4⟩:=fJ.1 s3;refine⟨F5,o,⟨(aE.1 (aE.1 (aE.1 n1).2.1).2.1).1,λy hy=>?_⟩,hd⟩;rcases hx y eK with h1|h1
 ·exact zu
 ·exact h1
theorem Mem.outHop (hC:Fe w [g] A n g) (M:Mem prog w [g] w' (.bk g 122 [.slice A n c,V0,V1]:: .fa (ti n V0 V1):: .ow x.toD 40 cs::R)) (hK:szD x.toD<=K):DO K A n c w g (.returned (.agg cs.toArray)) w':=by obtain⟨F,o,h,hd⟩:=M.outD hC;exact⟨x,cs,F,hK,rfl,o,h,hd⟩
theorem Mem.outOps {l:List Hop} {B:Option Addr} {m:Nat} (hC:Fe w [g] A n g) (M:Mem prog w [g] w' (.bk g 122 [.slice A n c,V0,V1]:: .fa (ti n V0 V1):: .ow (.sl (l.map Hop.toD)) 31 [.slice B l.length m]::R)) (hK:acj k K l):DL k K A n c w g (.returned (.slice B l.length m)) w':=by obtain⟨F,o,h,hd⟩:=M.outD hC;exact⟨l,B,m,F,hK,rfl,o,h,hd⟩
theorem Mem.openHop {k0 k1 k2 k3 v0 v6 v7:Value} (M:Mem prog w0 X w (.ow x.toD 40 [k0,k1,k2,k3,v0,.slice Ai ni ci,.slice Ap np cp,.slice An nn cn,.slice Ac nc cc,.slice Al nl cl,v6,v7]::R)):
 (Lit.int .i64 x.kind).wf=true/\x.name.length<=maxLen/\x.frm.length<=maxLen/\(Lit.int .i64 x.at_).wf=true/\(Lit.int .i64 x.value.kind).wf=true/\(Lit.int .i64 x.value.code).wf=true/\(Lit.int .i64 x.value.env).wf=true/\Mem prog w0 X w (.ow x.value.toD 38 [v0,.slice Ai ni ci,.slice Ap np cp,.slice An nn cn,.slice Ac nc cc,.slice Al nl cl,v6,v7]::R):=by
 obtain⟨_,_,_,_,_,_,_,_,_,_,_,_,_,_,_,he,a1,a2,a3,a4,rv⟩:=lQ (M.rp 0 rfl);obtain⟨_,_,_,_,_,_,_,_,_,_,-,wk,-,-,-,-,-,wc,we⟩:=d_ rv;refine⟨a1,a2,a3,a4,wk,wc,we,Mem.as (C:=[_]) (C':=[_]) M λF hF _=>?_⟩;have o:own prog w x.toD 40 F _:=iQ.1 hF;refine iQ.2 ?_;show own prog w x.value.toD 38 F _;rw[qQ,own]at o;obtain⟨KW,css,h1,lK,h⟩:=o;rw[underlying40]at h1;injection h1 with h1;injection h1 with h1;subst h1;replace h:iB prog w [.i .i64 x.kind,.s x.name,.s x.frm,.i .i64 x.at_,x.value.toD] [3,9,9,3,38] F css:=h;rw[iB]at h;obtain⟨t0,u0,G0,H0,d0,e0,ht,rfl,rfl,k0,h⟩:=h;injection ht with rL rM;subst rL rM;rw[own]at k0;obtain⟨rfl,rfl,_⟩:=k0;rw[iB]at h;obtain⟨t1,u1,G1,H1,d1,e1,ht,rfl,rfl,k1,h⟩:=h;injection ht with rL rM;subst rL rM;rw[own]at k1;obtain⟨rfl,rfl,_⟩:=k1;rw[iB]at h;obtain⟨t2,u2,G2,H2,d2,e2,ht,rfl,rfl,k2,h⟩:=h;injection ht with rL rM;subst rL rM;rw[own]at k2;obtain⟨rfl,rfl,_⟩:=k2;rw[iB]at h;obtain⟨t3,u3,G3,H3,d3,e3,ht,rfl,rfl,k3,h⟩:=h;injection ht with rL rM;subst rL rM;rw[own]at k3;obtain⟨rfl,rfl,_⟩:=k3;rw[iB]at h;obtain⟨t4,u4,G4,H4,d4,e4,ht,rfl,rfl,k4,h⟩:=h;injection ht with rL rM;subst rL rM;rw[iB]at h;obtain⟨-,rfl,rfl⟩:=h;simp only[List.flatten_cons,List.flatten_nil,List.singleton_append,bP,bF]at lK;obtain⟨-,-,-,-,he⟩:=lK;rw[he];simpa using k4
theorem Mem.joinHop (M:Mem prog w0 X w (.ow x.value.toD 38 [x.value.kind,.slice Ai ni ci,.slice Ap np cp,.slice An nn cn,.slice Ac nc cc,.slice Al nl cl,x.value.code,x.value.env]::R))
 (wk:(Lit.int .i64 x.kind).wf=true) (wn:x.name.length<=maxLen) (wf:x.frm.length<=maxLen) (wa:(Lit.int .i64 x.at_).wf=true):Mem prog w0 X w (.ow x.toD 40 [x.kind,sv x.name,sv x.frm,x.at_,x.value.kind,.slice Ai ni ci,.slice Ap np cp,.slice An nn cn,.slice Ac nc cc,.slice Al nl cl,x.value.code,x.value.env]::R):=
 Mem.as (C:=[_]) (C':=[_]) M λF hF _=>by have o:=OS wk wn wf wa (iQ.1 hF);exact iQ.2 (show own prog w x.toD 40 F _ from by simpa using o)
theorem ac_ (hC:Fe w0 X A n g) (M:Mem prog w0 X w (.bk g 122 [.slice A n c,V0,V1]:: .fa (ti n V0 V1)::R)) (hc:CuA A n c w g->Calls prog f args w (DO K A n c w g))
 (hK:∀(x:Gh) w',Mem prog w0 X w' (.bk g 122 [.slice A n c,x.f 0,x.f 1]:: .fa (ti n (x.f 0) (x.f 1)):: .fa (szD x.O.toD<=K):: .ow x.O.toD 40 [x.O.kind,sv x.O.name,sv x.O.frm,x.O.at_,x.O.value.kind,.slice (x.A 1) x.O.value.items.length (x.C 1),.slice (x.A 2) x.O.value.parts.length (x.C 2),.slice (x.A 3) x.O.value.names.length (x.C 3),.slice (x.A 4) x.O.value.cls.length (x.C 4),.slice (x.A 5) x.O.value.levels.length (x.C 5),x.O.value.code,x.O.value.env]::R)->Ψ (.returned (.agg #[x.O.kind,sv x.O.name,sv x.O.frm,x.O.at_,x.O.value.kind,.slice (x.A 1) x.O.value.items.length (x.C 1),.slice (x.A 2) x.O.value.parts.length (x.C 2),.slice (x.A 3) x.O.value.names.length (x.C 3),.slice (x.A 4) x.O.value.cls.length (x.C 4),.slice (x.A 5) x.O.value.levels.length (x.C 5),x.O.value.code,x.O.value.env])) w'):Calls prog f args w Ψ:=
 (hc (M.cua hC)).mono λe w' q=>by
  obtain⟨v,cs,F,hs,rfl,ho,hF,hd⟩:=q
  let u:Hop:=@Classical.epsilon Hop ⟨⟨0,[],[],0,zeroV⟩⟩ λz=>z.toD=v.toD
  have hu:u.toD=v.toD:=@Classical.epsilon_spec Hop (λz=>z.toD=v.toD) ⟨v,rfl⟩;rw[<-hu]at ho hs;obtain⟨V2,V3,M'⟩:=M.drOwn hd ho hF;obtain⟨Ai,ci,Ap,cp,An,cn,Ac,cc,Al,cl,rfl,-⟩:=gQ (k:=u.kind) (nm:=u.name) (fr:=u.frm) (a:=u.at_) (v:=u.value) (M'.rp 2 rfl);exact hK ⟨0,none,0,λk=>[V2,V3].getD k undef,λk=>([none,Ai,Ap,An,Ac,Al]:List (Option Addr)).getD k none,λk=>([0,ci,cp,cn,cc,cl]:List Nat).getD k 0,v.toD⟩ w' ((M'.fact (p:=szD u.toD<=K) hs).perm (List.Perm.trans (List.Perm.swap _ _ _) (List.Perm.cons _ (List.Perm.swap _ _ _))))
theorem Gi (l:List Hop):D.sl ((@Classical.epsilon (List Hop) ⟨[]⟩ λv=>D.sl (v.map Hop.toD)=D.sl (l.map Hop.toD)).map Hop.toD)=D.sl (l.map Hop.toD):=@Classical.epsilon_spec (List Hop) (λv=>D.sl (v.map Hop.toD)=D.sl (l.map Hop.toD)) ⟨l,rfl⟩
theorem agj (hC:Fe w0 X A n g) (M:Mem prog w0 X w (.bk g 122 [.slice A n c,V0,V1]:: .fa (ti n V0 V1)::R)) (hc:CuA A n c w g->Calls prog f args w (DL k K A n c w g))
 (hK:∀(x:Gh) w',Mem prog w0 X w' (.bk g 122 [.slice A n c,x.f 0,x.f 1]:: .fa (ti n (x.f 0) (x.f 1)):: .fa (acj k K x.P):: .ow (.sl (x.P.map Hop.toD)) 31 [.slice x.a x.P.length x.c]::R)->Ψ (.returned (.slice x.a x.P.length x.c)) w'):Calls prog f args w Ψ:=
 (hc (M.cua hC)).mono λe w' q=>by
  obtain⟨v,B,m,F,hs,rfl,ho,hF,hd⟩:=q
  let u:List Hop:=@Classical.epsilon (List Hop) ⟨[]⟩ λz=>D.sl (z.map Hop.toD)=D.sl (v.map Hop.toD)
  have hu:D.sl (u.map Hop.toD)=D.sl (v.map Hop.toD):=Gi v;have hm:u.map Hop.toD=v.map Hop.toD:=by injection hu
  have hl:u.length=v.length:=by have:=cU List.length hm;simpa using this
  have hb:acj k K u:=⟨by rw[hl];exact hs.1,by rw[hm];exact hs.2⟩;rw[<-hu]at ho;rw[<-hl]at ho ⊢;obtain⟨V2,V3,M'⟩:=M.drOwn hd ho hF;exact hK ⟨0,B,m,λk=>[V2,V3].getD k undef,λ_=>none,λ_=>0,.sl (v.map Hop.toD)⟩ w' ((M'.fact (p:=acj k K u) hb).perm (List.Perm.trans (List.Perm.swap _ _ _) (List.Perm.cons _ (List.Perm.swap _ _ _))))
theorem Mem.newBlk {P:Program} (h:Mem P w0 X w R) (hk:Blk w' w.heap.size t cs) (hb:Below w.heap.size w w'):Mem P w0 X w' (.bk w.heap.size t cs::R):=
 Mem.step (C:=[]) (C':=[_]) h λF hF _=>by rw[Sats]at hF;subst hF;exact⟨[w.heap.size],fJ.2 ⟨[w.heap.size],[],rfl,⟨rfl,hk⟩,by rw[Sats]⟩,by simp,λg hg=> .inr (by simp at hg;omega),Mod.of_below hb⟩
theorem agk {B:Nat} {bs:List UInt8} (hr:Reads zq 1 w0 B A n bs) (hB:B<=w0.heap.size) (hX:∀x∈X,B<=x) (hn:n<=1048576) (M:Mem prog w0 X w R)
 (hK:∀(x:Gh) w',Mem prog w0 X w' (.bk x.b 122 [.slice A n c,x.f 0,x.f 1]:: .fa (ti n (x.f 0) (x.f 1)):: .fa (Fe w0 X A n x.b)::R)->Ψ (.returned (.pointer (some ⟨x.b,0,none⟩))) w'):Calls prog 32 #[.slice A n c] w Ψ:=
 (acL A n c bs w ((hr.below (M.mod.below hX hB)).more (du hB M.mod.size)) hn).mono λe w' q=>by obtain⟨rfl,⟨bs',i,h,B',hk,-,-,h5,h6,-⟩,hb⟩:=q;have hs:=M.mod.size;have M':=(M.newBlk hk hb);have M2:=(((M'.fact (p:=Fe w0 X A n w.heap.size) ⟨bs,B,hr,by omega,hB,hX,by omega⟩).fact (p:=ti n (.int .i64 i) (.int .i64 h)) ⟨i,h,rfl,rfl,h5,h6⟩).up [2]);exact hK ⟨w.heap.size,none,0,λk=>([i,h]:List Value).getD k undef,λ_=>none,λ_=>0,.b false⟩ w' M2
end
theorem abI {A:Option Addr} {n c:Nat} (g:Nat) (w:World) (hc:CuA A n c w g):Calls prog 94 #[.pointer (some ⟨g,0,none⟩)] w λe w'=>DO 1500 A n c w g e w':=by
 obtain⟨V0,V1,yi,M0⟩:=Mem.inCur hc;have hC:=aa yi;clear yi hc;have M:=M0.up [];go_enter func94,ntmps94;refine Sq (Sa M (λJ1 wv M=>Sz (Sq ?_)));refine Sb M [] 1 ?_;refine Sa M (λJ2 wv M=>?_);replace M:=M.up [3,3];refine Sc (Hn (l:=[0,0,1,1,2,2,3,3]) hC.out M rfl rfl dQ dQ λJ3 wv M=>Sp ?_);refine Sb M [] 1 ?_;refine Sa M (λJ4 wv M=>?_);replace M:=M.up [2,2];refine Sc (abP (l:=[[120],[121],[122]]) hC.out M rfl rfl dQ dQ λJ5 wv M=>Sp ?_);refine Sb M [] 1 ?_;refine Sa M (λJ6 wv M=>?_);refine Ss M 0 (λwv M=>Sz (ae ?_));refine Ra M [0] (aJ ?_);refine Ra M [] ?_;refine lW (λh17=>?_) (λh17=>?_)
 ·rw[h17];replace h17:=aa h17;refine Sq (Sb M [] 2 ?_);replace M:=M.up [2,2];refine Sc (v5 hC.out M (λhc=>ne g 3 _ hc dP dP) λJ7 wv agL M=>Sp ?_);refine Sb M [] 2 ?_;refine Sc (v5 hC.out M (λhc=>ne g 3 _ hc dP dP) λJ8 wv hcJ8 M=>Sp ?_);refine Sb M [] 1 ?_;refine Sc (Hs hC.out M (λhc=>x7 g (((1:Int)+((J7.c:Nat):Int))) ((1+J8.c)) dP (kP.2 fP) _ hc) λJ9 wv M=>Sp ?_);refine Sb M [] 1 ?_;refine Ss M 4 (λwv M=>Sz (Sq ?_));refine Sb M [] 1 ?_;refine Sc (acl hC.out M (λhc=>x6 g 2 _ hc dP dP) λmO wv M=>Sp (Sz ?_));refine lW (λh29=>?_) (λh29=>?_)
  ·rw[h29];replace h29:=aa h29;replace M:=M.sel [0,1,2,4,5,6,7] dQ;simp only[lH,bH,bY,ah,ag]at M;refine Sg (Sb M [] 1 ?_);refine Sc (Hs hC.out M (λhc=>x7 g (2) (1) dP (kP.2 fP) _ hc) λL5 wv M=>Sp ?_);refine Sa M (λZd wv M=>?_);refine Sb M [] 1 ?_;refine Sa M (λTS wv M=>?_);replace M:=M.up [3,3];refine Sc (abP (l:=[[120],[97],[122]]) hC.out M rfl rfl dQ dQ λI_ wv M=>Sp ?_);refine Sa M (λOY wv M=>?_);refine Sb M [] 2 ?_;refine Ss M 8 (λwv M=>Sy (fA (dV (Sq ?_))));refine Sb M [8] 1 ?_;refine Ss M 11 (λwv M=>Sz (aO ?_));refine kN results94 M 11 ?_;have ag2:=M.pr 3 rfl;have alJ:I_.S.length<=1:=by simp only[aX,df,ce]at ag2;rcases ag2 with h|h|h<;>rw[h]<;>decide
   have Nc:=M.pr 9 rfl;have acq:J5.S.length<=1:=v4;have abs:=M.pr 10 rfl;simp only[aX,df,ce]at abs;have hz3:=M.pr 5 rfl;have hz2:=M.pr 7 rfl;have MZ:=M.sel [0,4,6,1,2] dQ;simp only[lH,bH,bY,ah,ag]at MZ;have MZ:=Mem.litS (l:=[(I_.S)]) (m:=1) (nn:=1) (t:=25) MZ rfl rfl underlying25 dU yc (by unfold maxLen;simp only[bU,bf];omega) (by intro s hs;rw[ed.1 hs];unfold maxLen;omega);replace MZ:=MZ.up [2,2];have MZ:=Mem.lit1 (t:=36) MZ underlying36 dU;have MZ:=((MZ.nil (t:=25) underlying25).nil (t:=25) underlying25).nil (t:=35) underlying35;replace MZ:=MZ.up [2,2,4,4,4];have MZ:=Mem.joinVec (v:=⟨4,[],[(L5.V)],List.take 1 [(I_.S)],[],[],0,0⟩) MZ LZ le le;have MZ:=Mem.joinHop (x:=⟨(J3.Z),(J5.S),[],0,⟨4,[],[(L5.V)],List.take 1 [(I_.S)],[],[],0,0⟩⟩) MZ (kP.2 tc) u9 (dj _) (kP.2 tc);exact Mem.outHop hC.out (MZ.up [2,2]) (by rw[wG,go];simp only[List.take,br,bL,szD,gv,bU,bf];omega)
  ·rw[h29];replace h29:=aa h29;refine bd (fA (dV (Sq (Sb M [4] 1 ?_))));refine Ss M 7 (λwv M=>Sz (aO ?_));refine kN results94 M 7 ?_;have Nc:=M.pr 5 rfl;have acq:J5.S.length<=1:=v4;have abs:=M.pr 6 rfl;simp only[aX,df,ce]at abs;have hz2:=M.pr 2 rfl;have MZ:=M.sel [3,0,1] dQ;simp only[lH,bH,bY,ah,ag]at MZ;have MZ:=Mem.joinHop (x:=⟨(J3.Z),(J5.S),[],0,(J9.V)⟩) MZ (kP.2 tc) u9 (dj _) (kP.2 tc);exact Mem.outHop hC.out (MZ.up [2,2]) (by rw[wG];simp only[bf];omega)
 ·rw[h17];replace h17:=aa h17;refine Ra M [] ?_;refine lW (λh39=>?_) (λh39=>?_)
  ·rw[h39];replace h39:=aa h39;refine Sq (Sb M [] 1 ?_);replace M:=M.up [2,2];refine Sc (v5 hC.out M (λhc=>ne g 4 _ hc dP dP) λQx wv alo M=>Sp ?_);refine Sb M [] 2 ?_;refine Ss M 2 (λwv M=>Sz (Sg ?_));refine Sb M [] 2 ?_;refine Sc (v5 hC.out M (λhc=>ne g 3 _ hc dP dP) λW7 wv alp M=>Sp ?_);refine Sb M [] 1 ?_;refine Sc (Hs hC.out M (λhc=>x7 g (((1:Int)+((W7.c:Nat):Int))) (1) dP (kP.2 fP) _ hc) λJ18 wv M=>Sp ?_);refine Sb M [] 1 ?_;refine Ss M 4 (λwv M=>Sy (fA (dV (Sq ?_))));refine Sb M [4] 1 ?_;refine Ss M 7 (λwv M=>Sz (aO ?_));refine kN results94 M 7 ?_;have Nc:=M.pr 5 rfl;have acq:J5.S.length<=1:=v4;have abs:=M.pr 6 rfl;simp only[aX,df,ce]at abs;have hz5:=M.pr 2 rfl;have MZ:=M.sel [3,0,1] dQ;simp only[lH,bH,bY,ah,ag]at MZ;have MZ:=Mem.joinHop (x:=⟨(J3.Z),(J5.S),[],((1:Int)+((Qx.c:Nat):Int)),(J18.V)⟩) MZ (kP.2 tc) u9 (dj _) (kP.2 tc);exact Mem.outHop hC.out (MZ.up [2,2]) (by rw[wG];simp only[bf];omega)
  ·rw[h39];replace h39:=aa h39;refine Sg (Sb M [] 1 ?_);refine Sa M (λJ19 wv M=>?_);replace M:=M.up [3,3];refine Sc (abP (l:=[[120],[121],[122]]) hC.out M rfl rfl dQ dQ λJ20 wv M=>Sp ?_);refine Sb M [] 1 ?_;refine Ss M 3 (λwv M=>Sy (fA (dV (Sq ?_))));refine Sb M [3] 1 ?_;refine Ss M 6 (λwv M=>Sz (aO ?_));refine kN results94 M 6 ?_;have ag3:=M.pr 2 rfl;have alK:J20.S.length<=1:=by simp only[aX,df,ce]at ag3;rcases ag3 with h|h|h<;>rw[h]<;>decide
   have Nc:=M.pr 4 rfl;have acq:J5.S.length<=1:=v4;have abs:=M.pr 5 rfl;simp only[aX,df,ce]at abs;have MZ:=M.sel [0,1] dQ;simp only[lH,bH,bY,ah,ag]at MZ;have MZ:=((((MZ.nil (t:=25) underlying25).nil (t:=25) underlying25).nil (t:=25) underlying25).nil (t:=36) underlying36).nil (t:=35) underlying35;have MZ:=Mem.joinVec (v:=⟨0,[],[],[],[],[],0,0⟩) MZ le le le;have MZ:=Mem.joinHop (x:=⟨(J3.Z),(J5.S),(J20.S),0,⟨0,[],[],[],[],[],0,0⟩⟩) MZ (kP.2 tc) u9 u9 (kP.2 tc);exact Mem.outHop hC.out (MZ.up [2,2]) (by rw[wG,go];simp only[szD,gv,bL,bf];omega)
theorem aba {A:Option Addr} {n c:Nat} (g:Nat) (m:Nat) (hm:0<m) (DK:m<=14) (w:World) (hc:CuA A n c w g):Calls prog 34 #[.pointer (some ⟨g,0,none⟩),.int .i64 (m:Nat)] w λe w'=>DL m (1500*m) A n c w g e w':=by
 obtain⟨V0,V1,yi,M0⟩:=Mem.inCur hc;have hC:=aa yi;clear yi hc;have M:=M0.up [];go_enter func34,ntmps34;refine Ra M [] (Sq ?_);refine Se M underlying31 (λJ1 wv M=>?_);refine Sb M [] 1 (Sz (ae (Sq ?_)));refine Sb M [] 2 ?_;replace M:=M.up [2,2];refine Sc (v5 hC.out M (λhc=>ne g ((m:Nat)) _ hc dP dP) λJ2 wv ajy M=>Sp ?_);refine Sb M [] 2 (Sz (aJ ?_));refine fy (ι:=Nat × List Hop × Nat × Value × Value × Option Addr × Nat) [12,13,14,15,16,17,18,19,20] (λfu=>match fu with|(k,l,q,W0,W1,B,d)=>[(5,.slice B q d),(6,.int .i64 (k:Nat))]) (λfu=>match fu with|(k,l,q,W0,W1,B,d)=>k+q<=m/\l.length=q/\gv (l.map Hop.toD)<=1500*q) (λfu=>match fu with|(k,l,q,W0,W1,B,d)=>[.bk g 122 [.slice A n c,W0,W1],.fa (ti n W0 W1),.ow (.sl (l.map Hop.toD)) 31 [.slice B q d]]) (λfu=>match fu with|(k,l,q,W0,W1,B,d)=>k) (1+J2.c,[],0,((J2.f 0)),((J2.f 1)),(some ⟨J1.b,0,none⟩),0) (⟨by omega,rfl,by simp [gv]⟩) (M) ?_;rintro⟨k,l,q,W0,W1,B,d⟩ Mf W1 K1 h1 M rH;try dsimp only at h1 M ⊢
 refine uM ?_;obtain⟨hk,agZ,hl⟩:=h1;have hlq:=aa agZ;clear agZ;refine ae (Ra M [] ?_);refine lW (λhlt=>?_) (λhlt=>?_)
 ·rw[hlt];replace hlt:=aa hlt;have hlj:0<k:=v2;refine bd (dV (ae (aJ (Sg (Sb M [] 2 ?_)))));refine Sc (ac_ hC.out M (λhc=>abI g _ hc) λJ3 wv M=>Sp ?_);refine Sa M (λJ4 wv M=>?_);replace M:=M.up [4,5];replace M:=M.up [2,2,2];refine nQ M acY (λJ5 wv M=>Sw ?_);refine Sb M [] 1 (Sy (fA (dV (Sg ?_))));refine Sb M [] 1 ?_;refine So (.int .i64 (k - 1:Nat)) (λK Z hK=>by have ek:((k:Nat):Int) - 1=((k - 1:Nat):Int):=dP;have L_:(k:Int)<=14:=dP;go_simp;first|exact hK|(rw[FM];exact hK;omega)) ?_
  refine Sb M [] 1 (Sy (dV ?_));have hzo:=M.pr 4 rfl;have hlk:(l++[(J3.O)]).length=l.length+1:=dR;exact rH (k - 1,l++[(J3.O)],q+1,((J3.f 0)),((J3.f 1)),(some ⟨J5.b,0,none⟩),J5.c) _ _ dU (⟨by omega,by rw[hlk,hlq.out],by rw[aI,Aj];simp only[br,bL,gv];omega⟩) (by(try dsimp only);omega) (by(try dsimp only);rw[aI];exact M.sel [2,3,0] dQ)
 ·rw[hlt];replace hlt:=aa hlt;refine bo (es (es (fT (dV (Ra M [] (aO ?_))))));refine vQ results34 ?_;have E3:=hlq.out;subst E3;exact Mem.outOps hC.out (M.sel [0,1,2] dQ) ⟨by omega,du hl (Nat.mul_le_mul_left _ dP)⟩
theorem acu {A:Option Addr} {n c:Nat} (g:Nat) (w:World) (hc:CuA A n c w g):Calls prog 150 #[.pointer (some ⟨g,0,none⟩),.int .i64 2] w (DV 171000 A n c w g):=
 zo (K0:=24000) (K1:=171000) g 2 dP dP dP (λg w _ hc=>zo (K0:=3000) (K1:=24000) g 1 dP dP dP (λg w _ hc=>zo (K0:=0) (K1:=3000) g 0 dP dP dP (λg w h _=>absurd h dP) w hc) w hc) w hc
theorem acN {A:Option Addr} {n c:Nat} (g:Nat) (w:World) (hc:CuA A n c w g):Calls prog 97 #[.pointer (some ⟨g,0,none⟩)] w λe w'=>DV 172000 A n c w g e w':=by
 obtain⟨V0,V1,yi,M0⟩:=Mem.inCur hc;have hC:=aa yi;clear yi hc;have M:=M0.up [];go_enter func97,ntmps97;refine Sq (Sa M (λJ1 wv M=>Sz (Sq ?_)));refine Sb M [] 1 ?_;replace M:=M.up [2,2];refine Sc (Hs hC.out M (λhc=>acu g _ hc) λJ2 wv M=>Sp ?_);refine Sa M (λJ3 wv M=>?_);refine Ss M 0 (λwv M=>Sz ?_);have kD:=M.pr 3 rfl;rw[go]at kD;have hlz:=kD;simp only[szD,au]at hlz;obtain⟨_,_,_,_,_,_,_,_,_,_,-,wk,-,-,-,-,-,wc,we⟩:=d_ (M.rp 4 rfl);refine ae (Sq (Sb M [] 1 ?_));replace M:=M.up [2,2];refine Sc (v5 hC.out M (λhc=>ne g 30 _ hc dP dP) λJ4 wv acG M=>Sp (Sz (aJ ?_)));refine Ra M [] ?_;refine lW (λh8=>?_) (λh8=>?_)
 ·rw[h8];replace h8:=aa h8;refine Sg (Sb M [] 1 ?_);refine Sa M (λJ5 wv M=>?_);replace M:=M.up [2,2];refine Sc (Hn (l:=[(-1),6,0,3,1,(-9223372036854775808)]) hC.out M rfl rfl dQ dQ λJ6 wv M=>Sp ?_);refine Sb M [] 1 ?_;refine Ss M 3 (λwv M=>Sy (fA (dV (Sq ?_))));refine Sb M [3] 1 ?_;refine Ss M 6 (λwv M=>Sz (aO ?_));refine kN results97 M 6 ?_;have Nc:=M.pr 2 rfl;simp only[aX,df,ce]at Nc;have MZ:=M.sel [5,0,1] dQ;simp only[lH,bH,bY,ah,ag]at MZ;replace MZ:=Mem.openVecL MZ;have MZ:=Mem.joinVec (v:=⟨(J6.Z),(J2.V).items,(J2.V).parts,(J2.V).names,(J2.V).cls,(J2.V).levels,(J2.V).code,(J2.V).env⟩) MZ (kP.2 tc) wc we;exact Mem.outVec hC.out (MZ.up [2,2]) tp
 ·rw[h8];replace h8:=aa h8;refine Ra M [] ?_;refine lW (λh14=>?_) (λh14=>?_)
  ·rw[h14];replace h14:=aa h14;replace M:=M.up [4];replace M:=Mem.openVecL M;replace M:=M.up [];refine Sg (Sb M [7] 2 ?_);refine Sa M (λJ7 wv M=>?_);replace M:=M.up [3];have M:=M.str (t:=9) (s:=[122]) dQ;replace M:=M.up [2,1,2];refine nQ M jm (λJ8 wv M=>Sw ?_);refine Sb M [] 1 ?_;refine Ss M 8 (λwv M=>Sy (fA (dV (Sq ?_))));refine Sb M [8] 1 ?_;refine Ss M 10 (λwv M=>Sz (aO ?_));refine kN results97 M 10 ?_;have MZ:=M.sel [2,3,0,4,5,6,7] dQ;simp only[lH,bH,bY,ah,ag]at MZ;have eap:((J2.V).names++[[122]]).map D.s=(((J2.V).names.map D.s)++[(D.s [122])]):=ab3;rw[<-eap]at MZ;clear eap;have MZ:=Mem.joinVec (v:=⟨(J2.V).kind,(J2.V).items,(J2.V).parts,((J2.V).names++[[122]]),(J2.V).cls,(J2.V).levels,(J2.V).code,(J2.V).env⟩) MZ wk wc we;exact Mem.outVec hC.out (MZ.up [2,2]) tp
  ·rw[h14];replace h14:=aa h14;refine Ra M [] ?_;refine lW (λh21=>?_) (λh21=>?_)
   ·rw[h21];replace h21:=aa h21;replace M:=M.up [4];replace M:=Mem.openVecL M;replace M:=M.up [];refine CJ (M.sel [0,5,6,7,1,2,3,4,8,9] dQ) [some 5,some 3,some 3,some 7] [.o (J3.b) 1,.l 3 1,.v (.c (.pointer (some ⟨g,0,none⟩))),.v (.e 3 (λii=> .agg #[.int .i64 (ii.I).num,.int .i64 (ii.I).den,sv (ii.I).text])),.v (.e 4 (λnP=> .slice (some ⟨nP.b,0,none⟩) 1 1)),.v (vA 5 ((J2.V).items.length+1)),.p 5,.u] [.e 3 none (.e 3 (λii=> .bk g 122 [.slice A n c,((ii.f 0)),((ii.f 1))])),.e 3 none (.e 3 (λii=> .fa (ti n ((ii.f 0)) ((ii.f 1))))),.e 3 none (.e 3 (λii=> .fa (IB (ii.I)))),.b 4 none 135 3,.e 5 none (.e2 3 5 (λii xh=> .ow (.sl (((J2.V).items.map Item.toD)++[(Item.toD (ii.I))])) 35 [.slice (some ⟨xh.b,0,none⟩) ((J2.V).items.length+1) xh.c])),.s 7 none 3 [(1,vA 5 ((J2.V).items.length+1))]] [[],[3],[],[],[],[7,6],[],[]] [] ?_ ?_
    ·show ∀i,i<8->_;refine On (On ?_ eh) (vI [3] [9] 1);refine On ?_ (tn [0] [8] [7,6] (h:=λγ wv R K M hK=>by have Uu:=M.pr 2 rfl;have M:=M.item (x:=(γ 3).I) Uu.1;exact mG (((M.pull 2 rfl).pull 1 rfl).pull 2 rfl) kM dU rfl (.tmp 24) (.tmp 27) rfl rfl rfl rfl eb dP λg c' w' M'=>hK (R3 g c') w' M'))
     refine On ?_ (tn [] [7] [] (h:=λγ wv R K M hK=>by go_simp;exact hK (mA wv.heap.size) _ M.all));refine On ?_ (tn [1,2] [4,5,6] [] (h:=λγ wv R K M hK=>by go_simp;go_at_call 151;exact ada hC.out M (λhc=>acM g _ hc) hK))
     exact On (On (On Oz eh) (e_ [3] 1)) eB
    intro Wf wv M;replace M:Mem _ _ _ _ [.bk _ _ _,.fa _,.fa _,.bk _ _ [_,_,_],.ow _ _ _,.bk _ _ [_,_,_,_,_,_,_,_],_,_,_,_,_,_]:=M;have Uu:=M.pr 2 rfl;refine fA (dV (Sq (Sb M [5] 1 ?_)));refine Ss M 11 (λwv M=>Sz (aO ?_));refine kN results97 M 11 ?_;have MZ:=M.sel [4,6,7,8,9,0,1] dQ;simp only[lH,bH,bY,ah,ag]at MZ;have eap:((J2.V).items++[((Wf 3).I)]).map Item.toD=(((J2.V).items.map Item.toD)++[(Item.toD ((Wf 3).I))]):=ab3;rw[<-eap]at MZ;clear eap;have hitz:=Qw (((Wf 3).I));have hith:=Uu.2;have MZ:=Mem.joinVec (v:=⟨(J2.V).kind,((J2.V).items++[((Wf 3).I)]),(J2.V).parts,(J2.V).names,(J2.V).cls,(J2.V).levels,(J2.V).code,(J2.V).env⟩) MZ wk wc we;exact Mem.outVec hC.out (MZ.up [2,2]) tp
   ·rw[h21];replace h21:=aa h21;refine Ra M [] ?_;refine lW (λh30=>?_) (λh30=>?_)
    ·rw[h30];replace h30:=aa h30;refine Sg (Sa M (λJ9 wv M=>?_));refine Sb M [] 1 ?_;refine Ss M 3 (λwv M=>Sy (fA (dV (Sq ?_))));refine Sb M [3] 1 ?_;refine Ss M 6 (λwv M=>Sz (aO ?_));refine kN results97 M 6 ?_;have MZ:=M.sel [5,1,2,0] dQ;simp only[lH,bH,bY,ah,ag]at MZ;replace MZ:=Mem.openVecL MZ;replace MZ:=MZ.up [7];have MZ:=Mem.litS (l:=[[97],[97]]) (m:=2) (nn:=2) (t:=25) MZ rfl rfl underlying25 dU dQ dQ dQ;replace MZ:=MZ.up [4,4,4,4];replace MZ:=MZ.up [];have MZ:=Mem.joinVec (v:=⟨(J2.V).kind,(J2.V).items,(J2.V).parts,(J2.V).names,(J2.V).cls,List.take 2 [[97],[97]],(J2.V).code,(J2.V).env⟩) MZ wk wc we;exact Mem.outVec hC.out (MZ.up [3,3]) tp
    ·rw[h30];replace h30:=aa h30;refine Ra M [] ?_;refine lW (λh34=>?_) (λh34=>?_)
     ·rw[h34];replace h34:=aa h34;refine Sg (Sb M [] 1 ?_);refine Ss M 2 (λwv M=>Sy (fA (dV (Sq ?_))));refine Sb M [2] 1 ?_;refine Ss M 5 (λwv M=>Sz (aO ?_));refine kN results97 M 5 ?_;have MZ:=M.sel [4,0,1] dQ;simp only[lH,bH,bY,ah,ag]at MZ;replace MZ:=Mem.openVecL MZ;have MZ:=Mem.joinVec (v:=⟨(J2.V).kind,(J2.V).items,(J2.V).parts,(J2.V).names,(J2.V).cls,(J2.V).levels,1,(J2.V).env⟩) MZ wk (kP.2 tc) we;exact Mem.outVec hC.out (MZ.up [2,2]) tp
     ·rw[h34];replace h34:=aa h34;refine Ra M [] ?_;refine lW (λh37=>?_) (λh37=>?_)
      ·rw[h37];replace h37:=aa h37;refine Sg (Sb M [] 1 ?_);refine Sc (Hs hC.out M (λhc=>x7 g (2) (41) dP (kP.2 fP) _ hc) λmO wv M=>Sp ?_);refine Ss M 4 (λwv M=>Sy (fA (dV (Sq ?_))));refine Sb M [4] 1 ?_;refine Ss M 7 (λwv M=>Sz (aO ?_));refine kN results97 M 7 ?_;have hzw:=M.pr 2 rfl;exact Mem.outVec hC.out (M.sel [0,1,3] dQ) dP
      ·rw[h37];replace h37:=aa h37;refine bd (fA (dV (Sq (Sb M [2] 1 ?_))));refine Ss M 5 (λwv M=>Sz (aO ?_));refine kN results97 M 5 ?_;have MZ:=M.sel [4,0,1] dQ;simp only[lH,bH,bY,ah,ag]at MZ;replace MZ:=Mem.openVecL MZ;have MZ:=Mem.joinVec (v:=⟨(J2.V).kind,(J2.V).items,(J2.V).parts,(J2.V).names,(J2.V).cls,(J2.V).levels,(J2.V).code,(J2.V).env⟩) MZ wk wc we;exact Mem.outVec hC.out (MZ.up [2,2]) tp
def qA (n q:Nat):List Nat:=(List.range n).filter λk=> !decide (k=q)
def ab0 (k:Nat):Int:=((k+1:Nat):Int)
theorem Nv (n q:Nat):(qA n q).length<=n:=by have:=List.length_filter_le (λk=> !decide (k=q)) (List.range n);rw[List.length_range]at this;exact this
theorem Yg {n q k:Nat} (h:k∈qA n q):k<n:=by unfold qA at h;rw[cS,c_]at h;exact h.1
theorem JK {j q:Nat} (h:¬j=q):qA (j+1) q=qA j q++[j]:=by unfold qA;rw[List.range_succ,List.filter_append];simp [h]
theorem JI {j q:Nat} (h:j=q):qA (j+1) q=qA j q:=by unfold qA;rw[List.range_succ,List.filter_append];simp [h]
def Xk (ps:List Vec) (ns cls:List Str) (q:Nat):Vec:={(gZ ⟨4,[],jo ps (qA ps.length q),jo ns (qA ps.length q),[],[],0,0⟩) with cls:=cls}
theorem PH (ps:List Vec) (ns cls:List Str) (q pb pc:Nat) (hq:q<=40) (cv:List Value) (w:World) (gF:rep w w.heap.size (Vec.toD ⟨4,([]:List Item),ps,ns,cls,([]:List Str),0,0⟩) cv) (OA:pb<w.heap.size) (Pw:w.cell? ⟨pb,0,none⟩=some (.int .i64 ((q+1:Nat):Int))) (mD:ps.length<=40) (hnm:ns=[]\/ns.length=ps.length) (K9:cls.length<=40) (kD:∀y∈ps,okD 3 y=true/\szD y.toD<=500000000000):
 Calls prog 119 #[av cv,.slice (some ⟨pb,0,none⟩) 1 pc] w (gM (Xk ps ns cls q).toD 38 w):=by
 have kQ:=aa (show lenV ⟨4,([]:List Item),ps,ns,cls,([]:List Str),0,0⟩=ps.length by simp [lenV]);have Cd:=aa kD;have RC:=aa hnm;obtain⟨pv,hpv⟩:∃a,(gZ ⟨4,[],jo ps (qA ps.length q),jo ns (qA ps.length q),[],[],0,0⟩:Vec)=a:=⟨_,rfl⟩;replace hpv:=aa hpv;obtain⟨Ai,ci,Ap,cp,An,cn,Ac,cc,Al,cl,rfl,wk,ri,rp,rn,rc,rl,wc,we⟩:=d_ gF;simp only[bf]at gF;obtain⟨_,_,_,he,-,-,XZ,X7⟩:=(ls _ _ _ _).1 rc;injection he with he;injection he with e1 e2 e3;subst e1 e2 e3
 clear kD hnm;have M:Mem prog w [] w []:=Mem.start;go_enter func119,ntmps119;refine Sq (Sa M (λJ1 wv M=>?_));refine Sa M (λJ2 wv M=>Sz (Sq ?_));refine Se M underlying26 (λJ3 wv M=>?_);refine Sb M [] 1 (Sz (ae ?_));refine Ra M [] (aJ ?_);refine fy (ι:=Nat × Option Addr × Nat × Nat) [7,8,11,12,13,14,15,16,17,18,19,20,21,22,23,24,25,26,27,28,29,30,31,32,33,34,35,36] (λfu=>match fu with|(j,Aq,nk,cq)=>[(5,.slice Aq nk cq),(6,.int .i64 ((j+1:Nat)))]) (λfu=>match fu with|(j,Aq,nk,cq)=>j<=ps.length/\nk=(qA j q).length) (λfu=>match fu with|(j,Aq,nk,cq)=>[.ow (.sl (((qA j q).map ab0).map (D.i .i64))) 26 [.slice Aq nk cq],.bk (J2.b) 38 [.int .i64 0,(),(),(),(),(),.int .i64 0,.int .i64 0],.bk (J1.b) 38 [.int .i64 4,.slice Ai 0 ci,.slice Ap ps.length cp,.slice An ns.length cn,.slice Ac cls.length cc,.slice Al 0 cl,.int .i64 0,.int .i64 0]]) (λfu=>match fu with|(j,Aq,nk,cq)=>ps.length - j) (0,((some ⟨J3.b,0,none⟩)),0,(0)) (⟨by omega,rfl⟩) (by dsimp only;exact M.sel [0,1,2] dQ) ?_;rintro⟨j,Aq,nk,cq⟩ Mf W1 K1 h1 M rH;try dsimp only at h1 M ⊢
 refine uM ?_;obtain⟨hjm,Ty⟩:=h1;replace Ty:=aa Ty;have ajL:nk<=j:=by rw[Ty.out];exact Nv j q
 refine ae (Sq (Sb M [2] 2 ?_));refine Sc (aF (lI ⟨4,([]:List Item),ps,ns,cls,([]:List Str),0,0⟩ _ _ (M.arg gF) dS) ?_);rintro e w' ⟨rfl,hb⟩;rw[kQ.out];replace M:=M.next hb;refine Sp ?_;refine Sb M [] 1 (Sz ?_);refine lW (λhlt=>?_) (λhlt=>?_)
 ·rw[hlt];replace hlt:=aa hlt;have hlj:j<ps.length:=eX;refine bd (dV (ae (aJ (Ra M [] (ae ?_)))));refine Ra M [] (aJ ?_);refine aZ 2 ?_;refine ez (ae (Ra M [] ?_));refine Hx (ae (aJ (Sg ?_)));refine Sb M [] 5 ?_;refine Sf (show w'.cell? ⟨pb,0,none⟩=some (.int .i64 (q+1:Nat)) from (M.bel.cell OA).trans Pw) ?_;refine Sb M [] 4 (Sy (fA (dV ?_)));refine Rb M [] (dV (ez (ae ?_)));refine Ra M [] ?_;refine cf (bo (es (es (fT (dV ?_)))));refine Ra M [] ?_;refine lW (λzL=>?_) (λzL=>?_)
  ·rw[zL];replace zL:=aa zL;have XQ:=aa (show ¬j=q by have z:=zL.out;simp at z;omega);refine Sg (Sb M [] 2 ?_);refine Sa M (λJ5 wv M=>?_);replace M:=M.up [1];have M:=M.int (t:=3) (n:=ab0 j) (by unfold ab0;exact kP.2 fP);replace M:=M.up [2,1,2];refine nQ M rD (λJ6 wv M=>Sw ?_);refine Sb M [] 1 (Sy (fA (dV ?_)));refine Rb M [] (dV ?_);exact rH (j+1,((some ⟨J6.b,0,none⟩)),((nk+1)),(J6.c)) _ _ dU (⟨by omega,by have z:=Ty.out;rw[JK XQ.out,aY,<-z];rfl⟩) (by(try dsimp only);omega) (by(try dsimp only);rw[JK XQ.out,aI,aI];exact M.sel [0,2,3] dQ)
  ·rw[zL];replace zL:=aa zL;have XQ:=aa (show j=q by have z:=zL.out;simp at z;omega);refine bd (fA (dV (Rb M [] (dV ?_))));exact rH (j+1,(Aq),(nk),(cq)) _ _ dU (⟨by omega,by have z:=Ty.out;rw[JI XQ.out];exact z⟩) (by(try dsimp only);omega) (by(try dsimp only);rw[JI XQ.out];exact M.sel [0,1,2] dQ)
 ·rw[hlt];replace hlt:=aa hlt;obtain rfl:j=ps.length:=eX;have ahB:=Ty.out;subst ahB;refine bo (es (es (fT (dV (Sq (Sb M [2] 2 ?_))))));refine Sc (tI (v:=pv) (by rw[<-hpv.out];exact Yh ps ns cls (qA ps.length q) (λ_ h=>Yg h) (by have:=Nv ps.length q;omega) _ _ _ _ (M.arg gF) (M.rp 0 rfl) mD RC.out Cd.out) M λJ7 wv M=>Sp ?_);refine Sa M (λJ8 wv M=>?_);refine Ss M 0 (λwv M=>Sz ?_);obtain⟨-,-,-,-,-,-,-,-,-,-,-,wkp,-,-,-,-,-,To,wep⟩:=d_ (M.rp 1 rfl);refine Sq (Se M underlying25 (λJ9 wv M=>?_));refine Sb M [5] 2 ?_;refine AF (f:=D.s) M jm (XZ.below M.bel) (λy hy w'=>by rw[own];exact⟨rfl,rfl,X7 y hy⟩) gW iK (λmO wv M=>Sw ?_);refine Sb M [] 1 ?_;refine Ss M 1 (λwv M=>Sz (Sq ?_));refine Sb M [1] 1 ?_;refine Ss M 4 (λwv M=>Sz (aO ?_));refine kN results119 M 4 ?_;replace M:=M.up [2];replace M:=M.openVecL;rw[show Xk ps ns cls q={pv with cls:=cls} by rw[Xk,hpv.out]];exact(Mem.joinVec (v:={pv with cls:=cls}) (M.sel [0,1,2,5,4] dQ) wkp To wep).retSt
def ElI (v x:Vec) (nm:Str) (rv:Vec) (rs:Str):Prop:=∀(cv cs cx:List Value) (W:World),rep W W.heap.size v.toD cv->rep W W.heap.size (iA [nm]).toD cs->rep W W.heap.size x.toD cx->Calls prog 112 #[av cv,av cs,av cx] W (eH rv.toD 38 (sv rs) W)
def ElS (v x:Vec) (nm:Str) (rv:Vec) (rs:Str):Prop:=∀(cv cs cx:List Value) (W:World),rep W W.heap.size v.toD cv->rep W W.heap.size (iA [nm]).toD cs->rep W W.heap.size x.toD cx->Calls prog 128 #[av cv,av cs,av cx] W (eH rv.toD 38 (sv rs) W)
def FiI (v x:Vec) (nm:Str) (rv:Vec) (rs:Str):Prop:=∀(cv cx:List Value) (W:World),rep W W.heap.size v.toD cv->rep W W.heap.size x.toD cx->Calls prog 45 #[av cv,sv nm,av cx] W (eH rv.toD 38 (sv rs) W)
def FiS (v x:Vec) (nm:Str) (rv:Vec) (rs:Str):Prop:=∀(cv cx:List Value) (W:World),rep W W.heap.size v.toD cv->rep W W.heap.size x.toD cx->Calls prog 57 #[av cv,sv nm,av cx] W (eH rv.toD 38 (sv rs) W)
theorem Dp {x:Vec}:∀{l:List Vec},x∈l->jF x<=ik l
 |[],h=>by simp at h
 |a::t,h=>by
  rw[ik];rcases aX.1 h with rfl|h
  ·omega
  ·have:=Dp h;omega
theorem PV {T x:Vec} (h4:T.kind=4) (h:isVec T=true) (hx:x∈T.parts):isVec ⟨4,[],[x],[],[],[],0,0⟩=true:=by
 obtain⟨h1,h2⟩:=i6 h;rw[okD]at h1;simp only[ax,aV]at h1;refine vy (tY dR (rr 3) dR (λz hz=>?_)) ?_
 ·obtain rfl:z=x:=ms;exact h1.2 z hx
 ·rw[jU]at h2 ⊢;have h3:=Dp hx;have h5:1<=lenV T:=by unfold lenV;rw[aH dP];have:=List.length_pos_of_mem hx;omega
  have h6:lenV ⟨4,[],[x],[],[],[],0,0⟩=1:=rfl;have h7:ik (Vec.parts ⟨4,[],[x],[],[],[],0,0⟩)=jF x:=by simp [ik]
  rw[h6,h7];omega
theorem NO {its:List Vec} {nf cls lv:List Str} {q:Nat} {nm:Str} {x:Vec}:x∈(gZ (mV its nf cls lv q nm x)).parts:=by
 have h:(gZ (mV its nf cls lv q nm x)).parts=(eY its (q+1) zeroV).set q x:=by unfold gZ;split<;>rfl
 rw[h];refine aA (i:=q) ?_;rw[abg];unfold eY;simp;omega
theorem Jt {ns:List Str} {n:Nat} (h:ns=[]\/ns.length=n):(gA ns n).length=n:=by
 unfold gA;split
 ·simp
 ·rcases h with h|h
  ·contradiction
  ·exact h
theorem Uj {ns:List Str} {n:Nat} (h:∀s∈ns,s.length<=60):∀s∈gA ns n,s.length<=60:=by
 unfold gA;split
 ·intro s hs;rw[List.eq_of_mem_replicate hs];simp
 ·exact h
theorem E7 {ns:List Str} {n:Nat} {nm:Str} (hn:n<=40) (h:ns=[]\/ns.length=n):∃q:Nat,q<=n/\pu ns n nm=((q+1:Nat):Int)/\(ix ns nm 0<0->q=n)/\(∀j:Nat,ix ns nm 0=(j:Int)->q=j/\j<n/\ns.length=n):=by
 have hg:=pY ns nm 0;by_cases hi:ix ns nm 0<0
 ·exact⟨n,af _,by rw[tq hi];omega,λ_=>rfl,λj hj=>by omega⟩
 ·obtain⟨j,hj⟩:=bQ (show 0<=ix ns nm 0 by omega);have hl:ns.length=n:=by
   rcases h with rfl|h
   ·simp at hg;omega
   ·exact h
  exact⟨j,by omega,by rw[tt hi,hj];omega,λh=>absurd h hi,λi hij=>by omega⟩
structure LV (its:List Vec) (ns cls:List Str):Prop where
 v:isVec ⟨4,[],its,ns,cls,[],0,0⟩=true
 b:isVec ⟨4,[],its,ns,[],[],0,0⟩=true
 l:its.length<=40
 n:ns=[]\/ns.length=its.length
 n60:ns.length<=40/\∀s∈ns,s.length<=60
 c:cls.length<=3/\∀s∈cls,s.length<=60
 p:∀z∈its,okD 3 z=true/\szD z.toD<=740880000
theorem LV.of {its:List Vec} {ns cls:List Str} (hv:isVec ⟨4,[],its,ns,cls,[],0,0⟩=true):LV its ns cls:=by
 have F:=jf hv;obtain⟨m1,m2,m3,m4,m5,m6⟩:=FV.more (jB (i6 hv).1);have UC:=(i6 hv).1;have gK:([]:List Item).length+its.length<=40:=F.len;refine⟨hv,(rm hv rfl).2,by simpa using gK,?_,⟨pB F,F.names⟩,F.cls,λz hz=>?_⟩
 ·rcases m2 with e|⟨e,e'⟩
  ·exact .inl (aR.1 e)
  ·exact .inr (by have e:ns.length=_:=e;rw[e];unfold lenV;rw[aH qn];simp)
 ·rw[okD]at UC;simp only[ax,aV]at UC;have h2:=Ew (UC.2 z hz);exact⟨h2,AZ h2⟩
theorem LV.conv {its:List Vec} {ns cls:List Str} (L:LV its ns cls) (cs:List Value) (W:World) (r:rep W W.heap.size (Vec.toD ⟨4,[],its,ns,cls,[],0,0⟩) cs):Calls prog 160 #[av cs,.int .i64 4] W (eH (Vec.toD ⟨4,[],its,ns,[],[],0,0⟩) 38 (.bool true) W):=by
 have:=zn ⟨4,[],its,ns,cls,[],0,0⟩ cs W r dR L.l L.n60.1 qn (by show (4:Int)<=4;decide) dR (λz hz=>by have:=(L.p z hz).2;omega);have ec:Go.Proofs.YtekcpadlmfaihaaGreat.conv ⟨4,[],its,ns,cls,[],0,0⟩ 4=⟨4,[],its,ns,[],[],0,0⟩:=by unfold Go.Proofs.YtekcpadlmfaihaaGreat.conv;rw[aN rfl];simp
 rw[ec]at this;exact this
theorem LV.coer {its:List Vec} {ns cls:List Str} (L:LV its ns cls) (cs:List Value) (W:World) (r:rep W W.heap.size (Vec.toD ⟨4,[],its,ns,cls,[],0,0⟩) cs):Calls prog 122 #[av cs,.int .i64 4] W (eH (Vec.toD ⟨4,[],its,ns,[],[],0,0⟩) 38 (.bool true) W):=
 Cw its ns cls [] cs W r L.l L.n60.1 (λz hz=>⟨(L.p z hz).1,by have:=(L.p z hz).2;omega⟩) L.v (eC L.v) L.b (eC L.b)
theorem LV.res {its:List Vec} {ns cls:List Str} (L:LV its ns cls) {nm:Str} (hn:1<=nm.length/\nm.length<=60) {q:Nat} (hp:pu ns its.length nm=((q+1:Nat):Int)) (cs:List Value) (A:Option Addr) (c:Nat) (W:World) (r1:rep W W.heap.size (iA [nm]).toD cs) (r2:rep W W.heap.size (.sl (ns.map .s)) [.slice A ns.length c]):
 Calls prog 117 #[.int .i64 (its.length:Nat),.slice A ns.length c,av cs] W (jq [((q+1:Nat):Int)] [] W):=by
 have:=LH its.length L.l ns A c (by rcases L.n with h|h<;>first|exact .inl (by rw[h];rfl)|exact .inr h) nm eb hn.2 (by cases nm;simp at hn;rfl) cs W r2 r1;rw[hp]at this;exact this
theorem LV.asg {its:List Vec} {ns cls:List Str} (L:LV its ns cls) {x:Vec} (hx:isVec x=true) {nm:Str} (hn:1<=nm.length/\nm.length<=60) {q:Nat} (hp:pu ns its.length nm=((q+1:Nat):Int)) (cv cs cx:List Value) (W:World) (a:rep W W.heap.size (Vec.toD ⟨4,[],its,ns,cls,[],0,0⟩) cv) (b:rep W W.heap.size (iA [nm]).toD cs) (c:rep W W.heap.size x.toD cx):
 Calls prog 105 #[av cv,av cs,av cx] W (jq [((q+1:Nat):Int)] [] W):=by
 have:=Xb ⟨4,[],its,ns,cls,[],0,0⟩ x cv cx cs W a c L.v hx (eC L.v) (eC hx) qn nm eb hn.2 (by cases nm;simp at hn;rfl) b;have e:lenV ⟨4,[],its,ns,cls,[],0,0⟩=its.length:=by unfold lenV;rw[aH qn];simp
 rw[e]at this;have e2:pu (Vec.names ⟨4,[],its,ns,cls,[],0,0⟩) its.length nm=((q+1:Nat):Int):=hp;rw[e2]at this;exact this
theorem We:szD zeroV.toD=0:=by simp [zeroV,go,szD,gv]
theorem YC {its:List Vec} {ns cls:List Str} (L:LV its ns cls) {x:Vec} (hxs:szD x.toD<=740880000) {nm:Str} (hn:nm.length<=60) {q:Nat} (hq:q<40):VB (mV its (gA ns its.length) cls [] q nm x) 740880000:=by
 have hf:=Jt L.n;have hf6:=Uj (n:=its.length) L.n60.2;refine⟨by simp [mV],⟨?_,λz hz=>?_⟩,?_,⟨by have:=L.c.1;show cls.length<=40;omega,L.c.2⟩,by simp [mV]⟩
 ·have:=ue (l:=its) (d:=zeroV) (y:=x) (q:=q) L.l hq;show ((eY its (q+1) zeroV).set q x).length<=41;omega
 ·rcases uf (show z∈(eY its (q+1) zeroV).set q x from hz) with h|rfl|rfl
  ·exact(L.p z h).2
  ·rw[We];omega
  ·exact hxs
 ·show (if q<its.length then _ else _:List Str).length<=41/\∀s∈(if q<its.length then _ else _:List Str),s.length<=60;have hl:=L.l;split
  ·exact⟨by omega,hf6⟩
  ·refine⟨?_,λs hs=>?_⟩
   ·have:=ue (l:=gA ns its.length) (d:=([]:Str)) (y:=nm) (q:=q) dP hq;omega
   ·rcases uf hs with h|rfl|rfl
    ·exact hf6 s h
    ·simp
    ·exact hn
theorem Jp {its:List Vec} {ns cls:List Str} {x:Vec} {nm:Str} (L:LV its ns cls) (hx:isVec x=true) (hx0:¬x.kind=0) (hn:1<=nm.length/\nm.length<=60):
 ∃(rv:Vec) (rs:Str),ElI ⟨4,[],its,ns,cls,[],0,0⟩ x nm rv rs/\ElS ⟨4,[],its,ns,cls,[],0,0⟩ x nm rv rs/\(rs=[]->∃q:Nat,q<40/\pu ns its.length nm=((q+1:Nat):Int)/\rv=gZ (mV its (gA ns its.length) cls [] q nm x)/\isVec rv=true):=by
 obtain⟨q,Px,UG,-,-⟩:=E7 (nm:=nm) L.l L.n;have hl:=L.l;have UM:=(i6 hx).1;have hxs:=vz hx;have abr:nm.length<=maxLen:=eb;have hX1:bigV ⟨4,[],[x],[],[],[],0,0⟩:=by have:VB ⟨4,[],[x],[],[],[],0,0⟩ 740880000:=⟨by simp,⟨by simp,λz hz=>by obtain rfl:z=x:=ms;exact hxs⟩,by simp,by simp,by simp⟩;exact this.big
 have Ng:max (4:Int) 4=4:=dQ;have hxk:¬(4:Int)=5:=dQ;have CX:∀(cs:List Value) (W:World),rep W W.heap.size (Vec.toD ⟨4,[],[x],[],[],[],0,0⟩) cs->Calls prog 160 #[av cs,.int .i64 4] W (eH (Vec.toD ⟨4,[],[x],[],[],[],0,0⟩) 38 (.bool true) W):=λcs W r=>by
  have:=zn ⟨4,[],[x],[],[],[],0,0⟩ cs W r dR dR dR hxk (by show (4:Int)<=4;decide) dR (λz hz=>by obtain rfl:z=x:=ms;omega);have ec:conv ⟨4,[],[x],[],[],[],0,0⟩ 4=⟨4,[],[x],[],[],[],0,0⟩:=rfl
  rw[ec]at this;exact this
 by_cases hq:q<40
 ·have ga:=(LN (YC L hxs hn.2 hq)).big;refine⟨(kG (gZ (mV its (gA ns its.length) cls [] q nm x))).1,(kG (gZ (mV its (gA ns its.length) cls [] q nm x))).2,?_,?_,λe=>?_⟩
  ·intro cv cs cx W gF mP fE;refine uV _ x _ _ nm _ dP cv cs cx W gF mP fE rfl hx0 (λW a b c=>L.asg hx hn UG cv cs cx W a b c) (λpb pc cz W a b c d e=>?_);obtain⟨sb,so,c1,A2,c2,A3,c3,A4,c4,A5,c5,rfl,tV,-,-,e2⟩:=jX b;exact VT ⟨4,[],its,ns,cls,[],0,0⟩ ⟨4,[],[x],[],[],[],0,0⟩ x its q nm pb 0 pc sb so c1 _ _ _ _ _ _ _ _ _ _ _ _ _ _ cv cz W a c d e tV e2 hq abr Ng hxk L.n L.l (by have:=L.c.1;show cls.length<=40;omega) dR dP L.conv CX ga
  ·intro cv cs cx W gF mP fE;have key:=λbx hb HS=>Af its ns cls x (kG (gZ (mV its (gA ns its.length) cls [] q nm x))).1 (kG (gZ (mV its (gA ns its.length) cls [] q nm x))).2 nm q dP cv cs cx W gF mP fE L.v (eC L.v) hx (eC hx) L.l hx0 (L.res hn UG cs) bx hb hX1 UM dP HS;cases hb:isVec ⟨4,[],[x],[],[],[],0,0⟩ with
   |true=>
    exact key true hb λ_ cz W a b c=>N6 its ns cls x nm q hq cv cs cz W a b c abr L.v (eC L.v) hb (eC hb) L.n L.l (by have:=L.c.1;omega) UM dP (L.res hn UG cs) L.coer
     (λcs W r=>Cw [x] [] [] [] cs W r dR dR (λz hz=>by obtain rfl:z=x:=ms;exact⟨UM,by omega⟩) hb (eC hb) hb (eC hb)) ga
   |false=>
    have:=key false hb (λh=>by cases h);have hT:isVec (gZ (mV its (gA ns its.length) cls [] q nm x))=false:=by
     cases hT:isVec (gZ (mV its (gA ns its.length) cls [] q nm x)) with
     |false=>rfl
     |true=>
      have:=PV (by rw[Bf];rfl) hT NO;rw[hb]at this;cases this
    have e1:kG (gZ (mV its (gA ns its.length) cls [] q nm x))=(zeroV,E_):=by unfold kG;rw[hT];rfl
    rw[e1];exact this
  ·obtain⟨e1,e2⟩:=KX e;rw[e2];exact⟨q,hq,UG,rfl,e1⟩
 ·obtain rfl:q=40:=dP;refine⟨zeroV,E_,?_,?_,λe=>by cases e⟩
  ·intro cv cs cx W gF mP fE;refine uV _ x _ _ nm _ dP cv cs cx W gF mP fE rfl hx0 (λW a b c=>L.asg hx hn UG cv cs cx W a b c) (λpb pc cz W a b c d e=>?_);obtain⟨sb,so,c1,A2,c2,A3,c3,A4,c4,A5,c5,rfl,tV,-,-,e2⟩:=jX b;exact VQ ⟨4,[],its,ns,cls,[],0,0⟩ ⟨4,[],[x],[],[],[],0,0⟩ pb 0 pc sb so c1 _ _ _ _ _ _ _ _ _ _ _ _ _ _ cv cz W a c Ng hxk
  ·intro cv cs cx W gF mP fE;have key:=λbx hb HS=>Af its ns cls x zeroV E_ nm 40 dP cv cs cx W gF mP fE L.v (eC L.v) hx (eC hx) L.l hx0 (L.res hn UG cs) bx hb hX1 UM dP HS;cases hb:isVec ⟨4,[],[x],[],[],[],0,0⟩ with
   |true=>
    exact key true hb λ_ cz W a b c=>NY its ns cls x nm cv cs cz W a b c abr L.v (eC L.v) hb (eC hb) L.n L.l (by have:=L.c.1;omega) (L.res hn UG cs) L.coer
     (λcs W r=>Cw [x] [] [] [] cs W r dR dR (λz hz=>by obtain rfl:z=x:=ms;exact⟨UM,by omega⟩) hb (eC hb) hb (eC hb))
   |false=>exact key false hb (λh=>by cases h)
theorem Jq {its:List Vec} {ns cls:List Str} {x:Vec} {nm:Str} (L:LV its ns cls) (hx:isVec x=true) (hx0:x.kind=0) (hn:1<=nm.length/\nm.length<=60):
 ∃rI rS:Vec,ElI ⟨4,[],its,ns,cls,[],0,0⟩ x nm rI []/\ElS ⟨4,[],its,ns,cls,[],0,0⟩ x nm rS []:=by
 obtain⟨q,Px,UG,-,-⟩:=E7 (nm:=nm) L.l L.n;have hl:=L.l;have hF:=(jf hx).len;refine⟨PN ⟨4,[],its,ns,cls,[],0,0⟩ q,Xk its ns cls q,?_,?_⟩
 ·intro cv cs cx W gF mP fE;exact Di _ x _ nm _ dP cv cs cx W gF mP fE rfl hx0 (λW a b c=>L.asg hx hn UG cv cs cx W a b c) (λpb pc W a d e=>SK ⟨4,[],its,ns,cls,[],0,0⟩ q pb pc dP cv W a d e (by unfold lenV;rw[aH qn];simp) L.l dR L.n (by have:=L.c.1;show cls.length<=40;omega) (λz hz=>by have:=(L.p z hz).2;omega))
 ·intro cv cs cx W gF mP fE;exact LG its ns cls x _ [] nm q dP cv cs cx W gF mP fE L.v (eC L.v) hx (eC hx) L.l hx0 (L.res hn UG cs)
   (λW a b c=>N5 its ns cls x _ nm q dP cv cs cx W a b c L.v (eC L.v) hx (eC hx) L.l hx0 hF (L.res hn UG cs) (λpb pc W a d e=>PH its ns cls q pb pc dP cv W a d e L.l L.n (by have:=L.c.1;omega) (λz hz=>⟨(L.p z hz).1,by have:=(L.p z hz).2;omega⟩)))
theorem Pi {v x:Vec} {nm:Str} (hv:isVec v=true) (hx:isVec x=true) (hn:1<=nm.length/\nm.length<=60):
 ∃(rI rS:Vec) (rs:Str),FiI v x nm rI rs/\FiS v x nm rS rs/\(rs=[]->v.kind=4->¬x.kind=0->∃q:Nat,q<40/\pu v.names v.parts.length nm=((q+1:Nat):Int)/\rS=gZ (mV v.parts (gA v.names v.parts.length) v.cls [] q nm x)/\isVec rS=true):=by
 have hb:=eC hv;have qo:=eC hx;by_cases h4:v.kind=4
 ·obtain⟨OC,-⟩:=rm hv h4;have L:LV v.parts v.names v.cls:=LV.of (by rw[<-OC];exact hv);by_cases hx0:x.kind=0
  ·obtain⟨rI,rS,a,b⟩:=Jq L hx hx0 hn;rw[<-OC]at a b;exact⟨rI,rS,[],λcv cx W r1 r2=>ze v x rI [] nm cv cx W r1 r2 hv hx hb qo hn.1 hn.2 h4 a,λcv cx W r1 r2=>EY v x rS [] nm cv cx W r1 r2 hv hx hb qo hn.1 hn.2 h4 b,λ_ _ h=>absurd hx0 h⟩
  ·obtain⟨rv,rs,a,b,c⟩:=Jp L hx hx0 hn;rw[<-OC]at a b;exact⟨rv,rv,rs,λcv cx W r1 r2=>ze v x rv rs nm cv cx W r1 r2 hv hx hb qo hn.1 hn.2 h4 a,λcv cx W r1 r2=>EY v x rv rs nm cv cx W r1 r2 hv hx hb qo hn.1 hn.2 h4 b,λe _ _=>c e⟩
 ·by_cases h0:v.kind=0
  ·have L:LV [] [] []:=LV.of (vy (tY (d:=2) dR (rr 3) dR dR) (by rw[jU];simp [ik,lenV]));by_cases hx0:x.kind=0
   ·obtain⟨rI,rS,a,b⟩:=Jq L hx hx0 hn;exact⟨rI,rS,[],λcv cx W r1 r2=>zh v x rI [] nm cv cx W r1 r2 hv hx hb qo hn.1 hn.2 h0 a,λcv cx W r1 r2=>EZ v x rS [] nm cv cx W r1 r2 hv hx hb qo hn.1 hn.2 h0 b,λ_ h=>absurd h h4⟩
   ·obtain⟨rv,rs,a,b,c⟩:=Jp L hx hx0 hn;exact⟨rv,rv,rs,λcv cx W r1 r2=>zh v x rv rs nm cv cx W r1 r2 hv hx hb qo hn.1 hn.2 h0 a,λcv cx W r1 r2=>EZ v x rv rs nm cv cx W r1 r2 hv hx hb qo hn.1 hn.2 h0 b,λ_ h=>absurd h h4⟩
  ·exact⟨zeroV,zeroV,_,λcv cx W r1 r2=>KE v x nm cv cx W r1 r2 hv hx hb qo h4 h0,λcv cx W r1 r2=>P9 v x nm cv cx W r1 r2 hv hx hb qo h4 h0,λe=>by cases e⟩
theorem ZN:∀(l:List Str) (key:Str) (i:Nat),ix l key i= -1\/(i:Int)<=ix l key i
 |[],key,i=>by rw[ix];omega
 |e::t,key,i=>by
  rw[ix];split
  ·omega
  ·have:=ZN t key (i+1);omega
theorem Nr:∀{l:List Str} {key:Str} {i j:Nat},ix l key i=((i+j:Nat):Int)->l[j]?=some key
 |[],key,i,j,h=>by rw[ix]at h;omega
 |e::t,key,i,j,h=>by
  rw[ix]at h;split at h
  ·next he=>
   have:j=0:=dP;subst this;simp [he]
  ·have hg:=pY t key (i+1);cases j with
   |zero=>
    have h1:=ZN t key (i+1);omega
   |succ j=>rw[ag];exact Nr (i:=i+1) (by rw[h];congr 1;omega)
theorem S6 {h:Hp} {k:Nat} {x:Cel} (hx:h.cells[k]?=some x):eG h k x=h:=by obtain⟨hk,e⟩:=ay.1 hx;unfold eG;rw[<-e,List.set_getElem_self hk]
theorem Z2 {v:Vec} (h:v.kind=4):(⟨4,v.items,v.parts,v.names,v.cls,v.levels,v.code,v.env⟩:Vec)=v:=by obtain⟨a,b,c,d,e,f,g,i⟩:=v;simp only at h;subst h;rfl
theorem J_ {its:List Vec} {ns cls:List Str} {nm:Str} {x:Vec} {q:Nat} (hn:ns=[]\/ns.length=its.length) (hnm:1<=nm.length) (hq:pu ns its.length nm=((q+1:Nat):Int)):
 (ix ns nm 0<0->(gZ (mV its (gA ns its.length) cls [] q nm x)).names=gA ns its.length++[nm])/\(0<=ix ns nm 0->(gZ (mV its (gA ns its.length) cls [] q nm x)).names=ns):=by
 have jC:¬nm=[]:=by rintro rfl;simp at hnm
 have hf:=Jt hn;refine⟨λhi=>?_,λhi=>?_⟩
 ·rw[tq hi]at hq;have e:q=its.length:=dP;subst e;have e1:(mV its (gA ns its.length) cls [] its.length nm x).names=gA ns its.length++[nm]:=by
   show (if its.length<its.length then gA ns its.length else (eY (gA ns its.length) (its.length+1) []).set its.length nm)=_;rw[aH dP];unfold eY;rw[hf,show its.length+1 - its.length=1 by omega,show List.replicate 1 ([]:Str)=[[]] from rfl];have h2:∀(l:List Str) (a b:Str),(l++[a]).set l.length b=l++[b]:=λl a b=>by simp
   have h3:=h2 (gA ns its.length) [] nm;rw[hf]at h3;exact h3
  have e2:lR (gA ns its.length++[nm])=false:=KC (j:=(gA ns its.length).length) dR jC;unfold gZ;rw[e1,e2,aH dQ,e1]
 ·have hg:=pY ns nm 0;rw[tt dP]at hq;have hq':ix ns nm 0=((0+q:Nat):Int):=dP;have hx:=Nr hq';have hl:ns.length=its.length:=by
   rcases hn with rfl|h
   ·simp at hx
   ·exact h
  have Px:=(ay.1 hx).1;have hf2:gA ns its.length=ns:=by unfold gA;rw[aH (by rintro rfl;simp at hx)]
  have e1:(mV its (gA ns its.length) cls [] q nm x).names=ns:=by show (if q<its.length then gA ns its.length else _)=_;rw[aN dP,hf2]
  have e2:lR ns=false:=KC hx jC;unfold gZ;rw[e1,e2,aH dQ,e1]
theorem VE {its:List Vec} {ns cls:List Str} {nm:Str} {x:Vec} {q:Nat} (hn:ns=[]\/ns.length=its.length) (hnm:1<=nm.length) (hq:pu ns its.length nm=((q+1:Nat):Int)):
 (ix ns nm 0<0->gZ (mV its (gA ns its.length) cls [] q nm x)=⟨4,[],its++[x],gA ns its.length++[nm],cls,[],0,0⟩)/\(∀m:Nat,ix ns nm 0=(m:Int)->m<its.length/\gZ (mV its (gA ns its.length) cls [] q nm x)=⟨4,[],its.set m x,ns,cls,[],0,0⟩):=by
 obtain⟨p1,p2⟩:=J_ (cls:=cls) (x:=x) hn hnm hq;have key:∀(T:Vec) (P:List Vec),T.kind=4->T.items=[]->T.cls=cls->T.levels=[]->T.code=0->T.env=0->T.parts=P->T=⟨4,[],P,T.names,cls,[],0,0⟩:=by rintro⟨a,b,c,d,e,f,g,i⟩ P h1 h2 h3 h4 h5 h6 h7;simp only at h1 h2 h3 h4 h5 h6 h7;subst h1 h2 h3 h4 h5 h6 h7;rfl
 have hT:∀P,(eY its (q+1) zeroV).set q x=P->gZ (mV its (gA ns its.length) cls [] q nm x)=⟨4,[],P,(gZ (mV its (gA ns its.length) cls [] q nm x)).names,cls,[],0,0⟩:=λP hP=>by refine key _ P ?_ ?_ ?_ ?_ ?_ ?_ ?_<;>(unfold gZ;split<;>first|rfl|exact hP)
 refine⟨λhi=>?_,λm hm=>?_⟩
 ·rw[tq hi]at hq;have e:q=its.length:=dP;subst e;have e2:(eY its (its.length+1) zeroV).set its.length x=its++[x]:=by unfold eY;rw[show its.length+1 - its.length=1 by omega,show List.replicate 1 zeroV=[zeroV] from rfl];simp
  rw[hT _ e2,p1 hi]
 ·have hg:=(pY ns nm 0).2;rw[tt dP]at hq;have e:q=m:=dP;subst e;have hl:ns.length=its.length:=by
   rcases hn with rfl|h
   ·simp at hg;omega
   ·exact h
  have e2:(eY its (q+1) zeroV).set q x=its.set q x:=by rw[pE dP]
  exact⟨by omega,by rw[hT _ e2,p2 dP]⟩
theorem Ug {h:Hp} {k p:Int} (hp:p∈(celD h k).parts):p∈h.cells.flatMap (·.parts):=by
 unfold celD at hp;split at hp
 ·cases hc:h.cells[k.toNat]? with
  |none=>rw[hc]at hp;simp at hp
  |some c=>
   rw[hc]at hp;exact dM.2 ⟨c,aA hc,hp⟩
 ·simp at hp
theorem aeV {h:Hp} {E:List Int} {k:Int} (X:EX h E) (h1:(celD h k).count=1) (hk:k∈h.slots):(∀c,k ∉ (celD h c).parts)/\k ∉ E:=by
 have h2:=X.c k;rw[h1]at h2;have h3:(refs h).count k=h.slots.count k+(h.cells.flatMap (·.parts)).count k:=bT;have h4:=eo.2 hk;refine⟨λc hc=>?_,λhe=>?_⟩
 ·have:=eo.2 (Ug hc);omega
 ·have:=eo.2 he;omega
theorem ve {h:Hp} {k:Nat} {x:Cel} (hk:k<h.cells.length) (hn:∀c,(k:Int) ∉ (celD h c).parts):∀{d:Nat} {y:Int},¬y=(k:Int)->FP h d y->FP (eG h k x) d y/\asm (eG h k x) d y=asm h d y
 |0,y,hy,e=>by
  have hc:celD (eG h k x) y=celD h y:=by rw[fQ hk,aH hy]
  rw[FP]at e;rw[FP,asm,asm,hc];exact⟨e,rfl⟩
 |d+1,y,hy,e=>by
  have hc:celD (eG h k x) y=celD h y:=by rw[fQ hk,aH hy]
  rw[FP]at e;have key:∀p∈(celD h y).parts,FP (eG h k x) d p/\asm (eG h k x) d p=asm h d p:=λp hp=>ve hk hn (λe1=>hn y (e1 ▸ hp)) (e.2.2 p hp);rw[FP,asm,asm,hc];refine⟨⟨e.1,e.2.1,λp hp=>(key p hp).1⟩,?_⟩;rw[cT λp hp=>(key p hp).2]
theorem Ui {h:Hp} {E:List Int} (X:EX h E):∀{d e:Nat} {k:Int},FP h e k->okD d (asm h e k)=true->d<=e->FP h d k/\asm h d k=asm h e k
 |0,e,k,hf,ho,_=>by
  have hz:(asm h e k).parts=[]:=by rw[okD]at ho;simp only[ax,dh]at ho;exact ho.2
  cases e with
  |zero=>exact⟨hf,rfl⟩
  |succ e=>
   have hp:(celD h k).parts=[]:=by rw[asm]at hz;simpa using hz
   rw[FP,asm,asm,hp];exact⟨⟨aao hf,rfl⟩,(qE (X.v k)).symm⟩
 |d+1,e,k,hf,ho,E3=>by
  obtain⟨e,rfl⟩:∃e',e=e'+1:=⟨e - 1,by omega⟩;have ZC:=(n7 ho).1;rw[FP]at hf;have key:∀p∈(celD h k).parts,FP h d p/\asm h d p=asm h e p:=λp hp=>by obtain⟨d',e1,h1⟩:=ZC (asm h e p) (by rw[asm];exact dt hp);obtain rfl:d=d':=dP;exact Ui X (hf.2.2 p hp) h1 dP
  rw[FP,asm,asm];refine⟨⟨hf.1,hf.2.1,λp hp=>(key p hp).1⟩,?_⟩;rw[cT λp hp=>(key p hp).2]
def Keeps (h g:Hp) (s:Str):Prop:=∀(i:Nat) (nm:Str),h.names[i]?=some nm->g.names[i]?=some nm/\(nm≠s->∃y y':Int,h.slots[i]?=some y/\g.slots[i]?=some y'/\asm g 3 y'=asm h 3 y)
theorem Keeps.refl {h:Hp} {s:Str} (S:SL h):Keeps h h s:=λi nm hi=>by have hil:=(ay.1 hi).1;have hl:=S.l;have hy:h.slots[i]?=some (h.slots[i]' dP):=aw dP;exact⟨hi,λ_=>⟨_,_,hy,hy,rfl⟩⟩
theorem acE {h h1:Hp} {s:Str} {k:Int} {E:List Int} (S:SL h) (K:KU h h1) (e1:h1.names=h.names) (e2:h1.slots=h.slots) (X:EX h1 (k::E)) (hs:isNm s=true) (hf:FP h1 3 k) (hv:isVec (asm h1 3 k)=true):Keeps h (fd h1 s k) s:=λi nm hi=>by
 obtain⟨b1,b2,b3,b4,b5⟩:=LF (S.ku K e1 e2) X hs hf hv;have hil:=(ay.1 hi).1;have hl:=S.l;obtain⟨y,hy⟩:∃y,h.slots[i]?=some y:=⟨_,aw dP⟩;have key:(fd h1 s k).slots[i]?=some y->asm (fd h1 s k) 3 y=asm h 3 y:=λhg=>by obtain⟨f1,f2⟩:=qX K (S.f _ (aA hy)).1;exact(Dx b3 b1 f1 (b1.slot (aA hg))).2.trans f2
 rcases b5 with ⟨p,q1,q2,q3,q4⟩|⟨q1,q2,q3⟩
 ·refine⟨by rw[q3,e1];exact hi,λjC=>?_⟩;have hip:¬p=i:=λe=>jC (by subst e;have:=Nr (l:=h1.names) (key:=s) (i:=0) (j:=p) dP;rw[e1,hi]at this;injection this)
  have hg:(fd h1 s k).slots[i]?=some y:=by rw[q4,List.getElem?_set_ne hip,e2];exact hy
  exact⟨y,y,hy,hg,key hg⟩
 ·refine⟨by rw[q2,e1,cY hil];exact hi,λjC=>?_⟩;have hg:(fd h1 s k).slots[i]?=some y:=by rw[q3,e2,cY dP];exact hy
  exact⟨y,y,hy,hg,key hg⟩
theorem adI {h h1 g:Hp} {s:Str} (S:SL h) (K:KU h h1) (e1:h1.names=h.names) (e2:h1.slots=h.slots) (Kp:Keeps h1 g s):Keeps h g s:=λi nm hi=>by obtain⟨a,b⟩:=Kp i nm (by rw[e1];exact hi);refine⟨a,λjC=>?_⟩;obtain⟨y,y',c1,c2,c3⟩:=b jC;rw[e2]at c1;exact⟨y,y',c1,c2,c3.trans (qX K (S.f _ (aA c1)).1).2⟩
theorem ads {h g g':Hp} {s:Str} {E:List Int} (Kp:Keeps h g s) (F:∀y∈g.slots,FP g 3 y) (K:KV g g') (X:EX g' E) (n1:g'.names=g.names) (n2:g'.slots=g.slots):Keeps h g' s:=λi nm hi=>by obtain⟨a,b⟩:=Kp i nm hi;refine⟨by rw[n1];exact a,λjC=>?_⟩;obtain⟨y,y',c1,c2,c3⟩:=b jC;have hm:=aA c2;exact⟨y,y',c1,by rw[n2];exact c2,(Dx K X (F _ hm) (X.slot (by rw[n2];exact hm))).2.trans c3⟩
theorem ac7 {k:Int}:∀(l:List Int) (i p:Nat),i<p->l[i]?=some k->l[p]?=some k->2<=l.count k
 |[],i,p,_,h,_=>by simp at h
 |a::t,i,0,h,_,_=>by omega
 |a::t,0,p+1,_,h1,h2=>by obtain rfl:a=k:=mt;have:=eo.2 (aA (show t[p]?=some a by simpa using h2));rw[List.count_cons_self];omega
 |a::t,i+1,p+1,h,h1,h2=>by have:=ac7 t i p dP mt (by simpa using h2);rw[cX];omega
theorem adN {g:Hp} {E:List Int} {k:Int} (X:EX g E) (h1:(celD g k).count=1) {i p:Nat} (hi:g.slots[i]?=some k) (hp:g.slots[p]?=some k):i=p:=by
 have hc:=X.c k;have e:(refs g).count k=g.slots.count k+(g.cells.flatMap (·.parts)).count k:=by unfold refs;rw[bT]
 rcases Nat.lt_trichotomy i p with h|h|h
 ·have:=ac7 _ _ _ h hi hp;omega
 ·exact h
 ·have:=ac7 _ _ _ h hp hi;omega
theorem acJ {h g:Hp} {s:Str} {k:Nat} {x:Cel} {E:List Int} (Kp:Keeps h g s) (X:EX g E) (S:SL g) (hk:k<g.cells.length) (hc:(celD g (k:Int)).count=1) (hn:∀c,(k:Int) ∉ (celD g c).parts) (hp:∃p:Nat,g.names[p]?=some s/\g.slots[p]?=some (k:Int)):Keeps h (eG g k x) s:=λi nm hi=>by
 obtain⟨a,b⟩:=Kp i nm hi;refine⟨a,λjC=>?_⟩;obtain⟨y,y',c1,c2,c3⟩:=b jC;obtain⟨p,p1,p2⟩:=hp;have hyk:¬y'=(k:Int):=λe=>jC (by subst e;have:=adN X hc c2 p2;subst this;rw[a]at p1;injection p1)
 exact⟨y,y',c1,c2,(ve hk hn hyk (S.f _ (aA c2)).1).2.trans c3⟩
theorem Vy {h:Hp} {s:Str} {E:List Int} (S:SL h) (X:EX h E) (hs:hasN h s=true) (hnm:isNm s=true):
 EX (iz h s).1 E/\SL (iz h s).1/\(iz h s).2∈(iz h s).1.slots/\(iz h s).1.names=h.names/\asm (iz h s).1 3 (iz h s).2=asm h 3 (slotD h s)/\((iz h s).1.copies=h.copies\/(iz h s).1.copies=wrap64 (h.copies+1))/\
  (∀(d:Nat) (y:Int),FP h d y->0<(celD (iz h s).1 y).count->FP (iz h s).1 d y/\asm (iz h s).1 d y=asm h d y)/\(GD h->GD (iz h s).1)/\Keeps h (iz h s).1 s/\(∃p:Nat,(iz h s).1.names[p]?=some s/\(iz h s).1.slots[p]?=some (iz h s).2)/\(iz h s).1.copies=(if (celD h (slotD h s)).count=1 then h.copies else wrap64 (h.copies+1)):=by
 have hi:0<=ix h.names s 0:=by simpa [hasN]using hs
 obtain⟨p,hp⟩:=bQ hi;have hg:=(pY h.names s 0).2;have hl:=S.l;have mD:p<h.slots.length:=dP;have X4:slotD h s=h.slots[p]:=wi;have XT:slotD h s∈h.slots:=by rw[X4];exact dA _
 obtain⟨hF,hV⟩:=S.f _ XT;by_cases h1:(celD h (slotD h s)).count=1
 ·have e:iz h s=(h,slotD h s):=by unfold iz;rw[aN h1]
  rw[e];exact⟨X,S,XT,rfl,rfl,.inl rfl,λd y hy _=>⟨hy,rfl⟩,λG=>G,Keeps.refl S,⟨p,Nr (i:=0) (by show ix h.names s 0=_;omega),by rw[X4];exact aw mD⟩,by rw[aN h1]⟩
 ·have e:iz h s=({fd (ownH h s).1 s (ownH h s).2 with copies:=wrap64 (h.copies+1)},(ownH h s).2):=by unfold iz;rw[aH h1]
  rw[e];obtain⟨i1,i2⟩:=QW (celD h (slotD h s)).parts h E X (λq hq=>X.part hq);have X1:EX (ownH h s).1 ((ownH h s).2::E):=QI (c:=⟨1,(celD h (slotD h s)).value,(celD h (slotD h s)).parts⟩) i1 rfl (X.v _);have K1:KU h (ownH h s).1:=i2.trans (CP _ _);obtain⟨n,t1,t2,t3,t4,t5⟩:=qG ((celD h (slotD h s)).parts.foldl incS h) ⟨1,(celD h (slotD h s)).value,(celD h (slotD h s)).parts⟩;have m1:=nX tX (celD h (slotD h s)).parts h;have m2:=qd ((celD h (slotD h s)).parts.foldl incS h) ⟨1,(celD h (slotD h s)).value,(celD h (slotD h s)).parts⟩;have e1:(ownH h s).1.names=h.names:=m2.1.trans m1.1;have e2:(ownH h s).1.slots=h.slots:=m2.2.1.trans m1.2.1;have S1:SL (ownH h s).1:=S.ku K1 e1 e2;have hcn:celD (ownH h s).1 (ownH h s).2=⟨1,(celD h (slotD h s)).value,(celD h (slotD h s)).parts⟩:=by have:=t4 (n:Int);rw[aN rfl]at this;rw[show (ownH h s).2=(n:Int) from t1];exact this
  have hFA:FP (ownH h s).1 3 (ownH h s).2/\asm (ownH h s).1 3 (ownH h s).2=asm h 3 (slotD h s):=by rw[FP]at hF;rw[FP,asm,asm,hcn];refine⟨⟨by show (0:Int)<1;omega,hF.2.1,λq hq=>(qX K1 (hF.2.2 q hq)).1⟩,?_⟩;show ({(celD h (slotD h s)).value with parts:=(celD h (slotD h s)).parts.map (asm (ownH h s).1 2)}:Vec)=_;rw[cT λq hq=>(qX K1 (hF.2.2 q hq)).2]
  obtain⟨b1,b2,b3,b4,b5⟩:=LF S1 X1 hnm hFA.1 (by rw[hFA.2];exact hV);have hin:(ownH h s).2∈(fd (ownH h s).1 s (ownH h s).2).slots/\(fd (ownH h s).1 s (ownH h s).2).names=h.names:=by
   rcases b5 with ⟨p',q1,q2,q3,q4⟩|⟨q1,q2,q3⟩
   ·exact⟨by rw[q4];exact dB.2 ⟨p',by rw[abg q2]⟩,q3.trans e1⟩
   ·rw[e1]at q1;omega
  have hu:=b1.slot hin.1;have hA:=Dx b3 b1 hFA.1 hu;refine⟨RY b1 _,S8 b2 _,hin.1,hin.2,?_,.inr rfl,λd y hy hc=>?_,λG=>R2 (GD.kv (Rs (QV _ h E X (λq hq=>X.part hq) G) hFA.1) b3 b1) _,λi nm hi=>?_,?_,by rw[aH h1]⟩
  ·exact(nY _).2.trans (hA.2.trans hFA.2)
  ·obtain⟨r1,r2⟩:=qX K1 hy;obtain⟨r3,r4⟩:=Dx b3 b1 r1 hc;exact⟨(nY _).1.2 r3,(nY _).2.trans (r4.trans r2)⟩
  ·obtain⟨k1,k2⟩:=acE S K1 e1 e2 X1 hnm hFA.1 (by rw[hFA.2];exact hV) i nm hi;refine⟨k1,λjC=>?_⟩;obtain⟨y,y',c1,c2,c3⟩:=k2 jC;exact⟨y,y',c1,c2,(nY _).2.trans c3⟩
  ·rcases b5 with ⟨p',q1,q2,q3,q4⟩|⟨q1,q2,q3⟩
   ·exact⟨p',by show (fd (ownH h s).1 s (ownH h s).2).names[p']?=_;rw[q3];exact Nr (i:=0) dP,by show (fd (ownH h s).1 s (ownH h s).2).slots[p']?=_;rw[q4];exact abg q2⟩
   ·rw[e1]at q1;omega
theorem Jl {h:Hp} {c:Int} (h0:0<=h.copies) (h1:h.copies<=1000) (e:c=h.copies\/c=wrap64 (h.copies+1)):0<=c/\c<=h.copies+1:=by
 rcases e with e|e
 ·omega
 ·rw[e];unfold wrap64;omega
theorem P8 {g:Hp} {k:Nat} {x:Cel} (S:SL g) (hk:k<g.cells.length) (hn:∀c,(k:Int) ∉ (celD g c).parts) (hf:FP (eG g k x) 3 (k:Int)) (hv:isVec (asm (eG g k x) 3 (k:Int))=true):SL (eG g k x):=by
 refine⟨S.l,S.n,λy hy=>?_⟩;by_cases e:y=(k:Int)
 ·rw[e];exact⟨hf,hv⟩
 ·obtain⟨a,b⟩:=S.f y hy;obtain⟨c,d⟩:=ve (x:=x) hk hn e a;exact⟨c,by rw[d];exact b⟩
theorem DE {h:Hp} (hk:fG h=true):0<=h.copies:=yI
theorem TZ {h h1:Hp} {nm:Str} {v:Vec} {k:Int} (hk:fG h=true) (hz:szD h.toD<=4194304) (hnm:isNm nm=true) (hv:isVec v=true) (e:fL 4 h v=(h1,k)):fG (fd h1 nm k)=true/\(fd h1 nm k).copies=h.copies/\(GD h->GD (fd h1 nm k))/\Keeps h (fd h1 nm k) nm:=by have ZJ:=(i6 hv).1;obtain⟨f1,f2,f3,f4,f5⟩:=EC 4 h v (Bz hk hz);have X:=Uc 4 3 h v [] ZJ dP (EX.of hk);have S:=(SL.of hk).ku (VG 4 h v) f3 f4;obtain⟨a,b⟩:=Pl 4 3 h v ZJ dP;have P:=VF 4 3 h v ZJ dP dP;have Kp:=acE (SL.of hk) (VG 4 h v) f3 f4 X hnm a (by rw[b];exact hv);rw[e]at X S a b f5 P Kp;obtain⟨b1,b2,b3,b4,b5⟩:=LF S X hnm a (by rw[b];exact hv);have b4':(fd h1 nm k).copies=h.copies:=b4.trans f5;exact⟨rj b1 b2 (by rw[b4'];exact DE hk),b4',λG=>GD.kv (P G) b3 b1,Kp⟩
theorem S7 {h:Hp} {nm:Str} {j:Nat} {y:Cel} (hk:fG h=true) (hnm:isNm nm=true) (hj:h.cells[j]?=some y) (Wz:(j:Int)∈h.slots):fG (fd (eG h j (gE y)) nm (j:Int))=true/\(fd (eG h j (gE y)) nm (j:Int)).copies=h.copies/\(GD h->GD (fd (eG h j (gE y)) nm (j:Int)))/\Keeps h (fd (eG h j (gE y)) nm (j:Int)) nm:=by
 have S0:=SL.of hk;have X0:=EX.of hk;have hcj:celD h (j:Int)=y:=iI hj;have Pr:eG h j (gE y)=incS h (j:Int):=by unfold incS;rw[hcj,aU]
 obtain⟨X1,K1⟩:=DV9 X0 (X0.slot Wz);have P:=PE X0 (X0.slot Wz);rw[<-Pr]at X1 K1 P;obtain⟨a,b⟩:=S0.f _ Wz;obtain⟨c,d⟩:=qX K1 a;obtain⟨b1,b2,b3,b4,b5⟩:=LF (S0.ku K1 rfl rfl) X1 hnm c (by rw[d];exact b);have b4':(fd (eG h j (gE y)) nm (j:Int)).copies=h.copies:=b4;exact⟨rj b1 b2 (by rw[b4'];exact DE hk),b4',λG=>GD.kv (P G) b3 b1,acE S0 K1 rfl rfl X1 hnm c (by rw[d];exact b)⟩
theorem Pm {g:Hp} {k:Nat} {x:Cel} (G:GD g) (hk:k<g.cells.length) (hn:∀c,(k:Int) ∉ (celD g c).parts) (hf:FP (eG g k x) 3 (k:Int)):GD (eG g k x):=λy hy=>by
 by_cases e:y=(k:Int)
 ·rw[e];exact hf
 ·rw[fQ hk,aH e]at hy;exact(ve hk hn e (G y hy)).1
theorem Y0 {h:Hp} {nm:Str} {rv:Vec} {k:Nat} {x2:Cel} (hk:fG h=true) (hn:hasN h nm=true) (hnm:isNm nm=true) (o1:(iz h nm).2=(k:Int)) (o2:(iz h nm).1.cells[k]?=some x2) (o3:x2.count=1) (hp:x2.parts=[]) (hv:isVec rv=true) (xR:rv.parts=[]) (hc:h.copies<=1000):
 fG (eG (iz h nm).1 k (⟨x2.count,rv,x2.parts⟩:Cel))=true/\(eG (iz h nm).1 k (⟨x2.count,rv,x2.parts⟩:Cel)).copies<=h.copies+1/\(GD h->GD (eG (iz h nm).1 k (⟨x2.count,rv,x2.parts⟩:Cel)))/\Keeps h (eG (iz h nm).1 k (⟨x2.count,rv,x2.parts⟩:Cel)) nm/\(eG (iz h nm).1 k (⟨x2.count,rv,x2.parts⟩:Cel)).copies=h.copies+(if (celD h (slotD h nm)).count=1 then 0 else 1):=by
 have h0:0<=h.copies:=yI;obtain⟨w1,w2,w3,w4,w5,w6,w7,w8,w9,wp,wc⟩:=Vy (SL.of hk) (EX.of hk) hn hnm;obtain⟨c1,c2⟩:=Jl h0 hc w6;have Ch:=(ay.1 o2).1;have ld:=iI o2;rw[o1]at w3 wp;obtain⟨s1,s2⟩:=aeV w1 ab6 w3;have L9:celD (eG (iz h nm).1 k (⟨x2.count,rv,x2.parts⟩:Cel)) (k:Int)=⟨x2.count,rv,x2.parts⟩:=wE;have Zs:FP (eG (iz h nm).1 k (⟨x2.count,rv,x2.parts⟩:Cel)) 3 (k:Int):=by rw[FP,L9];exact⟨by show 0<x2.count;omega,.inl hp,λp Mb=>by rw[show (⟨x2.count,rv,x2.parts⟩:Cel).parts=[] from hp]at Mb;simp at Mb⟩
 refine⟨rj (AO w1 Ch (λj=>?_) xR (λe=>?_)) (P8 w2 Ch s1 Zs ?_) c1,c2,λG=>Pm (w8 G) Ch s1 Zs,acJ w9 w1 w2 Ch ab6 s1 wp,?_⟩
 ·rw[ld];simp
 ·have e:x2.count=0:=e;omega
 ·rw[asm,L9];show isVec {rv with parts:=x2.parts.map _}=true;rw[hp,bL];have:noParts rv=rv:=qE xR;exact this ▸ hv
 ·show (iz h nm).1.copies=_;rw[wc];by_cases e1:(celD h (slotD h nm)).count=1
  ·rw[aN e1,aN e1];omega
  ·rw[aH e1,aH e1];unfold wrap64;omega
theorem YD {h:Hp} {nm fr:Str} {j k q:Nat} {y' x2:Cel} {va:Vec} (hk:fG h=true) (hn:hasN h nm=true) (hnm:isNm nm=true) (hj:h.cells[j]?=some y') (Wz:(j:Int)∈h.slots) (hva:asm h 3 (slotD h nm)=va) (h4:va.kind=4) (Tw:1<=fr.length)
 (o1:(iz (eG h j (gE y')) nm).2=(k:Int)) (o2:(iz (eG h j (gE y')) nm).1.cells[k]?=some x2) (o3:x2.count=1) (hq:pu va.names va.parts.length fr=((q+1:Nat):Int)) (hv:isVec (gZ (mV va.parts (gA va.names va.parts.length) va.cls [] q fr (asm h 3 (j:Int))))=true) (hc:h.copies<=1000):
 fG (if 0<=ix x2.value.names fr 0 then iD 5 (eG (iz (eG h j (gE y')) nm).1 k (tb x2 (ix x2.value.names fr 0).toNat (j:Int))) ((x2.parts[(ix x2.value.names fr 0).toNat]?).getD 0) else eG (iz (eG h j (gE y')) nm).1 k (qb x2 fr (j:Int)))=true/\
  (if 0<=ix x2.value.names fr 0 then iD 5 (eG (iz (eG h j (gE y')) nm).1 k (tb x2 (ix x2.value.names fr 0).toNat (j:Int))) ((x2.parts[(ix x2.value.names fr 0).toNat]?).getD 0) else eG (iz (eG h j (gE y')) nm).1 k (qb x2 fr (j:Int))).copies<=h.copies+1/\
  (GD h->GD (if 0<=ix x2.value.names fr 0 then iD 5 (eG (iz (eG h j (gE y')) nm).1 k (tb x2 (ix x2.value.names fr 0).toNat (j:Int))) ((x2.parts[(ix x2.value.names fr 0).toNat]?).getD 0) else eG (iz (eG h j (gE y')) nm).1 k (qb x2 fr (j:Int))))/\Keeps h (if 0<=ix x2.value.names fr 0 then iD 5 (eG (iz (eG h j (gE y')) nm).1 k (tb x2 (ix x2.value.names fr 0).toNat (j:Int))) ((x2.parts[(ix x2.value.names fr 0).toNat]?).getD 0) else eG (iz (eG h j (gE y')) nm).1 k (qb x2 fr (j:Int))) nm:=by
 have h0:0<=h.copies:=yI;have S0:=SL.of hk;have X0:=EX.of hk;have hcj:celD h (j:Int)=y':=iI hj;have Pr:eG h j (gE y')=incS h (j:Int):=by unfold incS;rw[hcj,aU]
 obtain⟨X1,K1⟩:=DV9 X0 (X0.slot Wz);have P:=PE X0 (X0.slot Wz);rw[<-Pr]at X1 K1 P;have S1:SL (eG h j (gE y')):=S0.ku K1 rfl rfl;have X4:slotD (eG h j (gE y')) nm=slotD h nm:=rfl;obtain⟨w1,w2,w3,w4,w5,w6,w7,w8,wk,wp,-⟩:=Vy S1 X1 (show hasN (eG h j (gE y')) nm=true from hn) hnm;obtain⟨c1,c2⟩:=Jl (h:=eG h j (gE y')) h0 hc w6;replace c2:(iz (eG h j (gE y')) nm).1.copies<=h.copies+1:=c2;have XT:slotD h nm∈h.slots:=by
  have hi:0<=ix h.names nm 0:=by simpa [hasN]using hn
  obtain⟨p,hp⟩:=bQ hi;have hg:=(pY h.names nm 0).2;have hl:=S0.l;have mD:p<h.slots.length:=dP;have:slotD h nm=h.slots[p]:=wi;rw[this];exact dA _
 have UL:asm (iz (eG h j (gE y')) nm).1 3 (k:Int)=va:=by rw[<-o1,w5,X4,(qX K1 (S0.f _ XT).1).2,hva]
 have Ch:=(ay.1 o2).1;have ld:=iI o2;rw[o1]at w3 wp;replace wk:=adI S0 K1 rfl rfl wk;obtain⟨s1,s2⟩:=aeV w1 ab6 w3;have hjk:¬(j:Int)=(k:Int):=λe=>s2 (by rw[<-e];exact aT);have hFj:=w7 3 (j:Int) (qX K1 (S0.f _ Wz).1).1 (w1.out aT);rw[(qX K1 (S0.f _ Wz).1).2]at hFj;have hF:=(w2.f _ w3).1;have w9:GD h->GD (iz (eG h j (gE y')) nm).1:=λG=>w8 (P G);clear w8 P;generalize (iz (eG h j (gE y')) nm).1=g at*;have hok:=(i6 hv).1;have XW:okD 2 (asm h 3 (j:Int))=true:=by obtain⟨d',e1,e2⟩:=(n7 hok).1 (asm h 3 (j:Int)) NO;obtain rfl:d'=2:=dP;exact e2
 have hJ:=Ui w1 (d:=2) hFj.1 (by rw[hFj.2];exact XW) dP;rw[hFj.2]at hJ;have hF':=hF;rw[FP,ld]at hF';have ea:({x2.value with parts:=x2.parts.map (asm g 2)}:Vec)=va:=by rw[<-UL,asm,ld]
 have hvV:isVec va=true:=by rw[<-UL];exact(w2.f _ w3).2
 obtain⟨OC,-⟩:=rm hvV h4;have f1:va.parts=x2.parts.map (asm g 2):=by rw[<-ea]
 have f2:va.names=x2.value.names:=by rw[<-ea]
 have f3:va.cls=x2.value.cls:=by rw[<-ea]
 have f4:x2.value.items=[]:=by have:va.items=x2.value.items:=(by rw[<-ea]);rw[<-this,OC]
 have f5:x2.value.levels=[]:=by have:va.levels=x2.value.levels:=(by rw[<-ea]);rw[<-this,OC]
 have f6:x2.value.code=0/\x2.value.env=0:=by
  have a:va.code=x2.value.code:=by rw[<-ea]
  have b:va.env=x2.value.env:=by rw[<-ea]
  rw[<-a,<-b,OC];exact⟨rfl,rfl⟩
 have f7:va.parts.length=x2.parts.length:=by rw[f1,au]
 have f8:x2.value.parts=[]:=by have:=w1.v (k:Int);rw[ld]at this;exact this
 have f9:x2.value.kind=4:=by have:va.kind=x2.value.kind:=(by rw[<-ea]);rw[<-this];exact h4
 have L:LV va.parts va.names va.cls:=LV.of (by rw[<-OC];exact hvV);obtain⟨p1,p2⟩:=VE (cls:=va.cls) (x:=asm h 3 (j:Int)) L.n Tw hq;have hO:∀(x:Cel) (p:Int),p∈x2.parts->FP (eG g k x) 2 p/\asm (eG g k x) 2 p=asm g 2 p:=λx p hp=>ve Ch s1 (λe=>s1 (k:Int) (by rw[ld];exact e ▸ hp)) (hF'.2.2 p hp);have hOj:∀x:Cel,FP (eG g k x) 2 (j:Int)/\asm (eG g k x) 2 (j:Int)=asm h 3 (j:Int):=λx=>by obtain⟨a,b⟩:=ve (x:=x) Ch s1 hjk hJ.1;exact⟨a,b.trans hJ.2⟩
 have F:=jf hv;by_cases hi:0<=ix x2.value.names fr 0
 ·obtain⟨m,hm⟩:=bQ hi;rw[aN hi,hm,aU];obtain⟨m1,m2⟩:=p2 m (by rw[f2];exact hm);rw[m2]at hv F;have hml:m<x2.parts.length:=dP;rw[aw hml,bV];have xy:tb x2 m (j:Int)=(⟨x2.count,x2.value,x2.parts.set m (j:Int)⟩:Cel):=by unfold tb;rw[Z2 f9]
  rw[xy];have L9:celD (eG g k (⟨x2.count,x2.value,x2.parts.set m (j:Int)⟩:Cel)) (k:Int)=⟨x2.count,x2.value,x2.parts.set m (j:Int)⟩:=wE;have hch:∀p∈x2.parts.set m (j:Int),FP (eG g k (⟨x2.count,x2.value,x2.parts.set m (j:Int)⟩:Cel)) 2 p:=λp hp=>by
   rcases List.mem_or_eq_of_mem_set hp with h1|h1
   ·exact(hO _ p h1).1
   ·rw[h1];exact(hOj _).1
  have Y:EX (eG g k (⟨x2.count,x2.value,x2.parts.set m (j:Int)⟩:Cel)) [x2.parts[m]]:=AO w1 Ch (λi=>by have:=Dr x2.parts m (j:Int) i hml;rw[ld];show (if i=(k:Int) then x2.count - x2.count else 0)+((x2.parts.count i+[(j:Int)].count i:Nat):Int)=(((x2.parts.set m (j:Int)).count i+[x2.parts[m]].count i:Nat):Int);split<;>omega) f8 (λe=>by have e:x2.count=0:=e;omega)
  have Zs:FP (eG g k (⟨x2.count,x2.value,x2.parts.set m (j:Int)⟩:Cel)) 3 (k:Int):=by rw[FP,L9];exact⟨by show 0<x2.count;omega,.inr ⟨f9,by show (x2.parts.set m _).length<=40;rw[da,<-f7];exact L.l⟩,hch⟩
  have T:SL (eG g k (⟨x2.count,x2.value,x2.parts.set m (j:Int)⟩:Cel)):=by
   refine P8 w2 Ch s1 Zs ?_
   ·rw[asm,L9];have e1:(x2.parts.set m (j:Int)).map (asm (eG g k (⟨x2.count,x2.value,x2.parts.set m (j:Int)⟩:Cel)) 2)=va.parts.set m (asm h 3 (j:Int)):=by rw[dH,(hOj _).2,f1,cT λp hp=>(hO _ p hp).2]
    show isVec ⟨x2.value.kind,x2.value.items,(x2.parts.set m (j:Int)).map _,x2.value.names,x2.value.cls,x2.value.levels,x2.value.code,x2.value.env⟩=true;rw[e1,f4,f5,f6.1,f6.2,f9,<-f2,<-f3];exact hv
  have QO:=OP (hO (⟨x2.count,x2.value,x2.parts.set m (j:Int)⟩:Cel) x2.parts[m] (dA hml)).1;obtain⟨r1,r2⟩:=Ph 5 2 _ _ [] QO dP Y;obtain⟨n1,n2,n3⟩:=ug 5 (eG g k (⟨x2.count,x2.value,x2.parts.set m (j:Int)⟩:Cel)) x2.parts[m];refine⟨rj r1 ⟨by rw[n1,n2];exact T.l,λi s=>by rw[n1];exact T.n i s,λy hy=>?_⟩ (by rw[n3];exact c1),by rw[n3];exact c2,λG=>GD.kv (Pm (w9 G) Ch s1 Zs) r2 r1,ads (acJ wk w1 w2 Ch ab6 s1 wp) (λy hy=>(T.f y hy).1) r2 r1 n1 n2⟩;have hu:=r1.slot hy;rw[n2]at hy;obtain⟨a,b⟩:=T.f y hy;obtain⟨c,d⟩:=Dx r2 r1 a hu;exact⟨c,by rw[d];exact b⟩
 ·rw[aH hi];have m2:=p1 (by rw[f2];omega);rw[m2]at hv F;have L9:celD (eG g k (qb x2 fr (j:Int))) (k:Int)=qb x2 fr (j:Int):=wE;have e0:(qb x2 fr (j:Int)).parts=x2.parts++[(j:Int)]:=rfl;have Zs:FP (eG g k (qb x2 fr (j:Int))) 3 (k:Int):=by
   rw[FP,L9,e0];have hl:=F.len;simp only[bf,aY,bt]at hl;refine⟨by show 0<x2.count;omega,.inr ⟨rfl,by rw[aY,bt];omega⟩,λp hp=>?_⟩;rcases aG.1 hp with h1|h1
   ·exact(hO _ p h1).1
   ·obtain rfl:p=(j:Int):=mt;exact(hOj _).1
  refine⟨rj (AO w1 Ch (λi=>?_) f8 (λe=>?_)) (P8 w2 Ch s1 Zs ?_) c1,c2,λG=>Pm (w9 G) Ch s1 Zs,acJ wk w1 w2 Ch ab6 s1 wp⟩
  ·rw[ld,e0,bT];show (if i=(k:Int) then x2.count - x2.count else 0)+_=_;simp
  ·have e:x2.count=0:=e;omega
  ·rw[asm,L9,e0];have e1:(x2.parts++[(j:Int)]).map (asm (eG g k (qb x2 fr (j:Int))) 2)=va.parts++[asm h 3 (j:Int)]:=by rw[aI,br,bL,(hOj _).2,f1,cT λp hp=>(hO _ p hp).2]
   rw[e1];show isVec ⟨4,x2.value.items,va.parts++[asm h 3 (j:Int)],gA x2.value.names x2.parts.length++[fr],x2.value.cls,x2.value.levels,x2.value.code,x2.value.env⟩=true;rw[f4,f5,f6.1,f6.2,<-f2,<-f3,<-f7];exact hv
theorem acX:∀{l:List Str} {s:Str} {i j:Nat},l[j]?=some s->ix l s i<=((i+j:Nat):Int)
 |[],s,i,j,h=>by simp at h
 |e::t,s,i,j,h=>by
  rw[ix];split
  ·omega
  ·next he=>
   cases j with
   |zero=>simp at h;exact absurd h he
   |succ j=>
    have:=acX (i:=i+1) (show t[j]?=some s by simpa using h);omega
theorem abG {h:Hp} (S:SL h) {i:Nat} {s:Str} (hs:h.names[i]?=some s):ix h.names s 0=(i:Int):=by have h1:=acX (i:=0) hs;have h2:=aew hs;have h3:=(S.n i s hs).2;unfold R6 at h2;rw[h3]at h2;simp at h2;omega
open Go.ChangeShapes Go.WideShapes Go.Deep Go.RowKit
theorem acy {z:Int} (h:(Lit.int .u8 z).wf=true):z=((UInt8.ofNat z.toNat).toNat:Int):=by
 have hx:0<=z/\z<=255:=by simpa [Lit.wf,IntKind.min,IntKind.max,IntKind.signed,IntKind.bits]using h
 rw[UInt8.toNat_ofNat_of_lt' (by show z.toNat<256;omega)];omega
theorem abB {H:Type} {enc:TypeId × Value->H} {P:Program} {w:World} {base:Nat} {V0:Nat->Bool} {abd:Bool} {t e:TypeId} {A:Option Addr} {len cap:Nat} {d:DataW H} {p:List MemPlace} (ht:P.underlying t=some (.slice e)) (he:P.underlying e=some (.int .u8)) (hC:P.cellsOf e=1)
 (h:DataW.Trod enc P w base V0 abd t (.slice A len cap) d p):∃l:List UInt8,Reads zq 1 w w.heap.size A len l/\len<=maxLen:=by
 obtain⟨mS,hf⟩:=h;rcases open_ints ht he hC hf with ⟨lK,_⟩|⟨a,Ef,aaJ,zs,lK,_,hl,hm,hz,_,zd,hwz⟩
 ·simp [Value.cells]at lK;obtain⟨rfl,rfl,rfl⟩:=lK;exact⟨[],Reads.nil_,by unfold maxLen;omega⟩
 ·simp [Value.cells]at lK;obtain⟨rfl,rfl,rfl⟩:=lK;have hlz:len<=zs.length:=by rw[hz];split<;>omega
  refine⟨(zs.take len).map λz=>UInt8.ofNat z.toNat,⟨by simp;omega,λhn=>?_⟩,by omega⟩;obtain⟨b,off,rfl,hb⟩:=O1 (zd 0 dP);refine⟨b,off,rfl,hb,λk x j u hx hu=>?_⟩;have hk:k<len:=by have:=(ay.1 hx).1;simp at this;omega
  match j,hu with
  |j+1,hu=>simp [zq]at hu
  |0,hu=>
   simp [zq]at hu;subst hu;have hc:=zd k dP;rw[Ja]at hc;rw[cu,cF,hc];have hzk:zs[k]?=some zs[k]:=aw dP;rw[cg,List.getElem?_take,aN hk,hzk]at hx;simp at hx;subst hx;rw[List.getD_eq_getElem?_getD,hzk];simp only[bV];have:=acy (hwz _ (aA hzk));rw[<-this]
end Go.Proofs.YtekcpadlmfaihaaGreat
