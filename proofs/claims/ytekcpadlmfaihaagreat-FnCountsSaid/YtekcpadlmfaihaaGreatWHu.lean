/- l4Clean. -/
import Derived.Test.YtekcpadlmfaihaaGreatWHe
import Derived.Test.YtekcpadlmfaihaaGreatWMeg
import Derived.Test.YtekcpadlmfaihaaGreatWLh
import Derived.Test.YtekcpadlmfaihaaGreatWJd
import Derived.Test.YtekcpadlmfaihaaGreatWDtCell
namespace Go.Proofs.YtekcpadlmfaihaaGreat
open Go.RowKit Proofs.Tryz
set_option maxHeartbeats 8000000
set_option maxRecDepth 100000
set_option linter.unusedSimpArgs false
set_option linter.unusedVariables false
variable {h h':Hp} {R:List As} {F X:List Nat} {l ns:List Str} {cs:List Value} {g n:Nat} {nm x:Str} {w w0:World}
theorem RF (h:lR l=true) (hx:x=[]):lR (l++[x])=true:=by unfold lR at*;simp [h,hx]
theorem KC {j:Nat} (h:l[j]?=some x) (hx:¬x=[]):lR l=false:=by unfold lR;rw[List.all_eq_false];exact⟨x,aA h,by cases x<;>simp_all⟩
theorem aaL (v:Vec) (Ai:Option Addr) (ci:Nat) (Ap:Option Addr) (cp:Nat) (An:Option Addr) (cn:Nat) (Ac:Option Addr) (cc:Nat) (Al:Option Addr) (cl:Nat) (w:World) (rn:rep w w.heap.size (.sl (v.names.map .s)) [.slice An v.names.length cn]):
 Calls prog 125 #[.agg #[v.kind,.slice Ai v.items.length ci,.slice Ap v.parts.length cp,.slice An v.names.length cn,.slice Ac v.cls.length cc,.slice Al v.levels.length cl,v.code,v.env]] w λe w'=>(lR v.names=false/\e= .returned (.agg #[v.kind,.slice Ai v.items.length ci,.slice Ap v.parts.length cp,.slice An v.names.length cn,.slice Ac v.cls.length cc,.slice Al v.levels.length cl,v.code,v.env])/\Below w.heap.size w w')\/
  (lR v.names=true/\∃A c F,e= .returned (.agg #[v.kind,.slice Ai v.items.length ci,.slice Ap v.parts.length cp,.slice A 0 c,.slice Ac v.cls.length cc,.slice Al v.levels.length cl,v.code,v.env])/\own prog w' (.sl []) 25 F [.slice A 0 c]/\Fresh w.heap.size F/\Below w.heap.size w w'):=by
 obtain⟨_,_,_,he,-,-,Nj,OE⟩:=(ls _ _ _ _).1 rn;injection he with he;injection he with e1 e2 e3;subst e1 e2 e3
 have hnm:(v.names.length:Int)<=9223372036854775807:=by have q:=(ef rn).2;unfold maxLen at q;omega
 have M:Mem prog w [] w []:=Mem.start;go_enter func125,ntmps125;refine Sq (Sa M (λJ1 wv M=>?_));refine Sa M (λJ2 wv M=>Sz (ae ?_));refine Ra M [] (aJ ?_);refine fy (ι:=Nat) [4,5,6,7,8,9,10,11,12,13,14,15,16,17] (λj=>[(3,.int .i64 (j:Nat))]) (λj=>j<=v.names.length/\lR (v.names.take j)=true) (λj=>[.bk (J2.b) 38 [.int .i64 0,(),(),(),(),(),.int .i64 0,.int .i64 0],.bk (J1.b) 38 [v.kind,.slice Ai v.items.length ci,.slice Ap v.parts.length cp,.slice An v.names.length cn,.slice Ac v.cls.length cc,.slice Al v.levels.length cl,v.code,v.env]]) (λj=>v.names.length - j) (0) (by simp [lR]) (M) ?_;rintro j Mf W1 K1 h1 M rH;try dsimp only at h1 M ⊢
 refine uM ?_;have HA:=aa h1.2;replace h1:=h1.1;refine ae (Ra M [1] ?_);refine lW (λhlt=>?_) (λhlt=>?_)
 ·rw[hlt];replace hlt:=aa hlt;have hlj:j<v.names.length:=v2;obtain⟨b,off,x,hAn,gD,hx,c0⟩:=Nj.atS hlj;subst hAn;replace hx:=aa hx;have j0:(0:Int)<=(j:Int):=dP;have j1:(j:Int)<(v.names.length:Int):=dP;refine bd (dV (ae (aJ (Sq (Sb M [1] 4 ?_)))));refine Sf (show W1.cell? ⟨b,off+j,none⟩=some (sv x) from (M.bel.cell gD).trans c0) ?_;refine Sb M [] 1 (Sz ?_);refine lW (λjC=>?_) (λjC=>?_)
  ·rw[jC];replace jC:=aa jC;refine Sq (Sb M [1] 1 ?_);refine Ss M 0 (λwv M=>Sz (aO (xt (fI (fI (xt (fI ?_)))))));refine kN results125 M 0 ?_;exact .inl ⟨KC hx.out n_,rfl,M.bel⟩
  ·rw[jC];replace jC:=aa jC;refine bd (fA (dV (Rb M [] (dV ?_))));exact rH (j+1) _ _ dU (⟨by omega,by rw[eJ hx.out];exact RF HA.out n_⟩) (by(try dsimp only);omega) (M.sel [0,1] dQ)
 ·rw[hlt];replace hlt:=aa hlt;obtain rfl:j=v.names.length:=ko;refine bo (es (es (fT (dV (Sq (Se M underlying25 (λJ3 wv M=>?_)))))));refine Sb M [] 1 ?_;refine Ss M 2 (λwv M=>Sz (Sq ?_));refine Sb M [2] 1 ?_;refine Ss M 1 (λwv M=>Sz (aO ?_));refine kN results125 M 1 ?_;have HB:=HA.out;rw[cC]at HB;obtain⟨F,f1,f2,f3⟩:=(M.sel [0] dQ).fin;exact .inr ⟨HB,_,_,F,rfl,f1,f2,f3⟩
theorem sO {r rv:Vec} (M:Mem prog w0 X w (.ow r.toD 38 cs::R)) (he:gZ r=rv) (wk:(Lit.int .i64 r.kind).wf=true) (wc:(Lit.int .i64 r.code).wf=true) (we:(Lit.int .i64 r.env).wf=true):Calls prog 125 #[av cs] w λe w'=>∃(Ai:Option Addr) (ci:Nat) (Ap:Option Addr) (cp:Nat) (An:Option Addr) (cn:Nat) (Ac:Option Addr) (cc:Nat) (Al:Option Addr) (cl:Nat),e= .returned (.agg #[rv.kind,.slice Ai rv.items.length ci,.slice Ap rv.parts.length cp,.slice An rv.names.length cn,.slice Ac rv.cls.length cc,.slice Al rv.levels.length cl,rv.code,rv.env])/\Mem prog w0 X w' (.ow rv.toD 38 [rv.kind,.slice Ai rv.items.length ci,.slice Ap rv.parts.length cp,.slice An rv.names.length cn,.slice Ac rv.cls.length cc,.slice Al rv.levels.length cl,rv.code,rv.env]::R):=by
 have hr:=M.rp 0 rfl;obtain⟨Ai,ci,Ap,cp,An,cn,Ac,cc,Al,cl,rfl,-,-,-,rn,-,-,-,-⟩:=d_ hr;refine(aaL r Ai ci Ap cp An cn Ac cc Al cl w rn).mono ?_;rintro e w' (⟨ha,rfl,hb⟩|⟨ha,A,c,F,rfl,ho,hf,hb⟩)
 ·obtain rfl:r=rv:=by rw[<-he];unfold gZ;rw[ha];rfl
  exact⟨_,_,_,_,_,_,_,_,_,_,rfl,M.next hb⟩
 ·obtain rfl:{r with names:=[]}=rv:=by rw[<-he];unfold gZ;rw[ha];rfl
  have M1:=M.gain ho hf hb;obtain⟨Bi,ni,bi,Bp,np,bp,Bn,nn,bn,Bc,nc,bc,Bl,nl,bl,hc,M2⟩:=(M1.pull 1 rfl).openVec;simp only[bF,bG,dy,cO]at hc;obtain⟨⟨rfl,rfl,rfl⟩,⟨rfl,rfl,rfl⟩,⟨rfl,rfl,rfl⟩,⟨rfl,rfl,rfl⟩,rfl,rfl,rfl⟩:=hc;have M3:=((M2.pull 2 rfl).drop.pull 4 rfl).pull 2 rfl |>.pull 2 rfl
  exact⟨_,_,_,_,_,_,_,_,_,_,rfl,Mem.joinVec (v:={r with names:=[]}) M3 wk wc we⟩
section
variable {w0 w w':World} {X:List Nat} {A:Option Addr} {n c g:Nat} {V0 V1:Value} {R:List As} {f:Nat} {args:Array Value} {Ψ:Ending->World->Prop} {d:D} {t:TypeId} {F:List Nat} {cs:List Value} {K:Nat}
theorem Mem.drOwn (M:Mem prog w0 X w (.bk g 122 [.slice A n c,V0,V1]:: .fa (ti n V0 V1)::R)) (hd:DrA A n c w g w') (ho:own prog w' d t F cs) (hF:Fresh w.heap.size F):∃V2 V3:Value,Mem prog w0 X w' (.bk g 122 [.slice A n c,V2,V3]:: .fa (ti n V2 V3):: .ow d t cs::R):=by
 obtain⟨⟨bs,i,h,B,hk,-,-,h5,h6,-⟩,hg⟩:=hd;refine⟨.int .i64 i,.int .i64 h,Mem.step (C:=[_,_]) (C':=[_,_,_]) M λG hG hn=>?_⟩;have hlt:=wY hG;obtain⟨F1,F2,rfl,⟨rfl,-⟩,s2⟩:=fJ.1 hG;obtain⟨F3,F4,rfl,⟨rfl,-⟩,s3⟩:=fJ.1 s2;rw[Sats]at s3;subst s3;have XK:=hlt g dR;refine⟨g::F,fJ.2 ⟨[g],F,rfl,⟨rfl,hk⟩,fJ.2 ⟨[],F,rfl,⟨rfl,i,h,rfl,rfl,h5,h6⟩,iQ.2 ho⟩⟩,aQ.2 ⟨λhm=>?_,hF.1⟩,λy hy=>?_,by simpa using Gn hg⟩
 ·have:=hF.2 g hm;omega
 ·rcases aX.1 hy with rfl|hy
  ·exact .inl dR
  ·exact .inr (hF.2 y hy)
theorem Hs (hC:Fe w0 X A n g) (M:Mem prog w0 X w (.bk g 122 [.slice A n c,V0,V1]:: .fa (ti n V0 V1)::R)) (hc:CuA A n c w g->Calls prog f args w (DV K A n c w g))
 (hK:∀(x:Gh) w',Mem prog w0 X w' (.bk g 122 [.slice A n c,x.f 0,x.f 1]:: .fa (ti n (x.f 0) (x.f 1)):: .fa (szD x.V.toD<=K):: .ow x.V.toD 38 [x.V.kind,.slice (x.A 1) x.V.items.length (x.C 1),.slice (x.A 2) x.V.parts.length (x.C 2),.slice (x.A 3) x.V.names.length (x.C 3),.slice (x.A 4) x.V.cls.length (x.C 4),.slice (x.A 5) x.V.levels.length (x.C 5),x.V.code,x.V.env]::R)->Ψ (.returned (.agg #[x.V.kind,.slice (x.A 1) x.V.items.length (x.C 1),.slice (x.A 2) x.V.parts.length (x.C 2),.slice (x.A 3) x.V.names.length (x.C 3),.slice (x.A 4) x.V.cls.length (x.C 4),.slice (x.A 5) x.V.levels.length (x.C 5),x.V.code,x.V.env])) w'):Calls prog f args w Ψ:=
 (hc (M.cua hC)).mono λe w' q=>by
  obtain⟨v,cs,F,hs,rfl,ho,hF,hd⟩:=q
  let u:Vec:=@Classical.epsilon Vec ⟨zeroV⟩ λz=>z.toD=v.toD
  have hu:u.toD=v.toD:=@Classical.epsilon_spec Vec (λz=>z.toD=v.toD) ⟨v,rfl⟩;rw[<-hu]at ho hs;obtain⟨V2,V3,M'⟩:=M.drOwn hd ho hF;obtain⟨Ai,ci,Ap,cp,An,cn,Ac,cc,Al,cl,rfl⟩:=Mem.vecL (M'.up [2]);exact hK ⟨0,none,0,λk=>[V2,V3].getD k undef,λk=>([none,Ai,Ap,An,Ac,Al]:List (Option Addr)).getD k none,λk=>([0,ci,cp,cn,cc,cl]:List Nat).getD k 0,v.toD⟩ w' ((M'.fact (p:=szD u.toD<=K) hs).perm (List.Perm.trans (List.Perm.swap _ _ _) (List.Perm.cons _ (List.Perm.swap _ _ _))))
end
def pu (ns:List Str) (n:Nat) (nm:Str):Int:=if ix ns nm 0<0 then (n:Int)+1 else ix ns nm 0+1
theorem tq (h:ix ns nm 0<0):pu ns n nm=(n:Int)+1:=by unfold pu;rw[aN h]
theorem tt (h:¬ix ns nm 0<0):pu ns n nm=ix ns nm 0+1:=by unfold pu;rw[aH h]
theorem E8 (n:Nat) (hn:n<=40) (ns:List Str) (hns:ns.length<=40) (nm:Str) (hnm:nm.length<=maxLen) (jC:nm.isEmpty=false) (An:Option Addr) (cn ab ao c:Nat) (w:World) (rn:rep w w.heap.size (.sl (ns.map .s)) [.slice An ns.length cn]) (K7:ab<w.heap.size) (e0:w.cell? ⟨ab,ao,none⟩=some (.int .i64 0)) (e1:w.cell? ⟨ab,ao+1,none⟩=some (.int .i64 1)) (e2:w.cell? ⟨ab,ao+2,none⟩=some (sv nm)):
 Calls prog 183 #[.int .i64 (n:Nat),.slice An ns.length cn,.slice (some ⟨ab,ao,none⟩) 1 c] w (jq [pu ns n nm] [] w):=by
 have HMS:=aa (show eI ⟨0,1,nm⟩=false by simp [eI]);have xQ:=aa (pY ns nm 0);have M:Mem prog w [] w []:=Mem.start;go_enter func183,ntmps183;refine Ra M [] ?_;refine Ra M [] ?_;refine Ra M [] (ae ?_);refine Ra M [] (aJ ?_);refine aZ 2 ?_;refine ez (Ra M [] (ae ?_));refine Hx (ae (aJ (Sq ?_)));refine Sb M [] 1 ?_;refine Sf (show w.cell? ⟨ab,ao,none⟩=some (.int .i64 0)/\w.cell? ⟨ab,ao+1,none⟩=some (.int .i64 1)/\w.cell? ⟨ab,ao+2,none⟩=some (sv nm) from⟨(M.bel.cell K7).trans e0,(M.bel.cell K7).trans e1,(M.bel.cell K7).trans e2⟩) ?_;refine Sa M (λJ1 wv M=>?_);refine Ss M 0 (λwv M=>Sz (ae (Sq ?_)));refine Sb M [0] 1 ?_;refine Sc (aF (kJ ⟨0,1,nm⟩ _) ?_);rintro e w' ⟨rfl,hb⟩;rw[HMS.out];replace M:=M.next hb;refine Sp (Sz ?_);refine gk (ae ?_);refine Ra M [0] ?_;refine gk (Sq ?_);refine Sb M [0] 3 ?_;refine Sc (QF (jx An ns.length cn ns nm _ (pd (M.arg rn)) eb) M λJ3 wv M=>Sp ?_);refine Sb M [] 1 (Sz (ae ?_));refine Ra M [] ?_;refine lW (λmT=>?_) (λmT=>?_)
 ·rw[mT];replace mT:=aa mT;replace mT:=aa (show ix ns nm 0<0 by simpa using mT.out);refine Sq (Sb M [0] 3 ?_);refine Sc (QF (jx none 0 0 [] nm _ Reads.nil_ dQ) M λJ4 wv M=>Sp ?_);refine Sb M [] 1 (Sz (ae ?_));refine Ra M [] ?_;refine ct ?_;refine Ra M [] (Sg ?_);refine Sb M [0] 3 ?_;refine Sa M (λJ5 wv M=>?_);have M:=(M.str (t:=9) hnm).nil (t:=25) underlying25;refine nQ M jm (hn:=by decide) (h63:=by decide) (λJ6 wv M=>Sw ?_);replace M:=(M.pull 1 rfl |>.pull 1 rfl);replace M:=M.up [];refine Sb M [] 1 (Sy (dV (Sg ?_)));refine Sb M [] 2 ?_;refine So (.int .i64 (n:Nat)) (λK Z hK=>mf) ?_;refine Sb M [] 1 (Sy (dV (Sg ?_)));refine Sb M [] 2 ?_;refine So (.int .i64 ((n:Int)+1)) (λK Z hK=>pH) ?_;refine Sa M (λJ7 wv M=>?_);have xQ:=xQ.out;have M:=(M.int (t:=3) (n:=((n:Int)+1)) (kP.2 fP)).nil (t:=26) underlying26;refine nQ M rD (hn:=by decide) (h63:=by decide) (λJ8 wv M=>Sw ?_);replace M:=(M.pull 1 rfl |>.pull 1 rfl);replace M:=M.up [];refine Sb M [] 1 (Sy (fA (dV ?_)));refine Rb M [] (dV (ez ?_));refine Ra M [] (ae ?_);refine cf (bo (es (es (fT (dV ?_)))));refine Ra M [] (aO ?_);refine vQ results183 ?_;rw[tq mT.out];exact(M.sel [0] dQ).retPos (l:=[(n:Int)+1])
 ·rw[mT];replace mT:=aa mT;replace mT:=aa (show ¬ix ns nm 0<0 by simpa using mT.out);refine bd (dV (Sg (Sb M [] 2 ?_)));refine So (.int .i64 ((ix ns nm 0)+1)) (λK Z hK=>pH) ?_;refine Sa M (λJ9 wv M=>?_);have xQ:=xQ.out;have M:=(M.int (t:=3) (n:=((ix ns nm 0)+1)) (kP.2 fP)).nil (t:=26) underlying26;refine nQ M rD (hn:=by decide) (h63:=by decide) (λmO wv M=>Sw ?_);replace M:=(M.pull 1 rfl |>.pull 1 rfl);replace M:=M.up [];refine Sb M [] 1 (Sy (fA (dV ?_)));refine Rb M [] (dV (ez ?_));refine Ra M [] (ae ?_);refine cf (bo (es (es (fT (dV ?_)))));refine Ra M [] (aO ?_);refine vQ results183 ?_;rw[tt mT.out];exact(M.sel [0] dQ).retPos (l:=[(ix ns nm 0)+1])
theorem AY (n:Nat) (hn:(n:Int)<=40) (y:Int) (h1:1<=y) (h2:y<=40) (ab ao c:Nat) (w:World) (K7:ab<w.heap.size) (e0:w.cell? ⟨ab,ao,none⟩=some (.int .i64 y)) (e1:w.cell? ⟨ab,ao+1,none⟩=some (.int .i64 1)) (e2:w.cell? ⟨ab,ao+2,none⟩=some (sv [])):
 Calls prog 182 #[.int .i64 (n:Nat),.slice (some ⟨ab,ao,none⟩) 1 c] w (jq [y] [] w):=by
 refine(AX n hn y h1 h2 ab ao c w K7 e0 e1 e2).mono ?_;rintro e w' ⟨A,m,d,rfl,F,ho,hf,hb⟩;have hl:=(ef (eW _ _ _ _ ho)).1;obtain rfl:m=1:=by simpa using hl.symm
 exact⟨A,d,F,rfl,ho,hf,hb⟩
theorem VU (n:Nat) (hn:n<=40) (An:Option Addr) (nn cn:Nat) (hnn:nn=0\/nn=n) (y:Int) (h1:1<=y) (h2:y<=40) (cs:List Value) (w:World) (hs:rep w w.heap.size (nU [y]).toD cs):
 Calls prog 153 #[.int .i64 (n:Nat),.slice An nn cn,av cs] w (jq [y] [] w):=by
 obtain⟨sb,so,c1,A2,c2,A3,c3,A4,c4,A5,c5,rfl,tV,e0,e1,e2⟩:=kV hs;have Tx:=aa (DX h1 h2);have q1:decide ((n:Int)<0)=false:=dR;have q2:decide ((40:Int)<(n:Int))=false:=dS;replace hn:(n:Int)<=40:=dP;have M:Mem prog w [] w []:=Mem.start;go_enter func153,ntmps153;refine Sq (Sa M (λJ1 wv M=>?_));refine Sb M [] 2 (Sz (ae (Sq ?_)));refine Sb M [0] 1 ?_;refine Sc (aF (ff (nU [y]) _ _ (M.arg hs) Jh) ?_);rintro e w' ⟨rfl,hb⟩;rw[Tx.out];replace M:=M.next hb;refine Sp ?_;refine Sb M [] 1 (Sz ?_);refine gk (ae (Sq ?_));refine Sb M [] 11 ?_;refine So ((bif (decide (0<nn)) then .slice An nn cn else undef)) (λK Z hK=>by rcases ac ((decide (0<nn))) with hg|hg<;>simp only[hg,ar,ak,aD,aB,az,aq,aj,am]at hK<;>go_simp<;>exact hK) ?_;refine So ((bif (decide (0<nn)) then .int .i64 (nn:Nat) else undef)) (λK Z hK=>by rcases ac ((decide (0<nn))) with hg|hg<;>simp only[hg,ar,ak,aD,aB,az,aq,aj,am]at hK<;>go_simp<;>exact hK) ?_;refine So ((bif (decide (0<nn)) then .int .i64 (n:Nat) else undef)) (λK Z hK=>by rcases ac ((decide (0<nn))) with hg|hg<;>simp only[hg,ar,ak,aD,aB,az,aq,aj,am]at hK<;>go_simp<;>exact hK) ?_;refine So ((bif (decide (0<nn)) then .bool (((nn:Nat):Int) != ((n:Nat):Int)) else undef)) (λK Z hK=>by rcases ac ((decide (0<nn))) with hg|hg<;>simp only[hg,ar,ak,aD,aB,az,aq,aj,am]at hK<;>go_simp<;>exact hK) ?_;refine So (.bool ((decide (0<nn))&&(((nn:Nat):Int) != ((n:Nat):Int)))) (λK Z hK=>by rcases ac ((decide (0<nn))) with hg|hg<;>simp only[hg,ar,ak,aD,aB,az,aq,aj,am]at hK<;>go_simp<;>exact hK) ?_;refine Sb M [] 1 (Sz ?_);refine lW (λhG=>?_) (λhG=>?_)
 ·exact yM
 ·rw[hG];replace hG:=aa hG;refine bd (dV (ae (Ra M [0] (aJ ?_))));refine Ra M [] ?_;refine cf ?_;refine Ra M [] ?_;refine ct (Sq ?_);refine Sb M [0] 3 ?_;refine Sx M 0 (λx=> .tuple #[.slice x.a 1 x.c,sv []]) (λx=>[.ow (.sl ([y].map (D.i .i64))) 26 [.slice x.a 1 x.c]]) (λK Z hK=>by go_simp;go_at_call 182;refine(AY n hn y h1 h2 sb so c1 _ (db tV M.mod.size) ((M.bel.cell tV).trans e0) ((M.bel.cell tV).trans e1) ((M.bel.cell tV).trans e2)).mono ?_;intro e w' hn;obtain⟨A',c',rfl,M'⟩:=M.newPos hn;exact hK (Ov A' c') w' M') (λJ3 wv M=>?_)
  refine Sb M [] 4 (Sz (aO (xt (fI ?_))));refine vQ results153 ?_;exact(M.sel [0] dQ).retPos
theorem QB (v x:Vec) (cv cx cs:List Value) (w:World) (gF:rep w w.heap.size v.toD cv) (fE:rep w w.heap.size x.toD cx) (tx:isVec v=true) (qM:isVec x=true) (lJ:bigV v) (qo:bigV x) (h5:¬v.kind=5) (y:Int) (h1:1<=y) (h2:y<=40) (hs:rep w w.heap.size (nU [y]).toD cs):
 Calls prog 105 #[av cv,av cs,av cx] w (jq [y] [] w):=by
 obtain⟨sb,so,c1,A2,c2,A3,c3,A4,c4,A5,c5,rfl,tV,e0,e1,e2⟩:=kV hs;have fv:=FV.of (jB (d:=3) B6);have gK:=fv.len;have kQ:lenV v<=40:=by unfold lenV;split<;>omega
 have hnn:=fv.nn;have q1:(v.kind==5)=false:=by simpa using h5
 replace tx:=aa tx;replace qM:=aa qM;clear fv h5;obtain⟨Ai,ci,Ap,cp,An,cn,Ac,cc,Al,cl,rfl,wk,ri,rp,rn,rc,rl,wc,we⟩:=d_ gF;obtain⟨w_,xd,yQ,yU,yP,yT,yN,yR,yO,yS,rfl,CR,CK,CN,CM,CH,CL,AC,CQ⟩:=d_ fE;have M:Mem prog w [] w []:=Mem.start;go_enter func105,ntmps105;refine Sq (Sa M (λJ1 wv M=>?_));refine Sa M (λJ2 wv M=>?_);refine Sa M (λJ3 wv M=>?_);refine Sb M [] 2 (Sz (ae (Sq ?_)));refine Sb M [2] 1 ?_;refine Sc (aF (ff v _ _ (M.arg gF) lJ) ?_);rintro e w' ⟨rfl,hb⟩;rw[tx.out];replace M:=M.next hb;refine Sp ?_;refine Sb M [0] 3 ?_;refine Sc (aF (ff x _ _ (M.arg fE) qo) ?_);rintro e w' ⟨rfl,hb⟩;rw[qM.out];replace M:=M.next hb;refine Sp ?_;refine Sb M [] 2 (Sz ?_);refine gk (ae ?_);refine Ra M [2] ?_;refine gk ?_;refine mL (M.sel [1,2,0] dQ) [none,none] [.la 1,.i (lenV v:Nat),.o (J1.b) 3,.x 2 3,.la 0,.v (.e 5 (λxh=> .tuple #[.slice xh.a 1 xh.c,sv []])),.x 0 0,.x 1 1,.p 1,.p 1] [.e 5 none (oS 5 (.sl ([y].map (D.i .i64))) 26 1)] [[1],[],[],[1],[0],[],[],[],[],[]] [] ?_ ?_
 ·show ∀i,i<10->_;refine On (On (On (On ?_ eB) eB) eB) eB;refine On ?_ (tn [] [2] [] (h:=λγ wv R K M hK=>by go_simp;go_at_call 153;refine(VU (lenV v) kQ An v.names.length cn hnn y h1 h2 _ _ (M.arg hs)).mono ?_;intro e w' hn;obtain⟨A',c',rfl,M'⟩:=M.newPos hn;exact hK (Ov A' c') w' M'))
  refine On (On (On ?_ eh) (e_ [1] 3)) (lL [0]);refine On ?_ (tn [] [] [] (h:=λγ wv R K M hK=>by go_simp;go_at_call 107;exact f_ (pC v _ _ (M.arg gF) dP) M hK))
  exact On Oz (lL [1])
 intro i7 wv M;replace M:Mem _ _ _ _ [_,_,.ow _ _ _,_]:=M;refine aO (vQ results105 ?_);exact(M.sel [2] dQ).retPos
theorem DY (h:nm.length<=60):isVec (iA [nm])=true:=by
 have hs:h_ (iA [nm])=true:=by simp [h_,CO,IY,P6,wZ,SB,IZ,iA,lenV,mF,vE,atomK,itemOK,sN,h]
 unfold isVec;rw[show okD 3 (iA [nm])=true by rw[okD,hs];rfl];simp [iA,jF,ik,lenV]
theorem Ji (h:nm.length<=60):bigV (iA [nm]):=by unfold bigV;rw[go];simp [iA,szD,gv,sN,Item.toD];omega
theorem jX {B:Nat} (h:rep w B (iA [nm]).toD cs):∃(sb so c1:Nat) (A2:Option Addr) (c2:Nat) (A3:Option Addr) (c3:Nat) (A4:Option Addr) (c4:Nat) (A5:Option Addr) (c5:Nat),
 cs=[.int .i64 3,.slice (some ⟨sb,so,none⟩) 1 c1,.slice A2 0 c2,.slice A3 0 c3,.slice A4 0 c4,.slice A5 0 c5,.int .i64 0,.int .i64 0]/\sb<B/\w.cell? ⟨sb,so,none⟩=some (.int .i64 0)/\w.cell? ⟨sb,so+1,none⟩=some (.int .i64 1)/\w.cell? ⟨sb,so+2,none⟩=some (sv nm):=by
 obtain⟨Ai,ci,Ap,cp,An,cn,Ac,cc,Al,cl,rfl,wk,ri,rp,rn,rc,rl,wc,we⟩:=d_ h;have ri:rep w B (.sl ([sN nm].map Item.toD)) [.slice Ai 1 ci]:=ri;obtain⟨b,o,x,rfl,hb,hx,-,e0,e1,e2⟩:=pK ri (k:=0) dQ;obtain rfl:sN nm=x:=oh;simp only[dx,cF]at e0 e1 e2;exact⟨b,o,ci,Ap,cp,An,cn,Ac,cc,Al,cl,rfl,hb,e0,e1,e2⟩
theorem VV (n:Nat) (hn:n<=40) (ns:List Str) (hns:ns.length<=40) (An:Option Addr) (cn:Nat) (hnn:ns.length=0\/ns.length=n) (nm:Str) (hnm:nm.length<=maxLen) (AS:nm.length<=60) (Sl:nm.isEmpty=false) (cs:List Value) (w:World) (rn:rep w w.heap.size (.sl (ns.map .s)) [.slice An ns.length cn]) (hs:rep w w.heap.size (iA [nm]).toD cs):
 Calls prog 153 #[.int .i64 (n:Nat),.slice An ns.length cn,av cs] w (jq [pu ns n nm] [] w):=by
 obtain⟨sb,so,c1,A2,c2,A3,c3,A4,c4,A5,c5,rfl,tV,e0,e1,e2⟩:=jX hs;have Tx:=aa (DY AS);have hbt:=aa (Ji AS);have jC:=aa Sl;have q1:decide ((n:Int)<0)=false:=dR;have q2:decide ((40:Int)<(n:Int))=false:=dS;clear Sl;have M:Mem prog w [] w []:=Mem.start;go_enter func153,ntmps153;refine Sq (Sa M (λJ1 wv M=>?_));refine Sb M [] 2 (Sz (ae (Sq ?_)));refine Sb M [0] 1 ?_;refine Sc (aF (ff (iA [nm]) _ _ (M.arg hs) hbt.out) ?_);rintro e w' ⟨rfl,hb⟩;rw[Tx.out];replace M:=M.next hb;refine Sp ?_;refine Sb M [] 1 (Sz ?_);refine gk (ae (Sq ?_));refine Sb M [] 11 ?_;refine So ((bif (decide (0<ns.length)) then .slice An ns.length cn else undef)) (λK Z hK=>by rcases ac ((decide (0<ns.length))) with hg|hg<;>simp only[hg,ar,ak,aD,aB,az,aq,aj,am]at hK<;>go_simp<;>exact hK) ?_;refine So ((bif (decide (0<ns.length)) then .int .i64 (ns.length:Nat) else undef)) (λK Z hK=>by rcases ac ((decide (0<ns.length))) with hg|hg<;>simp only[hg,ar,ak,aD,aB,az,aq,aj,am]at hK<;>go_simp<;>exact hK) ?_;refine So ((bif (decide (0<ns.length)) then .int .i64 (n:Nat) else undef)) (λK Z hK=>by rcases ac ((decide (0<ns.length))) with hg|hg<;>simp only[hg,ar,ak,aD,aB,az,aq,aj,am]at hK<;>go_simp<;>exact hK) ?_;refine So ((bif (decide (0<ns.length)) then .bool (((ns.length:Nat):Int) != ((n:Nat):Int)) else undef)) (λK Z hK=>by rcases ac ((decide (0<ns.length))) with hg|hg<;>simp only[hg,ar,ak,aD,aB,az,aq,aj,am]at hK<;>go_simp<;>exact hK) ?_;refine So (.bool ((decide (0<ns.length))&&(((ns.length:Nat):Int) != ((n:Nat):Int)))) (λK Z hK=>by rcases ac ((decide (0<ns.length))) with hg|hg<;>simp only[hg,ar,ak,aD,aB,az,aq,aj,am]at hK<;>go_simp<;>exact hK) ?_;refine Sb M [] 1 (Sz ?_);refine lW (λhG=>?_) (λhG=>?_)
 ·exact yM
 ·rw[hG];replace hG:=aa hG;refine bd (dV (ae (Ra M [0] (aJ ?_))));refine Ra M [] ?_;refine cf ?_;refine Ra M [] ?_;refine cf ?_;refine Ra M [] ?_;refine ct (Sq ?_);refine Sb M [0] 4 ?_;refine Sc (Mw (E8 n hn ns hns nm hnm jC.out An cn sb so c1 _ (M.arg rn) (db tV M.mod.size) ((M.bel.cell tV).trans e0) ((M.bel.cell tV).trans e1) ((M.bel.cell tV).trans e2)) M λJ3 wv M=>Sp ?_);refine Sb M [] 4 (Sz (aO (xt (fI ?_))));refine vQ results153 ?_;exact(M.sel [0] dQ).retPos
theorem Xb (v x:Vec) (cv cx cs:List Value) (w:World) (gF:rep w w.heap.size v.toD cv) (fE:rep w w.heap.size x.toD cx) (tx:isVec v=true) (qM:isVec x=true) (lJ:bigV v) (qo:bigV x) (h5:¬v.kind=5) (nm:Str) (hnm:nm.length<=maxLen) (AS:nm.length<=60) (Sl:nm.isEmpty=false) (hs:rep w w.heap.size (iA [nm]).toD cs):
 Calls prog 105 #[av cv,av cs,av cx] w (jq [pu v.names (lenV v) nm] [] w):=by
 obtain⟨sb,so,c1,A2,c2,A3,c3,A4,c4,A5,c5,rfl,tV,e0,e1,e2⟩:=jX hs;have fv:=FV.of (jB (d:=3) B6);have gK:=fv.len;have kQ:lenV v<=40:=by unfold lenV;split<;>omega
 have hnn:=fv.nn;have hnl:v.names.length<=40:=dP;have q1:(v.kind==5)=false:=by simpa using h5
 replace tx:=aa tx;replace qM:=aa qM;have jC:=aa Sl;clear fv h5 Sl;obtain⟨Ai,ci,Ap,cp,An,cn,Ac,cc,Al,cl,rfl,wk,ri,rp,rn,rc,rl,wc,we⟩:=d_ gF;obtain⟨w_,xd,yQ,yU,yP,yT,yN,yR,yO,yS,rfl,CR,CK,CN,CM,CH,CL,AC,CQ⟩:=d_ fE;have M:Mem prog w [] w []:=Mem.start;go_enter func105,ntmps105;refine Sq (Sa M (λJ1 wv M=>?_));refine Sa M (λJ2 wv M=>?_);refine Sa M (λJ3 wv M=>?_);refine Sb M [] 2 (Sz (ae (Sq ?_)));refine Sb M [2] 1 ?_;refine Sc (aF (ff v _ _ (M.arg gF) lJ) ?_);rintro e w' ⟨rfl,hb⟩;rw[tx.out];replace M:=M.next hb;refine Sp ?_;refine Sb M [0] 3 ?_;refine Sc (aF (ff x _ _ (M.arg fE) qo) ?_);rintro e w' ⟨rfl,hb⟩;rw[qM.out];replace M:=M.next hb;refine Sp ?_;refine Sb M [] 2 (Sz ?_);refine gk (ae ?_);refine Ra M [2] ?_;refine gk ?_;refine mL (M.sel [1,2,0] dQ) [none,none] [.la 1,.i (lenV v:Nat),.o (J1.b) 3,.x 2 3,.la 0,.v (.e 5 (λxh=> .tuple #[.slice xh.a 1 xh.c,sv []])),.x 0 0,.x 1 1,.p 1,.p 1] [.e 5 none (oS 5 (.sl ([pu v.names (lenV v) nm].map (D.i .i64))) 26 1)] [[1],[],[],[1],[0],[],[],[],[],[]] [] ?_ ?_
 ·show ∀i,i<10->_;refine On (On (On (On ?_ eB) eB) eB) eB;refine On ?_ (tn [] [2] [] (h:=λγ wv R K M hK=>by go_simp;go_at_call 153;exact Mw (VV (lenV v) kQ v.names hnl An cn hnn nm hnm AS jC.out _ _ (M.arg rn) (M.arg hs)) M hK))
  refine On (On (On ?_ eh) (e_ [1] 3)) (lL [0]);refine On ?_ (tn [] [] [] (h:=λγ wv R K M hK=>by go_simp;go_at_call 107;exact f_ (pC v _ _ (M.arg gF) dP) M hK))
  exact On Oz (lL [1])
 intro i7 wv M;replace M:Mem _ _ _ _ [_,_,.ow _ _ _,_]:=M;refine aO (vQ results105 ?_);exact(M.sel [2] dQ).retPos
theorem Oe (h:Hp) (c:Cel) (g:Nat) (F Fc:List Nat) (cc:List Value) (w:World) (H:HB w g h F) (oc:own prog w c.toD 43 Fc cc) (hd:∀y∈Fc,y ∉ g::F) (hn:Fc.Nodup) (hl:(h.cells.length:Int)<=1073741824):
 Calls prog 104 #[.pointer (some ⟨g,0,none⟩),.agg cc.toArray] w λe w'=>e= .returned (.int .i64 (gH h c).2)/\∃F',HB w' g (gH h c).1 F'/\(∀y∈F',y∈F\/y∈Fc\/w.heap.size<=y)/\Mod (g::F) w w':=by
 have hlc:=gC oc;obtain⟨Bi,mi,di,Bp,mp,dp,Bn,mn,dn,Bc,mc,dc,Bl,ml,dl,Bq,mq,dq,G1,G2,G3,G4,G5,G6,rfl,rfl,p1,p2,p3,p4,p5,p6⟩:=jp oc;obtain⟨G,hG⟩:∃G,G=(G1++(G2++(G3++(G4++(G5++[])))))++(G6++[]):=⟨_,rfl⟩;rw[<-hG]at hd hn oc hlc ⊢;clear p1 p2 p3 p4 p5 p6 hG G1 G2 G3 G4 G5 G6;have x1:Below w.heap.size w (w.alloc (.cells #[c.count,c.value.kind,.slice Bi mi di,.slice Bp mp dp,.slice Bn mn dn,.slice Bc mc dc,.slice Bl ml dl,c.value.code,c.value.env,.slice Bq mq dq] 43)):=(Below.refl w.heap.size w).alloc (af _) _;have Yr:own prog (w.alloc (.cells #[c.count,c.value.kind,.slice Bi mi di,.slice Bp mp dp,.slice Bn mn dn,.slice Bc mc dc,.slice Bl ml dl,c.value.code,c.value.env,.slice Bq mq dq] 43)) (Cel.toD c) 43 G [c.count,c.value.kind,.slice Bi mi di,.slice Bp mp dp,.slice Bn mn dn,.slice Bc mc dc,.slice Bl ml dl,c.value.code,c.value.env,.slice Bq mq dq]:=fK oc;have ahr:Lo w.heap.size G:=hlc;have H1:HB (w.alloc (.cells #[c.count,c.value.kind,.slice Bi mi di,.slice Bp mp dp,.slice Bn mn dn,.slice Bc mc dc,.slice Bl ml dl,c.value.code,c.value.env,.slice Bq mq dq] 43)) g h F:=H.next x1;have k3:Blk (w.alloc (.cells #[c.count,c.value.kind,.slice Bi mi di,.slice Bp mp dp,.slice Bn mn dn,.slice Bc mc dc,.slice Bl ml dl,c.value.code,c.value.env,.slice Bq mq dq] 43)) w.heap.size 43 [c.count,c.value.kind,.slice Bi mi di,.slice Bp mp dp,.slice Bn mn dn,.slice Bc mc dc,.slice Bl ml dl,c.value.code,c.value.env,.slice Bq mq dq]:=Blk.new' (l:=[.int .i64 c.count,.int .i64 c.value.kind,.slice Bi mi di,.slice Bp mp dp,.slice Bn mn dn,.slice Bc mc dc,.slice Bl ml dl,.int .i64 c.value.code,.int .i64 c.value.env,.slice Bq mq dq]);have JA:=H.lt;obtain⟨W,hW⟩:∃W,W=(w.alloc (.cells #[c.count,c.value.kind,.slice Bi mi di,.slice Bp mp dp,.slice Bn mn dn,.slice Bc mc dc,.slice Bl ml dl,c.value.code,c.value.env,.slice Bq mq dq] 43)):=⟨_,rfl⟩;obtain⟨Ac,nc,nd,An,nn,na,As,ns,nb,Fa,Fb,Fs,kB,hF,o1,o2,o3,wf⟩:=H1.open_;have gK:=ef (eW _ _ _ _ o1);rw[au]at gK;have Nh:(nc:Int)<=1073741824:=dP;have HL:=aa gK;have zW:(w.alloc (.cells #[c.count,c.value.kind,.slice Bi mi di,.slice Bp mp dp,.slice Bn mn dn,.slice Bc mc dc,.slice Bl ml dl,c.value.code,c.value.env,.slice Bq mq dq] 43)).heap.size=w.heap.size+1:=by simp only[dT,dX]
 clear gK;obtain⟨g0,g1,g2,g3⟩:=kB.c4;go_enter func104,ntmps104;go_wp2_with fail;rw[<-hW]at x1 Yr H1 k3 kB zW o1 o2 o3 g0 g1 g2 g3 ⊢;clear hW oc hlc;go_loopw [11] (λv wr=>∃j:Nat,j<=nc/\v= .int .i64 j/\wr=W/\gy h.cells 0=gy (h.cells.drop j) j) (λv _=>nc - (intOf v).toNat)
 case atStart=>exact⟨0,by omega,rfl,rfl,rfl⟩
 case round=>
  obtain⟨j,hj,rfl,rfl,hff⟩:=hrel;by_cases hlt:j<nc
  ·obtain⟨x,hx⟩:∃x,h.cells[j]?=some x:=⟨_,aw (by rw[HL.out.1];exact hlt)⟩;have XI:=uZ hx;obtain⟨bc,JS,nd',Ct,CE,na',Wl,WG,nb',Fx,cx,pre,post,IG,hl',hm',ox,Ix,Zw,hp,hB,Po,qo,ZK,Zz,Lb⟩:=H1.cell_ hx;obtain⟨rfl,rfl,rfl,rfl,rfl,rfl,rfl,rfl,rfl⟩:=pz kB IG;obtain⟨Ei,ui,vi,Ep,up,vp,En,un,vn,Ec,uc,vc,El,ul,vl,Eq,uq,vq,G1,G2,G3,G4,G5,G6,rfl,hFx,-,-,-,-,-,-⟩:=jp ox;obtain⟨e0,e1,e2,e3,e4,e5,e6,e7,e8,e9⟩:=hB.e10 hp;obtain⟨f0,f1,f2,f3,f4,f5,f6,f7,f8,f9⟩:=hB.fr10 (m:=j*10);have HX:=aa hx;clear hx hl' hFx IG;by_cases hz:x.count=0
   ·have UJ:gH h c=(eG h j c,(j:Int)):=by unfold gH;rw[hff,XI,aN hz]
    have d0:(x.count==0)=true:=by simp [hz]
    have W6:=aa UJ;have uK:bc<w.heap.size:=by have:=H.lo bc (aP _ Po);exact this
    have hbn:bc≠w.heap.size:=dP;clear hff XI hz UJ;obtain⟨a0,a1,a2,a3,a4,a5,a6,a7,a8,a9⟩:=k3.d10;go_wp2_with fail;refine bu ?_;refine aW (S:=λV=>V.cell? ⟨g,0,none⟩=some (.slice (some ⟨bc,0,none⟩) nc nd)/\V.cell? ⟨w.heap.size,0,none⟩=some (.int .i64 c.count)/\V.cell? ⟨w.heap.size,1,none⟩=some (.int .i64 c.value.kind)/\V.cell? ⟨w.heap.size,2,none⟩=some (.slice Bi mi di)/\V.cell? ⟨w.heap.size,3,none⟩=some (.slice Bp mp dp)/\V.cell? ⟨w.heap.size,4,none⟩=some (.slice Bn mn dn)/\V.cell? ⟨w.heap.size,5,none⟩=some (.slice Bc mc dc)/\V.cell? ⟨w.heap.size,6,none⟩=some (.slice Bl ml dl)/\V.cell? ⟨w.heap.size,7,none⟩=some (.int .i64 c.value.code)/\V.cell? ⟨w.heap.size,8,none⟩=some (.int .i64 c.value.env)/\V.cell? ⟨w.heap.size,9,none⟩=some (.slice Bq mq dq)) dU ⟨g0,a0,a1,a2,a3,a4,a5,a6,a7,a8,a9⟩ (λhH=>?_);refine ey 0 ?_;refine ey 1 ?_;refine ey 2 ?_;refine ey 3 ?_;refine ey 4 ?_;refine ey 5 ?_;refine ey 6 ?_;refine fZ 7 ?_;intro K hK;go_simp;have Vi:Mod [bc] wr ((((((((((wr.setCell ⟨bc,j*10,none⟩ (.int .i64 c.count)).setCell ⟨bc,j*10+1,none⟩ (.int .i64 c.value.kind)).setCell ⟨bc,j*10+2,none⟩ (.slice Bi mi di)).setCell ⟨bc,j*10+3,none⟩ (.slice Bp mp dp)).setCell ⟨bc,j*10+4,none⟩ (.slice Bn mn dn)).setCell ⟨bc,j*10+5,none⟩ (.slice Bc mc dc)).setCell ⟨bc,j*10+6,none⟩ (.slice Bl ml dl)).setCell ⟨bc,j*10+7,none⟩ (.int .i64 c.value.code)).setCell ⟨bc,j*10+8,none⟩ (.int .i64 c.value.env)).setCell ⟨bc,j*10+9,none⟩ (.slice Bq mq dq)):=Q3 dR;have md:Mod [bc] wr ((((((((((wr.setCell ⟨bc,j*10,none⟩ (.int .i64 c.count)).setCell ⟨bc,j*10+1,none⟩ (.int .i64 c.value.kind)).setCell ⟨bc,j*10+2,none⟩ (.slice Bi mi di)).setCell ⟨bc,j*10+3,none⟩ (.slice Bp mp dp)).setCell ⟨bc,j*10+4,none⟩ (.slice Bn mn dn)).setCell ⟨bc,j*10+5,none⟩ (.slice Bc mc dc)).setCell ⟨bc,j*10+6,none⟩ (.slice Bl ml dl)).setCell ⟨bc,j*10+7,none⟩ (.int .i64 c.value.code)).setCell ⟨bc,j*10+8,none⟩ (.int .i64 c.value.env)).setCell ⟨bc,j*10+9,none⟩ (.slice Bq mq dq)).drew:=gU Vi (Below.refl _ _).drew;have rN:Mod (bc::Fx) wr _:=md.mono dR;have kg:=Blk.mod (g:=g) kB md (by simpa using Zz);have kb:=Blk.mod (g:=w.heap.size) k3 md dS;obtain⟨a0,a1,a2,a3,a4,a5,a6,a7,a8,a9⟩:=kb.d10;obtain⟨g0,g1,g2,g3⟩:=kg.c4;refine hK _ _ ⟨⟨g0,a0,a1,a2,a3,a4,a5,a6,a7,a8,a9⟩,?_⟩;refine iW ?_;refine bv dU ?_ _;refine ba ?_;go_wp2_with fail;go_ret;rw[W6.out];obtain⟨F',HF,xR⟩:=Lb _ c _ G rfl (fH Yr md (λy hy hm=>hd y hy (aP _ (by simp at hm;subst hm;exact Po)))) hn (λy hy=> .inr (hd y hy)) (Blk.put10 hB hp).dw rN;refine⟨rfl,F',HF,λy hy=>?_,?_⟩
    ·rcases xR y hy with h1|h1
     ·exact .inr (.inl h1)
     ·exact .inl h1.1
    ·exact GQ
   ·have d0:(x.count==0)=false:=by simp [hz]
    rw[XI,aH hz]at hff;have HFF:=aa hff;clear hz hff XI;go_wp2_with fail;go_roundw
    case rel=>exact⟨j+1,by omega,by go_num,bO,HFF.out⟩
    case measure=>simp [intOf];omega
  ·obtain rfl:j=nc:=dP;have UJ:gH h c=({h with cells:=h.cells++[c]},(j:Int)):=BM;have W6:=aa UJ;have hgw:g<w.heap.size:=H.lt;clear UJ hff;obtain⟨a0,a1,a2,a3,a4,a5,a6,a7,a8,a9⟩:=k3.d10;go_wp2_with fail;refine bu ?_;refine aW (S:=λV=>V.cell? ⟨w.heap.size,0,none⟩=some (.int .i64 c.count)/\V.cell? ⟨w.heap.size,1,none⟩=some (.int .i64 c.value.kind)/\V.cell? ⟨w.heap.size,2,none⟩=some (.slice Bi mi di)/\V.cell? ⟨w.heap.size,3,none⟩=some (.slice Bp mp dp)/\V.cell? ⟨w.heap.size,4,none⟩=some (.slice Bn mn dn)/\V.cell? ⟨w.heap.size,5,none⟩=some (.slice Bc mc dc)/\V.cell? ⟨w.heap.size,6,none⟩=some (.slice Bl ml dl)/\V.cell? ⟨w.heap.size,7,none⟩=some (.int .i64 c.value.code)/\V.cell? ⟨w.heap.size,8,none⟩=some (.int .i64 c.value.env)/\V.cell? ⟨w.heap.size,9,none⟩=some (.slice Bq mq dq)) dU ⟨a0,a1,a2,a3,a4,a5,a6,a7,a8,a9⟩ (λhH=>?_);have hwb:wr.heap.size=w.heap.size+1:=zW;have x3:Below wr.heap.size wr (wr.alloc (.cells #[c.count,c.value.kind,.slice Bi mi di,.slice Bp mp dp,.slice Bn mn dn,.slice Bc mc dc,.slice Bl ml dl,c.value.code,c.value.env,.slice Bq mq dq] 43)).drew:=((Below.refl _ _).alloc (af _) _).drew;have kg:=kB.next x3;have kb:=k3.next x3;have kn:Blk (wr.alloc (.cells #[c.count,c.value.kind,.slice Bi mi di,.slice Bp mp dp,.slice Bn mn dn,.slice Bc mc dc,.slice Bl ml dl,c.value.code,c.value.env,.slice Bq mq dq] 43)).drew wr.heap.size 43 [c.count,c.value.kind,.slice Bi mi di,.slice Bp mp dp,.slice Bn mn dn,.slice Bc mc dc,.slice Bl ml dl,c.value.code,c.value.env,.slice Bq mq dq]:=(Blk.new' (l:=[.int .i64 c.count,.int .i64 c.value.kind,.slice Bi mi di,.slice Bp mp dp,.slice Bn mn dn,.slice Bc mc dc,.slice Bl ml dl,.int .i64 c.value.code,.int .i64 c.value.env,.slice Bq mq dq])).dw;rw[hwb]at kn;have sM:=H1.nd;have XR:=H1.lo;subst hF;refine ey 0 ?_;refine ey 1 ?_;refine ey 2 ?_;refine ey 3 ?_;refine ey 5 ?_;refine dG (rs:=[4,6]) dU dR (λi hi=>?_);simp only[aX,df,ce]at hi;rcases hi with rfl|rfl;all_goals refine dD gO (λK hK=>?_)
   ·go_simp;refine hK _ _ ⟨k3.dw.d10,?_⟩;refine iW ?_;refine fZ 6 ?_;intro K hK;go_simp;refine hK _ _ ⟨kb.d10,?_⟩;refine iW ?_;refine fZ 7 ?_;intro K hK;refine gL (A:=Ac) (n:=j) (c:=nd) (b:=w.heap.size+1) (m:=1) (xs:=h.cells.map Cel.toD) (F:=Fa) (d:=Cel.toD c) (F':=G) (te:=43) (cs:=[.int .i64 c.count,.int .i64 c.value.kind,.slice Bi mi di,.slice Bp mp dp,.slice Bn mn dn,.slice Bc mc dc,.slice Bl ml dl,.int .i64 c.value.code,.int .i64 c.value.env,.slice Bq mq dq]) Bg ?_ ?_ (.tmp 36) (.tmp 38) ?_ ?_ ?_ ?_ ?_ ?_ ?_ ?_ ?_ ?_ ?_
    ·kernel_rfl
    ·rfl
    ·rfl
    ·rfl
    ·exact em o1 x3
    ·rfl
    ·exact kn
    ·exact em Yr x3
    ·rfl
    ·exact uy
    ·exact g8
    ·omega
    intro gg gc w3 F3 Vq ap md;have Lg:=Blk.mod (g:=g) kg md (λhm=>(aQ.1 sM).1 eV);have tz:=Blk.mod (g:=w.heap.size) kb md (λhm=>by have:=H.lo w.heap.size eV;omega);have z3:=md.size;simp only[dW,dT]at z3;have hg3:g<w3.heap.size:=Lg.lt;have fz3:=Lg.frozen 0;obtain⟨h0,h1,h2,h3⟩:=Lg.c4;have S3:=tz.d10;refine hK _ _ ⟨S3,?_⟩;refine iW ?_;refine ey 8 ?_;refine ey 9 ?_;refine fZ 10 ?_;intro K hK;go_simp;have kb4:=Blk.pk (p:=⟨g,0,none⟩) (u:= .slice (some ⟨gg,0,none⟩) (j+1) gc) (by show g≠_;omega) tz;have U_:=Lg.set_ 0 (.slice (some ⟨gg,0,none⟩) (j+1) gc);obtain⟨h0',-,-,-⟩:=Blk.c4 (b:= .slice An nn na) (c:= .slice As ns nb) (d:= .int .i64 h.copies) U_;refine hK _ _ ⟨kb4.d10,?_⟩;refine iW ?_;refine bv dU ?_ _;refine ba ?_;clear h0 h1 h2 h3 S3;go_wp2_with fail;go_ret;rw[W6.out];have Ox:=(aQ.1 sM).1;have nF:=aE.1 (aQ.1 sM).2;have hF3:∀y∈F3,y∈Fa\/(y∈G/\y ∉ g::(Fa++(Fb++(Fs++[]))))\/y=w.heap.size+1+1:=λy hy=>uD;have XJ:g ∉ F3:=λhm=>uw;have hlF:∀y∈g::(Fa++(Fb++(Fs++[]))),y<w.heap.size:=H.lo;have PP:=ft (p:=⟨g,0,none⟩) (u:= .slice (some ⟨gg,0,none⟩) (j+1) gc) (fH (em o2 x3) md (λy hy hm=>nF.2.2 y hm y eK rfl)) (λhm=>Ox eV);have PQ:=ft (p:=⟨g,0,none⟩) (u:= .slice (some ⟨gg,0,none⟩) (j+1) gc) (fH (em o3 x3) md (λy hy hm=>nF.2.2 y hm y eK rfl)) (λhm=>Ox eV);refine⟨eZ dP,_,HB.shut (h:={h with cells:=h.cells++[c]}) U_ sw PP PQ wf ?_,λy hy=>?_,?_⟩
    ·exact uF
    ·exact uk
    ·exact ut
   ·go_simp;refine hK _ _ ⟨kb.d10,?_⟩;refine iW ?_;refine fZ 4 ?_;intro K hK;obtain⟨h0,-,-,-⟩:=kg.c4;go_simp;refine hK _ _ ⟨kb.d10,?_⟩;refine iW ?_;refine fZ 7 ?_;intro K hK;refine gL (A:=Ac) (n:=j) (c:=nd) (b:=w.heap.size+1) (m:=1) (xs:=h.cells.map Cel.toD) (F:=Fa) (d:=Cel.toD c) (F':=G) (te:=43) (cs:=[.int .i64 c.count,.int .i64 c.value.kind,.slice Bi mi di,.slice Bp mp dp,.slice Bn mn dn,.slice Bc mc dc,.slice Bl ml dl,.int .i64 c.value.code,.int .i64 c.value.env,.slice Bq mq dq]) Bg ?_ ?_ (.tmp 36) (.tmp 38) ?_ ?_ ?_ ?_ ?_ ?_ ?_ ?_ ?_ ?_ ?_
    ·kernel_rfl
    ·rfl
    ·rfl
    ·rfl
    ·exact em o1 x3
    ·rfl
    ·exact kn
    ·exact em Yr x3
    ·rfl
    ·exact uy
    ·exact g8
    ·omega
    intro gg gc w3 F3 Vq ap md;have Lg:=Blk.mod (g:=g) kg md (λhm=>(aQ.1 sM).1 eV);have tz:=Blk.mod (g:=w.heap.size) kb md (λhm=>by have:=H.lo w.heap.size eV;omega);have z3:=md.size;simp only[dW,dT]at z3;have hg3:g<w3.heap.size:=Lg.lt;have fz3:=Lg.frozen 0;obtain⟨h0,h1,h2,h3⟩:=Lg.c4;have S3:=tz.d10;refine hK _ _ ⟨S3,?_⟩;refine iW ?_;refine ey 8 ?_;refine ey 9 ?_;refine fZ 10 ?_;intro K hK;go_simp;have kb4:=Blk.pk (p:=⟨g,0,none⟩) (u:= .slice (some ⟨gg,0,none⟩) (j+1) gc) (by show g≠_;omega) tz;have U_:=Lg.set_ 0 (.slice (some ⟨gg,0,none⟩) (j+1) gc);obtain⟨h0',-,-,-⟩:=Blk.c4 (b:= .slice An nn na) (c:= .slice As ns nb) (d:= .int .i64 h.copies) U_;refine hK _ _ ⟨kb4.d10,?_⟩;refine iW ?_;refine bv dU ?_ _;refine ba ?_;clear h0 h1 h2 h3 S3;go_wp2_with fail;go_ret;rw[W6.out];have Ox:=(aQ.1 sM).1;have nF:=aE.1 (aQ.1 sM).2;have hF3:∀y∈F3,y∈Fa\/(y∈G/\y ∉ g::(Fa++(Fb++(Fs++[]))))\/y=w.heap.size+1+1:=λy hy=>uD;have XJ:g ∉ F3:=λhm=>uw;have hlF:∀y∈g::(Fa++(Fb++(Fs++[]))),y<w.heap.size:=H.lo;have PP:=ft (p:=⟨g,0,none⟩) (u:= .slice (some ⟨gg,0,none⟩) (j+1) gc) (fH (em o2 x3) md (λy hy hm=>nF.2.2 y hm y eK rfl)) (λhm=>Ox eV);have PQ:=ft (p:=⟨g,0,none⟩) (u:= .slice (some ⟨gg,0,none⟩) (j+1) gc) (fH (em o3 x3) md (λy hy hm=>nF.2.2 y hm y eK rfl)) (λhm=>Ox eV);refine⟨eZ dP,_,HB.shut (h:={h with cells:=h.cells++[c]}) U_ sw PP PQ wf ?_,λy hy=>?_,?_⟩
    ·exact uF
    ·exact uk
    ·exact ut
theorem Mem.inHB (H:HB w g h F):Mem prog w (g::F) w [.bx g h.toD 28]:=Gd
theorem Mem.outHB {w':World} (M:Mem prog w (g::F) w' [.bx g h'.toD 28]):∃F',HB w' g h' F'/\Sub w.heap.size F F'/\Mod (g::F) w w':=Ga
theorem ES {α:Type}:∀{l:List α} {k:Nat} {x:α},l[k]?=some x->l.set k x=l
 |[],_,_,h=>by simp at h
 |a::t,0,x,h=>by simp at h;subst h;rfl
 |a::t,k+1,x,h=>by simp at h;rw[be,ES h]
theorem Mem.cntAt {c k:Nat} {l:List Cel} {x:Cel} (M:Mem prog w0 X w (.ow (.sl (l.map Cel.toD)) 24 [.slice (some ⟨g,0,none⟩) n c]::R)) (hk:l[k]?=some x):w.cell? ⟨g,k*10,none⟩=some (.int .i64 x.count):=by
 have hr:=M.rp 0 rfl;have hl:=(ef hr).1;rw[au]at hl;have WA:k<n:=sa;obtain⟨b,off,y,_,_,_,_,_,_,_,_,_,_,_,_,_,_,_,_,_,_,e,-,hy,-,h0,-⟩:=lm hr WA;injection e with e;injection e with e1 e2;subst e1 e2;have:=hy.symm.trans hk;injection this with this;subst this
 rwa [bI]at h0
theorem Mem.takeCall {f:Nat} {args:Array Value} {Ψ:Ending->World->Prop} {v:Value} {c:Cel} {cc:List Value} (M:Mem prog w0 X w (.bx g h.toD 28:: .ow c.toD 43 cc::R))
 (hc:∀F Fc,HB w g h F->own prog w c.toD 43 Fc cc->(∀y∈Fc,y ∉ g::F)->Fc.Nodup->Calls prog f args w λe w'=>e= .returned v/\∃F',HB w' g h' F'/\(∀y∈F',y∈F\/y∈Fc\/w.heap.size<=y)/\Mod (g::F) w w')
 (hK:∀w',Mem prog w0 X w' (.bx g h'.toD 28::R)->Ψ (.returned v) w'):Calls prog f args w Ψ:=by
 obtain⟨FF,s1,n1,agm⟩:=Mem.split [_,_] M;obtain⟨G,Fc,rfl,⟨cs,F,rfl,kB,o⟩,s2⟩:=fJ.1 s1;have oc:=iQ.1 s2;obtain⟨m1,m2,m3⟩:=aE.1 n1;refine(hc F Fc ⟨cs,kB,o,m1⟩ oc (λy hy hm=>m3 y hm y hy rfl) m2).mono ?_;rintro e w' ⟨rfl,F',⟨cs',IG,o',nd'⟩,ahU,Pu⟩;refine hK w' (agm w' [_] (g::F') (iQ.2 ⟨cs',F',rfl,IG,o'⟩) nd' (λy hy=>?_) (Pu.mono λy hy=>aG.2 (.inl hy)));rcases aX.1 hy with rfl|hy
 ·exact .inl (aG.2 (.inl dR))
 ·rcases ahU y hy with h1|h1|h1
  ·exact .inl (aG.2 (.inl kw))
  ·exact .inl (aG.2 (.inr h1))
  ·exact .inr h1
theorem Ew:∀{d:Nat} {v:Vec},okD d v=true->okD (d+1) v=true
 |0,v,h=>by rw[s8,ax]at h ⊢;refine⟨h.1,?_⟩;have:=h.2;simp only[PR,dh]at this;simp [PR,this]
 |d+1,v,h=>by rw[s8,ax]at h ⊢;refine⟨h.1,?_⟩;have h2:=h.2;simp only[PR,aV]at h2 ⊢;exact λy hy=>Ew (h2 y hy)
theorem n7 {d:Nat} {v:Vec} (h:okD d v=true):(∀y∈v.parts,∃d',d=d'+1/\okD d' y=true)/\v.parts.length<=40:=by
 rw[s8]at h;simp only[ax]at h;obtain⟨⟨⟨⟨hA,_⟩,hC⟩,_⟩,hL⟩:=h;refine⟨λy hy=>?_,?_⟩
 ·cases d with
  |zero=>simp only[PR,dh]at hL;rw[hL]at hy;simp at hy
  |succ d=>simp only[PR,aV]at hL;exact⟨d,rfl,hL y hy⟩
 ·simp only[CO,ax,aL]at hA;simp only[P6,aL]at hC;have h40:=hA.1.1.2.2;unfold lenV at h40;split at h40
  ·rename_i h5
   unfold IZ at hC;have:v.parts.length=0:=dP;omega
  ·omega
def lcP (v:Vec):Prop:=∀(cs:List Value) (w:World),okD 3 v=true->szD v.toD<=500000000000->rep w w.heap.size v.toD cs->Calls prog 56 #[av cs] w (gM v.toD 38 w)
theorem BF (l:List Vec) (ih:∀y∈l,lcP y) (jV:∀y∈l,okD 3 y=true/\szD y.toD<=500000000000) (h40:l.length<=40) (A:Option Addr) (n c:Nat) (w:World) (h:rep w w.heap.size (.sl (l.map Vec.toD)) [.slice A n c]):
 Calls prog 127 #[.slice A n c] w (oK (l.map Vec.toD) 36 w):=by
 obtain⟨kO,hlc,sT⟩:=ef h;rw[au]at kO;have hn:n<=40:=dP;have HL:=aa kO;have HI:=aa ih;have HK:=aa jV;have x0:Below w.heap.size w (w.alloc (.cells #[] 38)):=(Below.refl _ _).alloc (af _) _;clear kO ih jV h40;go_enter func127,ntmps127;go_wp2_with fail;go_loopw [3,4] (λo i wr=>∃(j:Nat) (A':Option Addr) (c':Nat) (Fo:List Nat),j<=n/\i= .int .i64 j/\o= .slice A' j c'/\own prog wr (.sl ((l.take j).map Vec.toD)) 36 Fo [.slice A' j c']/\Fresh w.heap.size Fo/\Below w.heap.size w wr) (λ_ i _=>n - (intOf i).toNat)
 case atStart=>exact⟨0,some ⟨w.heap.size,0,none⟩,0,[w.heap.size],by omega,rfl,rfl,rW underlying36,⟨by simp,by simp⟩,x0⟩
 case round=>
  obtain⟨j,A',c',Fo,hj,rfl,rfl,oo,fro,bel⟩:=hrel;by_cases hlt:j<n
  ·obtain⟨b,off,x,Ei,ui,vi,Ep,up,vp,En,un,vn,Ec,uc,vc,El,ul,vl,rfl,gD,hx,fE,e0,e1,e2,e3,e4,e5,e6,e7⟩:=my (fF h bel) hlt;have hm:=aA hx;have WB:=HK.out x hm;have HX:=aa hx;have HCP:=aa (HI.out x hm);have HOX:=aa WB.1;have ahV:=WB.2;have loo:=gC oo;have zr:=bel.size;have uK:b<wr.heap.size:=dP;have j40:(j:Int)<=40:=dP;have j41:(j:Int)<(n:Int):=dP;have j0:(0:Int)<=(j:Int):=dP;clear hx hm WB;go_wp2_with fail;refine(Ny 3 dP x _ _ (gY fE zr) (by unfold bigV;omega)).mono ?_;rw[HOX.out];rintro e w1 ⟨rfl,hb1⟩;have c0:=(hb1.cell (p:=⟨b,off+j*8,none⟩) uK).trans e0;have c1:=(hb1.cell (p:=⟨b,off+j*8+1,none⟩) uK).trans e1;have c2:=(hb1.cell (p:=⟨b,off+j*8+2,none⟩) uK).trans e2;have c3:=(hb1.cell (p:=⟨b,off+j*8+3,none⟩) uK).trans e3;have c4:=(hb1.cell (p:=⟨b,off+j*8+4,none⟩) uK).trans e4;have c5:=(hb1.cell (p:=⟨b,off+j*8+5,none⟩) uK).trans e5;have c6:=(hb1.cell (p:=⟨b,off+j*8+6,none⟩) uK).trans e6;have c7:=(hb1.cell (p:=⟨b,off+j*8+7,none⟩) uK).trans e7;have ago:=ij bel hb1;have z1:=hb1.size;have WE:=fM (gY fE zr) hb1;replace oo:=em oo hb1;clear e0 e1 e2 e3 e4 e5 e6 e7;go_wp2_with (first
    |(go_at_call 56;refine(HCP.out _ w1 HOX.out ahV WE).mono ?_;rintro e w2 ⟨cs2,G2,rfl,o2,fr2,jS⟩;obtain⟨Bi,mi,di,Bp,mp,dp,Bn,mn,dn,Bc,mc,dc,Bl,ml,dl,rfl,-⟩:=fw (eW _ _ _ _ o2);have z2:=jS.size;have x2:Below w2.heap.size w2 (w2.alloc (.cells #[x.kind,.slice Bi mi di,.slice Bp mp dp,.slice Bn mn dn,.slice Bc mc dc,.slice Bl ml dl,x.code,x.env] 38)):=(Below.refl _ _).alloc (af _) _;have kn2:Blk (w2.alloc (.cells #[x.kind,.slice Bi mi di,.slice Bp mp dp,.slice Bn mn dn,.slice Bc mc dc,.slice Bl ml dl,x.code,x.env] 38)) w2.heap.size 38 [x.kind,.slice Bi mi di,.slice Bp mp dp,.slice Bn mn dn,.slice Bc mc dc,.slice Bl ml dl,x.code,x.env]:=Blk.new' (l:=[.int .i64 x.kind,.slice Bi mi di,.slice Bp mp dp,.slice Bn mn dn,.slice Bc mc dc,.slice Bl ml dl,.int .i64 x.code,.int .i64 x.env]))
    |(at_builtin;refine n8 (xs:=(l.take j).map Vec.toD) (F:=Fo) (d:=x.toD) (F':=G2) (b:=w2.heap.size) (m:=1) (te:=38) (cs:=[.int .i64 x.kind,.slice Bi mi di,.slice Bp mp dp,.slice Bn mn dn,.slice Bc mc dc,.slice Bl ml dl,.int .i64 x.code,.int .i64 x.env]) jM dU rfl _ _ rfl rfl (em (em oo jS) x2) rfl kn2 (em o2 x2) rfl ?_ eb dP ?_;(exact aE.2 ⟨fro.1,fr2.1,λa ha b hb e=>by have h1:=loo a ha;have h2:=fr2.2 b hb;omega⟩);intro gg gc w3 F3 o3 ap3 md3))
   have z3:=md3.size;simp only[dT]at z3 ap3;go_roundw
   case rel=>
    refine⟨j+1,some ⟨gg,0,none⟩,gc,F3,by omega,by go_num,rfl,?_,⟨ap3.1,λy hy=>?_⟩,?_⟩
    ·rw[eJ HX.out,aI];exact o3
    ·rcases ap3.2 y hy with h1|h1|h1
     ·exact fro.2 y h1
     ·have:=fr2.2 y h1;omega
     ·omega
    ·exact jN (ij ago (ij jS x2)) md3 (λy hy=>fro.2 y hy) eA
   case measure=>simp [intOf];omega
  ·obtain rfl:j=n:=dP;rw[aC ws]at oo;go_wp2_with fail;go_ret;exact⟨A',j,c',Fo,rfl,oo,fro,bel⟩
theorem nT (v:Vec):lcP v:=by
 refine iH (P:=lcP) (λv ih=>?_) v;intro cs w jV kD h;have hp:=n7 jV;have ga:bigV v:=by unfold bigV;omega
 have xy:∀y∈v.parts,okD 3 y=true/\szD y.toD<=500000000000:=λy hy=>by obtain⟨d',hd,Ya⟩:=hp.1 y hy;obtain rfl:d'=2:=dP;refine⟨Ew Ya,?_⟩;have h1:=go v;have h2:∀(l:List Vec),y∈l->szD y.toD<=gv (l.map Vec.toD):=Gg;have h3:=h2 v.parts hy;rw[h1]at kD;simp only[szD]at kD;omega
 have adO:=JN v v.parts (λA n c w hr=>BF v.parts ih xy hp.2 A n c w hr) cs w h kD;have e:(⟨v.kind,v.items,v.parts,v.names,v.cls,v.levels,v.code,v.env⟩:Vec)=v:=by cases v;rfl
 rw[e]at adO;exact adO
def incS (h:Hp) (p:Int):Hp:=eG h p.toNat (gE (celD h p))
def incOK (h:Hp) (p:Int):Prop:=inR h p=true/\Xd (celD h p).count
def ownH (h:Hp) (s:Str):Hp × Int:=gH ((celD h (slotD h s)).parts.foldl incS h) ⟨1,(celD h (slotD h s)).value,(celD h (slotD h s)).parts⟩
def iz (h:Hp) (s:Str):Hp × Int:=if (celD h (slotD h s)).count=1 then (h,slotD h s) else ({fd (ownH h s).1 s (ownH h s).2 with copies:=wrap64 (h.copies+1)},(ownH h s).2)
theorem qd (h:Hp) (c:Cel):(gH h c).1.names=h.names/\(gH h c).1.slots=h.slots/\(gH h c).1.copies=h.copies:=by unfold gH;cases gy h.cells 0<;>exact⟨rfl,rfl,rfl⟩
theorem nX {f:Hp->Int->Hp} (hf:∀h p,(f h p).names=h.names/\(f h p).slots=h.slots/\(f h p).copies=h.copies):∀(l:List Int) (h:Hp),(l.foldl f h).names=h.names/\(l.foldl f h).slots=h.slots/\(l.foldl f h).copies=h.copies
 |[],h=>⟨rfl,rfl,rfl⟩
 |p::t,h=>by rw[bC];have h1:=nX hf t (f h p);have h2:=hf h p;exact⟨h1.1.trans h2.1,h1.2.1.trans h2.2.1,h1.2.2.trans h2.2.2⟩
theorem tX (h:Hp) (p:Int):(incS h p).names=h.names/\(incS h p).slots=h.slots/\(incS h p).copies=h.copies:=⟨rfl,rfl,rfl⟩
theorem ug:∀(f:Nat) (h:Hp) (k:Int),(iD f h k).names=h.names/\(iD f h k).slots=h.slots/\(iD f h k).copies=h.copies
 |0,h,k=>⟨rfl,rfl,rfl⟩
 |f+1,h,k=>by
  rw[iD];split
  ·exact⟨rfl,rfl,rfl⟩
  ·exact nX (ug f) _ _
theorem KH (h:Hp) (s:Str) (k:Int):(fd h s k).copies=h.copies:=by
 unfold fd;split
 ·exact(ug _ _ _).2.2
 ·rfl
theorem Bo (h:Hp) (c k:Int):celD {h with copies:=c} k=celD h k:=rfl
theorem zB {f:Hp->Int->Hp} {c:Int} (hf:∀h p,f {h with copies:=c} p={f h p with copies:=c}):∀(l:List Int) (h:Hp),l.foldl f {h with copies:=c}={l.foldl f h with copies:=c}
 |[],h=>rfl
 |p::t,h=>by rw[bC,hf,zB hf t,bC]
theorem vM (c:Int):∀(f:Nat) (h:Hp) (k:Int),iD f {h with copies:=c} k={iD f h k with copies:=c}
 |0,h,k=>rfl
 |f+1,h,k=>by
  rw[iD,iD,Bo];split
  ·rfl
  ·exact zB (vM c f) _ (eG h k.toNat lf)
theorem RJ (h:Hp) (s:Str) (k c:Int):fd {h with copies:=c} s k={fd h s k with copies:=c}:=by
 unfold fd;split
 ·exact vM c 5 {h with slots:=h.slots.set (ix h.names s 0).toNat k} (slotD h s)
 ·rfl
structure OwnOK (h:Hp) (s:Str):Prop where
 len:h.names.length=h.slots.length
 nm:(h.names.length:Int)<=1073741824
 has:hasN h s=true
 inr:inR h (slotD h s)=true
 more:(celD h (slotD h s)).count=1\/((celD h (slotD h s)).value.parts=[]/\szD (celD h (slotD h s)).value.toD<=500000000000/\((celD h (slotD h s)).parts.length:Int)<=1073741824/\allOK incOK incS h (celD h (slotD h s)).parts/\
  (((celD h (slotD h s)).parts.foldl incS h).cells.length:Int)<=1073741824/\relOK 5 {(ownH h s).1 with slots:=(ownH h s).1.slots.set (ix (ownH h s).1.names s 0).toNat (ownH h s).2} (slotD (ownH h s).1 s))
theorem Aa (c:Int):∀(f:Nat) (h:Hp) (k:Int),relOK f {h with copies:=c} k↔relOK f h k
 |0,h,k=>Iff.rfl
 |f+1,h,k=>by
  have iU:∀(l:List Int) (h:Hp),allOK (relOK f) (iD f) {h with copies:=c} l↔allOK (relOK f) (iD f) h l:=by
   intro l
   induction l with
   |nil=>intro h;exact Iff.rfl
   |cons p t ih=>intro h;rw[allOK,allOK,vM,ih,Aa c f h p]
  rw[relOK,relOK,Bo];have:=iU (celD h k).parts (eG h k.toNat lf);exact and_congr Iff.rfl (and_congr Iff.rfl (or_congr Iff.rfl this))
def EN (f:Nat):Prop:=∀(h:Hp) (k:Int) (g:Nat) (F:List Nat) (w:World),HB w g h F->relOK f h k->Calls prog 103 #[.pointer (some ⟨g,0,none⟩),k] w λe w'=>e= .returned (.tuple #[])/\∃F',HB w' g (iD f h k) F'/\Sub w.heap.size F F'/\Mod (g::F) w w'
theorem PZ (f:Nat) (ih:EN f):EN (f+1):=by
 intro h k g F w H jV;rw[relOK]at jV;obtain⟨hin,xe,zN⟩:=jV;obtain⟨i,x,rfl,hil,hx,ld⟩:=kU hin;rw[ld]at xe zN;rw[aU]at zN;have hrd:iD (f+1) h (i:Int)=if 0<x.count - 1 then eG h i (KP x) else x.parts.foldl (iD f) (eG h i lf):=by rw[iD,ld,aU]
 obtain⟨bc,nc,nd,An,nn,na,As,ns,nb,Fx,cx,pre,post,kB,hl,hm,ox,Ix,Zw,hp,hB,Po,qo,ZK,Zz,Lb⟩:=H.cell_ hx;obtain⟨Ei,ui,vi,Ep,up,vp,En,un,vn,Ec,uc,vc,El,ul,vl,Ez,uq,vq,G1,G2,G3,G4,G5,G6,rfl,hFx,q1,q2,q3,q4,q5,q6⟩:=jp ox;obtain⟨e0,e1,e2,e3,e4,e5,e6,e7,e8,e9⟩:=hB.e10 hp;obtain⟨f0,f1,f2,f3,f4,f5,f6,f7,f8,f9⟩:=hB.fr10 (m:=i*10);have hlq:=ef (eW _ _ _ _ q6);rw[au]at hlq;obtain⟨Ww,hb1⟩:=xe;have hlt:(i:Int)<(nc:Int):=dP;have i0:(0:Int)<=(i:Int):=dP;have JA:=H.lt;have hbs:bc<w.heap.size:=H.lo bc (aP _ Po);have HRD:=aa hrd;have xo:=aa ih;have HX:=aa hx;obtain⟨g0,g1,g2,g3⟩:=kB.c4;have HLQ:=aa hlq;have huq:(uq:Int)<=9223372036854775807:=by have:=hlq.2.2;unfold maxLen at this;omega
 have HL:=aa hl;clear hin ld hrd ih hx hlq hl hil q1 q2 q3 q4 q5;by_cases hpos:0<x.count - 1
 ·have HP:=aa hpos;have d1:decide (0<x.count - 1)=true:=by simpa using hpos
  go_enter func103,ntmps103;go_wp2_with fail;refine bM (v:= .tuple #[]) (by simp [results,results103,go_sem]) rfl ?_;rw[HRD.out,aN HP.out];have md:Mod (bc::Fx) w (w.setCell ⟨bc,i*10,none⟩ (.int .i64 (x.count - 1))):=Mod.mono (F:=[bc]) (Mod.poke (F:=[bc]) dR _) dR;obtain⟨F',HF,xR⟩:=Lb _ (KP x) [.int .i64 (x.count - 1),x.value.kind,.slice Ei ui vi,.slice Ep up vp,.slice En un vn,.slice Ec uc vc,.slice El ul vl,x.value.code,x.value.env,.slice Ez uq vq] Fx rfl (fH (F:=[bc]) (Dm ox (kP.2 fP)) (Mod.poke (F:=[bc]) dR _) (λy hy hm=>qo (by simp at hm;subst hm;exact hy))) Ix (λy hy=> .inl hy) (Blk.put_ hB hp (j:=0) dR gO _) md;exact⟨rfl,F',HF,xR.sub (λy hy=> .inl (ZK y hy)),md.mono (λy hy=>aP _ se)⟩
 ·have DO:allOK (relOK f) (iD f) (eG h i lf) x.parts:=by rcases zN with h1|h1;exact absurd h1 hpos;exact h1
  have OR:=aa DO;have HP:=aa hpos;have d1:decide (0<x.count - 1)=false:=by simpa using hpos
  clear zN DO;go_enter func103,ntmps103;go_wp2_with fail;have Vi:Mod [bc] w (((((((((((w.setCell ⟨bc,i*10,none⟩ (.int .i64 (x.count - 1))).setCell ⟨bc,i*10,none⟩ (.int .i64 0)).setCell ⟨bc,i*10+1,none⟩ (.int .i64 0)).setCell ⟨bc,i*10+2,none⟩ (.slice none 0 0)).setCell ⟨bc,i*10+3,none⟩ (.slice none 0 0)).setCell ⟨bc,i*10+4,none⟩ (.slice none 0 0)).setCell ⟨bc,i*10+5,none⟩ (.slice none 0 0)).setCell ⟨bc,i*10+6,none⟩ (.slice none 0 0)).setCell ⟨bc,i*10+7,none⟩ (.int .i64 0)).setCell ⟨bc,i*10+8,none⟩ (.int .i64 0)).setCell ⟨bc,i*10+9,none⟩ (.slice none 0 0)):=iV (Mod.poke (F:=[bc]) dR _) (Q3 dR) (λ_ h=>h);have md:Mod (bc::Fx) w (((((((((((w.setCell ⟨bc,i*10,none⟩ (.int .i64 (x.count - 1))).setCell ⟨bc,i*10,none⟩ (.int .i64 0)).setCell ⟨bc,i*10+1,none⟩ (.int .i64 0)).setCell ⟨bc,i*10+2,none⟩ (.slice none 0 0)).setCell ⟨bc,i*10+3,none⟩ (.slice none 0 0)).setCell ⟨bc,i*10+4,none⟩ (.slice none 0 0)).setCell ⟨bc,i*10+5,none⟩ (.slice none 0 0)).setCell ⟨bc,i*10+6,none⟩ (.slice none 0 0)).setCell ⟨bc,i*10+7,none⟩ (.int .i64 0)).setCell ⟨bc,i*10+8,none⟩ (.int .i64 0)).setCell ⟨bc,i*10+9,none⟩ (.slice none 0 0)):=Vi.mono dR;have hG6:∀y∈G6,y∈Fx:=λy hy=>by rw[hFx];simp [hy]
  have q6':=fH q6 Vi (λy hy hm=>qo (by simp at hm;subst hm;exact hG6 _ hy));obtain⟨F2,H2,TA⟩:=Lb _ lf [.int .i64 0,.int .i64 0,(),(),(),(),(),.int .i64 0,.int .i64 0,()] [] rfl (JY _) List.nodup_nil (λy hy=>by simp at hy) (Blk.put10 (Blk.put_ hB hp (j:=0) (o:=i*10) dR gO _) hp) md;have Bw:∀y∈G6,y ∉ g::F2:=λy hy hm=>GW;have aht:∀y∈G6,y<w.heap.size:=gC q6;obtain⟨W,hW⟩:∃W,W=(((((((((((w.setCell ⟨bc,i*10,none⟩ (.int .i64 (x.count - 1))).setCell ⟨bc,i*10,none⟩ (.int .i64 0)).setCell ⟨bc,i*10+1,none⟩ (.int .i64 0)).setCell ⟨bc,i*10+2,none⟩ (.slice none 0 0)).setCell ⟨bc,i*10+3,none⟩ (.slice none 0 0)).setCell ⟨bc,i*10+4,none⟩ (.slice none 0 0)).setCell ⟨bc,i*10+5,none⟩ (.slice none 0 0)).setCell ⟨bc,i*10+6,none⟩ (.slice none 0 0)).setCell ⟨bc,i*10+7,none⟩ (.int .i64 0)).setCell ⟨bc,i*10+8,none⟩ (.int .i64 0)).setCell ⟨bc,i*10+9,none⟩ (.slice none 0 0)):=⟨_,rfl⟩;have zW:W.heap.size=w.heap.size:=by rw[hW];simp only[dX,dW]
  rw[<-hW]at md q6' H2 ⊢;clear hW Vi g0 g1 g2 g3 e0 e1 e2 e3 e4 e5 e6 e7 e8 e9 f0 f1 f2 f3 f4 f5 f6 f7 f8 f9 kB hB;go_loopw [44] (λv wr=>∃(j:Nat) (F':List Nat),j<=uq/\v= .int .i64 j/\HB wr g ((x.parts.take j).foldl (iD f) (eG h i lf)) F'/\Sub W.heap.size F2 F'/\Mod (g::F2) W wr) (λv _=>uq - (intOf v).toNat)
  case atStart=>exact⟨0,F2,by omega,rfl,H2,Sub.refl,Mod.refl⟩
  case round=>
   obtain⟨j,F',hj,rfl,Hj,sj,mj⟩:=hrel;by_cases hlj:j<uq
   ·obtain⟨A',n',c',he,-,-,hr,-⟩:=(qy _ _ _ _).1 (eW _ _ _ _ (fH q6' mj Bw));injection he with he;injection he with f1 f2 f3;subst f1 f2 f3
    obtain⟨b,off,y,rfl,gD,hy,xO⟩:=hr.atI hlj;have HY:=aa hy;clear hy hr;go_wp2_with fail;refine(xo.out _ y g F' wr Hj (qR OR.out HY.out)).mono ?_;rintro e w3 ⟨rfl,F3,H3,s3,m3⟩;go_wp2_with fail;go_roundw
    case rel=>exact⟨j+1,F3,by omega,by go_num,by rw[rT HY.out];exact H3,sj.trans s3 mj.size,nO mj m3 (kj sj) (af _)⟩
    case measure=>simp [intOf];omega
   ·obtain rfl:j=uq:=dP;go_wp2_with fail;refine bodyPost_end (v:= .tuple #[]) (by simp [results,results103,go_sem]) rfl ?_;rw[aC (by rw[HLQ.out.1];exact af _)]at Hj;rw[HRD.out,aH (by have:=HP.out;omega)];have s2:Sub w.heap.size F F2:=TA.sub (λy hy=>by simp at hy);exact⟨rfl,F',Hj,s2.trans sj dP,nO (md.mono (λy hy=>aP _ se)) mj (kj s2) dP⟩
theorem vN:∀f:Nat,EN f
 |0=>λh k g F w H jV=>by rw[relOK]at jV;exact jV.elim
 |f+1=>PZ f (vN f)
theorem xL (h:Hp) (s:Str) (k:Int) (g:Nat) (F:List Nat) (w:World) (H:HB w g h F) (hs:s.length<=maxLen) (hk:(Lit.int .i64 k).wf=true) (hl:h.names.length=h.slots.length) (hn:(h.names.length:Int)<=1073741824)
 (hR:hasN h s=true->relOK 5 {h with slots:=h.slots.set (ix h.names s 0).toNat k} (slotD h s)):
 Calls prog 39 #[.pointer (some ⟨g,0,none⟩),sv s,k] w λe w'=>e= .returned (.tuple #[])/\∃F',HB w' g (fd h s k) F'/\Sub w.heap.size F F'/\Mod (g::F) w w':=by
 have JA:=H.lt;have XR:=H.lo;have sM:=H.nd;have mT:=pY h.names s 0;cases hb:hasN h s with
 |false=>
  have xe:fd h s k={h with names:=h.names++[s],slots:=h.slots++[k]}:=by unfold fd;rw[aH sk]
  obtain⟨Ac,nc,cc,An,nn,cn,As,ns,cs,Fc,Fn,Fs,kB,rfl,o1,o2,o3,wf⟩:=H.open_;have xf:=ef (eW _ _ _ _ o2);have hl3:=ef (eW _ _ _ _ o3);rw[au]at xf hl3;obtain⟨Ct,CE,Hw,he,-,-,hr,-⟩:=(ls _ _ _ _).1 (eW _ _ _ _ o2);injection he with he;injection he with f1 f2 f3;subst f1 f2 f3
  have R5:=jx An nn cn h.names s w hr dP;have h0:ix h.names s 0<0:=by simp only[hasN,bB]at hb;omega
  have hnn:(nn:Int)<=1073741824:=dP;have hns:(ns:Int)<=1073741824:=dP;have TN:=aa xe;obtain⟨g0,g1,g2,g3⟩:=kB.c4;have fz1:=kB.frozen 1;have fz2:=kB.frozen 2;have nF:=aE.1 (aQ.1 sM).2;have nG:=aE.1 nF.2.1;have Ts:=aa xf;have HL3:=aa hl3;clear hb xe hR hl xf hl3 hr mT hn;go_enter func39,ntmps39;go_wp2_with fail;refine R5.mono ?_;rintro e w1 ⟨rfl,rfl⟩;have x1:Below w.heap.size w (w.alloc (.cells #[sv s] 9)):=(Below.refl _ _).alloc (af _) _;have kn1:Blk (w.alloc (.cells #[sv s] 9)) w.heap.size 9 [sv s]:=Blk.new' (l:=[sv s]);have Ox:=(aQ.1 sM).1;go_wp2_with (first|(at_builtin;refine n8 (xs:=h.names.map D.s) (F:=Fn) (d:=D.s s) (F':=[]) (b:=w.heap.size) (m:=1) (te:=9) (cs:=[sv s]) jm dU rfl _ _ rfl rfl (em o2 x1) rfl kn1 (by rw[own];exact⟨rfl,rfl,hs⟩) rfl (by simpa using nG.1) eb dP ?_;intro gg gc w2 F2 PP ap md;have kg2:=Blk.mod (g:=g) (kB.next x1) md (λhm=>Ox eV);have md1:Mod (g::(Fc++(Fn++(Fs++[])))) w (w2.setCell ⟨g,1,none⟩ (.slice (some ⟨gg,0,none⟩) (nn+1) gc)):=iV (iV (gU Mod.refl x1) md (λy hy=>by simp [hy])) (Mod.poke (F:=g::(Fc++(Fn++(Fs++[])))) dR _) (λ_ h=>h);obtain⟨h0,h1,h2,h3⟩:=kg2.c4;have fg1:=kg2.frozen 1;have fg2:=kg2.frozen 2;obtain⟨F3,H3,s3⟩:=HB.names_app (kB.next x1) (em o1 x1) (em o3 x1) wf sM (XR.mono dR) PP ap md;replace s3:=s3.low (B:=w.heap.size) dR;have hnd3:=H3.nd;have hlo3:=H3.lo;have hgs3:=H3.lt;obtain⟨Ac3,nc3,cc3,An3,nn3,cn3,As3,ns3,cs3,Fc3,Fn3,Fs3,kB3,rfl,p1,p2,p3,Wa⟩:=H3.open_;obtain⟨rfl,rfl,rfl,rfl,rfl,rfl,rfl,rfl,rfl⟩:=pz (h:={h with names:=h.names++[s]}) (kg2.set_ 1 (.slice (some ⟨gg,0,none⟩) (nn+1) gc)) kB3;have zb:=dX w2 ⟨g,1,none⟩ (.slice (some ⟨gg,0,none⟩) (nn+1) gc);simp only[dX]at hlo3 hgs3;have x3:Below w2.heap.size (w2.setCell ⟨g,1,none⟩ (.slice (some ⟨gg,0,none⟩) (nn+1) gc)) ((w2.setCell ⟨g,1,none⟩ (.slice (some ⟨gg,0,none⟩) (nn+1) gc)).alloc (.cells #[k] 3)):=(Below.refl _ _).alloc qm _;have kn3:Blk ((w2.setCell ⟨g,1,none⟩ (.slice (some ⟨gg,0,none⟩) (nn+1) gc)).alloc (.cells #[k] 3)) w2.heap.size 3 [k]:=by(have:=Blk.new' (w:=w2.setCell ⟨g,1,none⟩ (.slice (some ⟨gg,0,none⟩) (nn+1) gc)) (t:=3) (l:=[.int .i64 k]);rwa [zb]at this))|(at_builtin;refine n8 (xs:=h.slots.map (D.i .i64)) (F:=Fs3) (d:=D.i .i64 k) (F':=[]) (b:=w2.heap.size) (m:=1) (te:=3) (cs:=[.int .i64 k]) Kh dU rfl _ _ rfl rfl (fK p3) rfl kn3 (by rw[own];exact⟨rfl,rfl,hk⟩) rfl BQ eb dP ?_;intro gh gd w5 F5 o5 ap5 md5;have kg5:=Blk.mod (g:=g) kB3.al md5 (λhm=>(aQ.1 hnd3).1 eV);obtain⟨h0',h1',h2',h3'⟩:=kg5.c4;have fg5:=kg5.frozen 2));refine bM (v:= .tuple #[]) (by simp [results,results39,go_sem]) rfl ?_;rw[TN.out];obtain⟨F6,H6,s6⟩:=HB.slots_app (h:={h with names:=h.names++[s]}) kB3.al (fK p1) (fK p2) Wa hnd3 (hlo3.mono fC) o5 ap5 md5;replace s6:=s6.low (B:=w2.heap.size) fC;have e1:Fc++(Fn++(Fs++[]))=Fc++(Fn++Fs):=by rw[bP]
  rw[e1]at s3 md1;exact⟨rfl,F6,H6,s3.trans s6 (by have:=md.size;simp only[dT]at this;omega),nO md1 (iV (iV (gU Mod.refl ((Below.refl _ _).alloc (af _) _)) md5 (λy hy=>by simp [hy])) (Mod.poke (F:=g::(Fc3++(Fn3++(Fs3++[])))) dR _) (λ_ h=>h)) (kj s3) (af _)⟩
 |true=>
  have h0:0<=ix h.names s 0:=sk;obtain⟨i,hi⟩:=bQ h0;have hil:i<h.slots.length:=dP;have xe:fd h s k=iD 5 {h with slots:=h.slots.set i k} (slotD h s):=by unfold fd;rw[aN h0,hi,aU]
  have Tu:=hR hb;rw[hi,aU]at Tu;have TB:h.slots[i]?=some (slotD h s):=Ca;obtain⟨y,hy⟩:∃y,y=slotD h s:=⟨_,rfl⟩;rw[<-hy]at Tu TB xe;obtain⟨Ac,nc,cc,An,nn,cn,bs,ns,cs,kB,hsn,hsm,e0,e1,Po,hbg,H1⟩:=H.slot_set TB hk;obtain⟨L4,JS,L7,Ct,CE,Hw,Wl,WG,cs',Fc,Fn,Fs,IG,hF,o1,o2,o3,wf⟩:=H.open_;obtain⟨rfl,rfl,rfl,rfl,rfl,rfl,rfl,rfl,rfl⟩:=pz kB IG;have xf:=ef (eW _ _ _ _ o2);rw[au]at xf;obtain⟨Ct,CE,Hw,he,-,-,hr,-⟩:=(ls _ _ _ _).1 (eW _ _ _ _ o2);injection he with he;injection he with f1 f2 f3;subst f1 f2 f3
  have R5:=jx An nn cn h.names s w hr dP;rw[hi]at R5;have TN:=aa xe;have hlt:(i:Int)<(ns:Int):=dP;have i0:(0:Int)<=(i:Int):=dP;have HR2:=aa Tu;obtain⟨g0,g1,g2,g3⟩:=kB.c4;clear hb xe hR hl xf hr mT hn hi h0 hil TB hy Tu IG hsn o1 o2 o3 hF;go_enter func39,ntmps39;go_wp2_with fail;refine R5.mono ?_;rintro e w1 ⟨rfl,rfl⟩;go_wp2_with fail;refine(vN 5 _ y g F _ H1 HR2.out).mono ?_;rintro e w3 ⟨rfl,F3,H3,s3,m3⟩;go_wp2_with fail;refine bodyPost_end (v:= .tuple #[]) (by simp [results,results39,go_sem]) rfl ?_;rw[TN.out];have md:Mod (g::F) w (w.setCell ⟨bs,i,none⟩ (.int .i64 k)):=Mod.poke (by simp [Po]) _;exact⟨rfl,F3,H3,s3.low qm,nO md m3 Sub.refl (af _)⟩
end Go.Proofs.YtekcpadlmfaihaaGreat
