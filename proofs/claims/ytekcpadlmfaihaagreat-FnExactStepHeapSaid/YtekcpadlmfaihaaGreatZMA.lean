/- One assertion for all memory of a call's own: a list of boxes and data in blocks apart from each other. -/
import Derived.Test.YtekcpadlmfaihaaGreatZG
namespace Go.Proofs.YtekcpadlmfaihaaGreat
open Go.RowKit Proofs.Tryz
set_option linter.unusedSimpArgs false
set_option linter.unusedVariables false
variable {i:Nat} {α:Type}
theorem wX {α:Type} {x:α}:∀{L:List α} {k:Nat},L[k]?=some x->L.Perm (x::L.eraseIdx k)
 |[],_,h=>by simp at h
 |a::t,0,h=>by simp at h;subst h;exact .refl _
 |a::t,k+1,h=>by simp at h;exact((wX h).cons a).trans (.swap _ _ _)
inductive As where
 |bk (g:Nat) (t:TypeId) (cs:List Value)
 |ow (d:D) (t:TypeId) (cs:List Value)
 |fa (p:Prop)
 |oa (xs:List D) (e:TypeId) (css:List (List Value))
 |bx (g:Nat) (d:D) (t:TypeId)
def As.sat (P:Program) (w:World):As->List Nat->Prop
 | .bk g t cs,F=>F=[g]/\Blk w g t cs
 | .ow d t cs,F=>own P w d t F cs
 | .fa p,F=>F=[]/\p
 | .oa xs e css,F=>iv P w xs e F css
 | .bx g d t,F=>∃cs F',F=g::F'/\Blk w g t cs/\own P w d t F' cs
def Sats (P:Program) (w:World):List As->List Nat->Prop
 |[],F=>F=[]
 |x::t,F=>∃F1 F2,F=F1++F2/\x.sat P w F1/\Sats P w t F2
structure Mem (P:Program) (w0:World) (X:List Nat) (w:World) (L:List As):Prop where
 mod:Mod X w0 w
 sats:∃F,Sats P w L F/\F.Nodup/\∀g∈F,g∈X\/w0.heap.size<=g
def lH {α:Type} (L:List α) (k:List Nat):List α:=k.filterMap λi=>L[i]?
section
variable {P:Program} {w0 w w':World} {X F:List Nat} {L M C C' R:List As} {x y:As} {g i:Nat} {t:TypeId} {cs:List Value} {d:D} {u:Value}
theorem JR {p:Addr} (hp:p.block∈F) (u:Value):Mod F w (w.setCell p u):=
 ⟨⟨rfl,rfl,rfl⟩,by simp [World.setCell],λg _ hn=>Below.heap_setCell w p u g (by rintro rfl;exact hn hp)⟩
theorem ab7 (h:x.sat P w F):∀g∈F,g<w.heap.size:=by
 cases x with
 |bk g t cs=>obtain⟨rfl,h⟩:=h;intro y hy;simp at hy;subst hy;exact h.lt
 |ow d t cs=>exact jT d t F cs h
 |fa p=>obtain⟨rfl,h⟩:=h;simp
 |oa xs e css=>exact qF xs e F css h
 |bx g d t=>
  obtain⟨cs,F',rfl,hB,ho⟩:=h;intro y hy;rcases aX.1 hy with rfl|hy
  ·exact hB.lt
  ·exact jT d t F' cs ho y hy
theorem VZ (h:x.sat P w F) (hk:∀g∈F,w'.heap[g]?=w.heap[g]?):x.sat P w' F:=by
 cases x with
 |bk g t cs=>obtain⟨rfl,h⟩:=h;exact⟨rfl,(hk g dR).trans h⟩
 |ow d t cs=>exact nJ d t F cs hk h
 |fa p=>exact h
 |oa xs e css=>exact mI xs e F css hk h
 |bx g d t=>
  obtain⟨cs,F',rfl,hB,ho⟩:=h;exact⟨cs,F',rfl,(hk g dR).trans hB,nJ d t F' cs (λy hy=>hk y eK) ho⟩
theorem wY:∀{L:List As} {F:List Nat},Sats P w L F->∀g∈F,g<w.heap.size
 |[],F,h=>by rw[Sats]at h;subst h;simp
 |x::t,F,h=>by
  rw[Sats]at h;obtain⟨F1,F2,rfl,h1,h2⟩:=h;intro g hg;rcases aG.1 hg with hg|hg
  ·exact ab7 h1 g hg
  ·exact wY h2 g hg
theorem th:∀{L:List As} {F:List Nat},Sats P w L F->(∀g∈F,w'.heap[g]?=w.heap[g]?)->Sats P w' L F
 |[],F,h,_=>by rw[Sats]at h ⊢;exact h
 |x::t,F,h,hk=>by rw[Sats]at h ⊢;obtain⟨F1,F2,rfl,h1,h2⟩:=h;exact⟨F1,F2,rfl,VZ h1 (λg hg=>hk g fe),th h2 (λg hg=>hk g fe)⟩
theorem nL:∀{L M:List As} {F:List Nat},Sats P w (L++M) F↔∃F1 F2,F=F1++F2/\Sats P w L F1/\Sats P w M F2
 |[],M,F=>by
  constructor
  ·intro h;exact⟨[],F,rfl,by rw[Sats],h⟩
  ·rintro⟨F1,F2,rfl,h1,h2⟩;rw[Sats]at h1;subst h1;exact h2
 |x::t,M,F=>by
  rw[cK,Sats];constructor
  ·rintro⟨F1,F2,rfl,h1,h2⟩;obtain⟨G1,G2,rfl,h3,h4⟩:=nL.1 h2;exact⟨F1++G1,G2,by simp,by rw[Sats];exact⟨F1,G1,rfl,h1,h3⟩,h4⟩
  ·rintro⟨F1,F2,rfl,h1,h2⟩;rw[Sats]at h1;obtain⟨G1,G2,rfl,h3,h4⟩:=h1;exact⟨G1,G2++F2,by simp,h3,nL.2 ⟨G2,F2,rfl,h4,h2⟩⟩
theorem SZ (hp:L.Perm M):∀{F:List Nat},Sats P w L F->∃F',F.Perm F'/\Sats P w M F':=by
 induction hp with
 |nil=>exact λh=>⟨_,.refl _,h⟩
 |cons x _ ih=>
  intro F h;rw[Sats]at h;obtain⟨F1,F2,rfl,h1,h2⟩:=h;obtain⟨G,p,h3⟩:=ih h2;exact⟨F1++G,p.append_left _,by rw[Sats];exact⟨F1,G,rfl,h1,h3⟩⟩
 |swap x y l=>
  intro F h;rw[Sats]at h;obtain⟨F1,F2,rfl,h1,h2⟩:=h;rw[Sats]at h2;obtain⟨F3,F4,rfl,h3,h4⟩:=h2;refine⟨F3++(F1++F4),?_,by rw[Sats];exact⟨F3,F1++F4,rfl,h3,by rw[Sats];exact⟨F1,F4,rfl,h1,h4⟩⟩⟩;rw[<-aS,<-aS];exact List.perm_append_comm.append_right _
 |trans _ _ ih1 ih2=>
  intro F h;obtain⟨G,p,h1⟩:=ih1 h;obtain⟨H,q,h2⟩:=ih2 h1;exact⟨H,p.trans q,h2⟩
theorem Mem.perm (h:Mem P w0 X w L) (hp:L.Perm M):Mem P w0 X w M:=by obtain⟨hm,F,h1,h2,h3⟩:=h;obtain⟨G,p,h4⟩:=SZ hp h1;exact⟨hm,G,h4,p.nodup h2,λg hg=>h3 g (p.mem_iff.2 hg)⟩
theorem Mem.pull (h:Mem P w0 X w L) (k:Nat) (hk:L[k]?=some x):Mem P w0 X w (x::L.eraseIdx k):=by exact h.perm (wX hk)
theorem Mem.right (h:Mem P w0 X w (L++M)):Mem P w0 X w M:=by obtain⟨hm,F,h1,h2,h3⟩:=h;obtain⟨F1,F2,rfl,h4,h5⟩:=nL.1 h1;exact⟨hm,F2,h5,(aE.1 h2).2.1,λg hg=>h3 g fe⟩
theorem Mem.left (h:Mem P w0 X w (L++M)):Mem P w0 X w L:=by obtain⟨hm,F,h1,h2,h3⟩:=h;obtain⟨F1,F2,rfl,h4,h5⟩:=nL.1 h1;exact⟨hm,F1,h4,(aE.1 h2).1,λg hg=>h3 g fe⟩
theorem Mem.sel (h:Mem P w0 X w L) (k:List Nat) (hk:k.Nodup):Mem P w0 X w (lH L k):=by
 have h1:L.Perm (lH L k++lH L ((List.range L.length).filter λi=> !k.contains i)):=by
  have h2:lH L (List.range L.length)=L:=by
   unfold lH;refine List.ext_getElem? λi=>?_
   have:(List.range L.length).filterMap (λi=>L[i]?)=L:=by
    have h3:∀n,n<=L.length->(List.range n).filterMap (λi=>L[i]?)=L.take n:=by
     intro n
     induction n with
     |zero=>intro _;rfl
     |succ n ih=>
      intro hn;rw[List.range_succ,dJ,ih dP,List.take_succ_eq_append_getElem dP];simp [show n<L.length by omega]
    rw[h3 _ (af _),cC]
   rw[this]
  have h4:lH L k=lH L (k.filter λi=>decide (i<L.length)):=by
   unfold lH;rw[List.filterMap_filter];congr 1;funext i;by_cases hi:i<L.length
   ·simp [hi]
   ·simp [hi]
  rw[h4];have h5:(List.range L.length).Perm ((k.filter λi=>decide (i<L.length))++(List.range L.length).filter λi=> !k.contains i):=by
   refine(List.perm_ext_iff_of_nodup List.nodup_range (aE.2 ⟨hk.filter _,List.nodup_range.filter _,?_⟩)).2 λi=>?_
   ·intro a ha b hb e;subst e;simp only[cS,cW,cQ,bB]at ha hb;exact hb.2 ha.1
   ·simp only[aG,cS,c_,aL,cW,cQ,bB];constructor
    ·intro hi;by_cases hm:i∈k
     ·exact .inl ⟨hm,hi⟩
     ·exact .inr ⟨hi,hm⟩
    ·rintro(⟨_,h⟩|⟨h,_⟩)<;>exact h
  have h6:=h5.filterMap (λi=>L[i]?);rw[dJ]at h6;have h7:(List.range L.length).filterMap (λi=>L[i]?)=L:=h2;rw[h7]at h6;exact h6
 exact(h.perm h1).left
theorem Mem.drop (h:Mem P w0 X w (x::L)):Mem P w0 X w L:=h.right (L:=[x])
theorem Mem.start:Mem P w X w []:=⟨Mod.refl,[],by rw[Sats],List.nodup_nil,by simp⟩
theorem Mem.step (h:Mem P w0 X w (C++R)) (hs:∀F,Sats P w C F->F.Nodup->∃F',Sats P w' C' F'/\F'.Nodup/\(∀g∈F',g∈F\/w.heap.size<=g)/\Mod F w w'):Mem P w0 X w' (C'++R):=by
 obtain⟨hm,F,h1,h2,h3⟩:=h;obtain⟨F1,F2,rfl,h4,h5⟩:=nL.1 h1;obtain⟨n1,n2,n3⟩:=aE.1 h2;obtain⟨G,k1,k2,k3,k4⟩:=hs F1 h4 n1;have hz:=hm.size;have h6:=wY h5;refine⟨hm.trans k4 (λg hg=>h3 g fe),G++F2,nL.2 ⟨G,F2,rfl,k1,th h5 λg hg=>k4.2.2 g (h6 g hg) (λhf=>n3 g hf g hg rfl)⟩,aE.2 ⟨k2,n2,λa ha b hb e=>?_⟩,λg hg=>?_⟩
 ·subst e;rcases k3 a ha with h7|h7
  ·exact n3 a h7 a hb rfl
  ·have:=h6 a hb;omega
 ·exact F8
theorem Mem.next (h:Mem P w0 X w R) (hb:Below w.heap.size w w'):Mem P w0 X w' R:=
 Mem.step (C:=[]) (C':=[]) h λF hF _=>by rw[Sats]at hF;subst hF;exact⟨[],by rw[Sats],List.nodup_nil,by simp,Mod.of_below hb⟩
theorem Mem.dw (h:Mem P w0 X w R):Mem P w0 X w.drew R:=h.next (Below.refl _ _).drew
theorem Mem.al (h:Mem P w0 X w R) {cs:Array Value}:Mem P w0 X (w.alloc (.cells cs t)) (.bk w.heap.size t cs.toList::R):=
 Mem.step (C:=[]) (C':=[_]) h λF hF _=>by rw[Sats]at hF;subst hF;exact⟨[w.heap.size],by rw[Sats];exact⟨[w.heap.size],[],rfl,⟨rfl,Blk.new_ w t cs⟩,by rw[Sats]⟩,by simp,by simp,Mod.of_below ((Below.refl _ _).alloc (af _) _)⟩
theorem Mem.all (h:Mem P w0 X w R) {l:List Value}:Mem P w0 X (w.alloc (.cells l.toArray t)) (.bk w.heap.size t l::R):=by simpa using h.al (t:=t) (cs:=l.toArray)
theorem Mem.put (h:Mem P w0 X w (.bk g t cs::R)) (i:Nat) (u:Value):Mem P w0 X (w.setCell ⟨g,i,none⟩ u) (.bk g t (cs.set i u)::R):=
 Mem.step (C:=[_]) (C':=[_]) h λF hF hn=>by rw[Sats]at hF;obtain⟨F1,F2,rfl,⟨rfl,h1⟩,h2⟩:=hF;rw[Sats]at h2;subst h2;exact⟨[g],by rw[Sats];exact⟨[g],[],rfl,⟨rfl,h1.set_ i u⟩,by rw[Sats]⟩,by simp,by simp,JR (F:=[g]++[]) dR u⟩
theorem Mem.fact {p:Prop} (h:Mem P w0 X w R) (hp:p):Mem P w0 X w (.fa p::R):=
 Mem.step (C:=[]) (C':=[_]) h λF hF _=>by rw[Sats]at hF;subst hF;exact⟨[],by rw[Sats];exact⟨[],[],rfl,⟨rfl,hp⟩,by rw[Sats]⟩,by simp,by simp,Mod.refl⟩
theorem Mem.gain (h:Mem P w0 X w R) (ho:own P w' d t F cs) (hF:Fresh w.heap.size F) (hb:Below w.heap.size w w'):Mem P w0 X w' (.ow d t cs::R):=
 Mem.step (C:=[]) (C':=[_]) h λG hG _=>by rw[Sats]at hG;subst hG;exact⟨F,by rw[Sats];exact⟨F,[],by simp,ho,by rw[Sats]⟩,hF.1,λg hg=> .inr (hF.2 g hg),Mod.of_below hb⟩
theorem Mem.as (h:Mem P w0 X w (C++R)) (hs:∀F,Sats P w C F->F.Nodup->Sats P w C' F):Mem P w0 X w (C'++R):=
 h.step λF hF hn=>⟨F,hs F hF hn,hn,λg hg=> .inl hg,Mod.refl⟩
theorem Ab:∀{L:List As} {F:List Nat} {x:As},Sats P w L F->x∈L->∃F',x.sat P w F'/\∀g∈F',g∈F
 |[],_,_,_,h=>by simp at h
 |y::t,F,x,h,hx=>by
  rw[Sats]at h;obtain⟨F1,F2,rfl,h1,h2⟩:=h;rcases aX.1 hx with rfl|hx
  ·exact⟨F1,h1,λg hg=>by simp [hg]⟩
  ·obtain⟨F',h3,h4⟩:=Ab h2 hx;exact⟨F',h3,λg hg=>by simp [h4 g hg]⟩
theorem Mem.blk (h:Mem P w0 X w L) (hx: .bk g t cs∈L):Blk w g t cs:=by obtain⟨hm,F,h1,h2,h3⟩:=h;obtain⟨F',⟨rfl,h4⟩,_⟩:=Ab h1 hx;exact h4
theorem Mem.bl (h:Mem P w0 X w L) (k:Nat) (hk:L[k]?=some (.bk g t cs)):Blk w g t cs:=h.blk (aA hk)
theorem Mem.rp (h:Mem P w0 X w L) (k:Nat) (hk:L[k]?=some (.ow d t cs)):Go.Proofs.YtekcpadlmfaihaaGreat.rep w w.heap.size d cs:=by obtain⟨hm,F,h1,h2,h3⟩:=h;obtain⟨F',h4,_⟩:=Ab h1 (aA hk);exact eW _ _ _ _ h4
theorem Mem.ge (h:Mem P w0 [] w L) (hx: .bk g t cs∈L):w0.heap.size<=g:=by
 obtain⟨hm,F,h1,h2,h3⟩:=h;obtain⟨F',⟨rfl,h4⟩,h5⟩:=Ab h1 hx;rcases h3 g (h5 g dR) with h6|h6
 ·simp at h6
 ·exact h6
theorem Mem.own_ (h:Mem P w0 X w L) (hx: .ow d t cs∈L):∃F,own P w d t F cs:=by obtain⟨hm,F,h1,h2,h3⟩:=h;obtain⟨F',h4,_⟩:=Ab h1 hx;exact⟨F',h4⟩
theorem Mem.rep (h:Mem P w0 X w L) (hx: .ow d t cs∈L):rep w w.heap.size d cs:=by obtain⟨F,h⟩:=h.own_ hx;exact eW _ _ _ _ h
theorem Mem.bel (h:Mem P w0 [] w L):Below w0.heap.size w0 w:=h.mod.below dR (af _)
theorem Mem.old (h:Mem P w0 X w L) {B:Nat} (hX:∀g∈X,B<=g) (hB:B<=w0.heap.size) (hr:Go.Proofs.YtekcpadlmfaihaaGreat.rep w0 B d cs):Go.Proofs.YtekcpadlmfaihaaGreat.rep w w.heap.size d cs:=
 fb hr (h.mod.below hX hB) (du hB h.mod.size)
theorem Mem.arg (h:Mem P w0 [] w L) (hr:Go.Proofs.YtekcpadlmfaihaaGreat.rep w0 w0.heap.size d cs):Go.Proofs.YtekcpadlmfaihaaGreat.rep w w.heap.size d cs:=h.old dR (af _) hr
theorem Mem.two {g':Nat} {t':TypeId} {cs':List Value} (h:Mem P w0 X w (.bk g t cs:: .bk g' t' cs'::R)):g≠g':=by obtain⟨hm,F,h1,h2,h3⟩:=h;rw[Sats]at h1;obtain⟨F1,F2,rfl,⟨rfl,_⟩,h5⟩:=h1;rw[Sats]at h5;obtain⟨F3,F4,rfl,⟨rfl,_⟩,_⟩:=h5;intro e;simp [e]at h2
theorem Mem.fin (h:Mem P w0 [] w (.ow d t cs::R)):∃F,own P w d t F cs/\Fresh w0.heap.size F/\Below w0.heap.size w0 w:=by have hb:=h.bel;obtain⟨hm,F,h1,h2,h3⟩:=h;rw[Sats]at h1;obtain⟨F1,F2,rfl,h4,h5⟩:=h1;exact⟨F1,h4,⟨(aE.1 h2).1,λg hg=>by rcases h3 g fe with h6|h6;simp at h6;exact h6⟩,hb⟩
end
section
variable {w0 w w':World} {X:List Nat} {R:List As} {d:D} {t:TypeId} {e:Ending}
theorem Mem.newSt (h:Mem prog w0 X w R) (hn:gM d t w e w'):∃cs:List Value,e= .returned (.agg cs.toArray)/\Mem prog w0 X w' (.ow d t cs::R):=by obtain⟨cs,F,rfl,ho,hf,hb⟩:=hn;exact⟨cs,rfl,h.gain ho hf hb⟩
theorem Mem.newSl {xs:List D} (h:Mem prog w0 X w R) (hn:oK xs t w e w'):∃(A:Option Addr) (n c:Nat),e= .returned (.slice A n c)/\Mem prog w0 X w' (.ow (.sl xs) t [.slice A n c]::R):=by obtain⟨A,n,c,F,rfl,ho,hf,hb⟩:=hn;exact⟨A,n,c,rfl,h.gain ho hf hb⟩
theorem Mem.retSt {cs:List Value} (h:Mem prog w0 [] w (.ow d t cs::R)):gM d t w0 (.returned (.agg cs.toArray)) w:=by obtain⟨F,h1,h2,h3⟩:=h.fin;exact⟨cs,F,rfl,h1,h2,h3⟩
theorem Mem.retSl {xs:List D} {A:Option Addr} {n c:Nat} (h:Mem prog w0 [] w (.ow (.sl xs) t [.slice A n c]::R)):oK xs t w0 (.returned (.slice A n c)) w:=by obtain⟨F,h1,h2,h3⟩:=h.fin;exact⟨A,n,c,F,rfl,h1,h2,h3⟩
end
structure Gh where
 b:Nat
 a:Option Addr
 c:Nat
 f:Nat->Value
 A:Nat->Option Addr
 C:Nat->Nat
 d:D
def ghL (l:List Value):Gh:=⟨0,none,0,λk=>l.getD k undef,λ_=>none,λ_=>0,.b false⟩
def mA (b:Nat):Gh:=⟨b,none,0,λ_=>undef,λ_=>none,λ_=>0,.b false⟩
def Ov (a:Option Addr) (c:Nat):Gh:=⟨0,a,c,λ_=>undef,λ_=>none,λ_=>0,.b false⟩
def R3 (b c:Nat):Gh:=⟨b,none,c,λ_=>undef,λ_=>none,λ_=>0,.b false⟩
def Ow (l:List (Option Addr × Nat)):Gh:=⟨0,none,0,λ_=>undef,λk=>(l.getD k (none,0)).1,λk=>(l.getD k (none,0)).2,.b false⟩
inductive En (α:Type) where
 |c (x:α)
 |e (i:Nat) (f:Gh->α)
 |e2 (i j:Nat) (f:Gh->Gh->α)
 |e3 (i j k:Nat) (f:Gh->Gh->Gh->α)
 |e5 (i j k l m:Nat) (f:Gh->Gh->Gh->Gh->Gh->α)
 |e6 (i j k l m n:Nat) (f:Gh->Gh->Gh->Gh->Gh->Gh->α)
def En.ev {α:Type} (γ:Nat->Gh):En α->α
 | .c x=>x
 | .e i f=>f (γ i)
 | .e2 i j f=>f (γ i) (γ j)
 | .e3 i j k f=>f (γ i) (γ j) (γ k)
 | .e5 i j k l m f=>f (γ i) (γ j) (γ k) (γ l) (γ m)
 | .e6 i j k l m n f=>f (γ i) (γ j) (γ k) (γ l) (γ m) (γ n)
def En.deps {α:Type}:En α->List Nat
 | .c _=>[]
 | .e i _=>[i]
 | .e2 i j _=>[i,j]
 | .e3 i j k _=>[i,j,k]
 | .e5 i j k l m _=>[i,j,k,l,m]
 | .e6 i j k l m n _=>[i,j,k,l,m,n]
theorem MP {α β:Type} {f g:α->Option β}:∀{l:List α},(∀x∈l,f x=g x)->l.filterMap f=l.filterMap g
 |[],_=>rfl
 |a::t,h=>by rw[bH,bH,h a dR,MP λx hx=>h x iF]
def xE (γ:Nat->Gh) (i:Nat) (x:Gh):Nat->Gh:=λk=>if k=i then x else γ k
theorem Om (γ:Nat->Gh) (i:Nat):xE γ i (γ i)=γ:=by funext k;unfold xE;split<;>simp_all
theorem En.ev_upd {e:En α} {γ:Nat->Gh} {x:Gh} (h:i ∉ e.deps):e.ev (xE γ i x)=e.ev γ:=by
 have iU:∀k,k∈e.deps->xE γ i x k=γ k:=λk hk=>by unfold xE;rw[aH];rintro rfl;exact h hk
 cases e<;>simp only[En.ev,En.deps]at*<;>simp [iU]
structure Re where
 pr:Option Nat
 co:Option Nat
 f:En As
def aaE (s:List Nat) (l:List Nat):List Nat:=l.foldl (λs x=>if s.contains x then s else x::s) s
def Jf (ops:Array Oper):Bool:=(List.range ops.size).all λi=>((ops[i]?).map λo=>o.after.all λe=> !Region.binds .any e||decide (e.on<i)).getD true
theorem O4 {ops:Array Oper} (h:Jf ops=true) {o:Oper} (ho:ops[i]?=some o):∀e∈o.after,Region.binds .any e=true->e.on<i:=by unfold Jf at h;rw[aV]at h;have:=h i (c_.2 (cN.1 ho).1);rw[ho]at this;simp only[Option.map_some,bV,Array.all_eq_true_iff_forall_mem,aL,bX,cQ]at this;exact λe he hb=>(this e he).resolve_left (by simp [hb])
theorem EJ {ops:Array Oper} {l:Array Bool} (hb:Jf ops=true) (hz:l.size=ops.size) (hr:Region.ready .any ops l=[]):∀i,i<ops.size->l[i]?=some true:=by
 intro i
 induction i using Nat.strongRecOn with
 |ind i ih=>
  intro hi;have hl:i<l.size:=dP;cases hli:l[i] with
  |true=>simp [hl,hli]
  |false=>
   exfalso;have:i∈Region.ready .any ops l:=mem_ready.2 ⟨by simp [hl,hli],ops[i],by simp [hi],λe he xe=>by have h1:=O4 hb (show ops[i]?=some ops[i] by simp [hi]) e he xe;have h2:=ih e.on h1 dP;have h3:e.on<l.size:=dP;simp [h3]at h2 ⊢;exact h2⟩
   rw[hr]at this;simp at this
section
variable {P:Program} {ops:Array Oper} {Q:Exit->Act->World->Prop} {S:World->Prop}
theorem Op (I:Array Bool->Act->World->Prop) (hz:∀l a w,I l a w->l.size=ops.size) (hSI:∀l a w,I l a w->S w)
 (TC:∀i o l a w,ops[i]?=some o->l[i]?=some false->(∀e∈o.after,Region.binds .any e=true->l.getD e.on false=true)->I l a w->
  ∀K:Act->World->Prop,(∀a' w',I (l.setIfInBounds i true) a' w'->K a' w')->if Region.wanted o (yielded ops a.tmps)=true then Oper.wp P o a w K Q else K (a.put o.dst undef) w)
 (R7:Jf ops=true) (tT:∀l a w,I l a w->(∀i,i<ops.size->l[i]?=some true)->Q .normal a w):
 ∀mS l a w,unl l<=mS->I l a w->wpAnyH P .any ops Q S mS l a w:=by
 intro mS
 induction mS with
 |zero=>
  intro l a w hu hI;have hr:Region.ready .any ops l=[]:=GN;exact⟨hr,tT l a w hI (EJ R7 (hz l a w hI) hr)⟩
 |succ mS ih=>
  intro l a w hu hI;refine⟨λhr=>tT l a w hI (EJ R7 (hz l a w hI) hr),λi hi=>?_⟩;obtain⟨h1,o,h2,h4⟩:=mem_ready.1 hi;have hlt:i<l.size:=BP;have h3:l[i]?=some false:=by simp [hlt]at h1;simp [hlt,h1]
  refine dD h2 λK' hK=>?_
  refine TC i o l a w h2 h3 (λe he hb=>h4 e he hb) hI K' λa' w' hI'=>hK a' w' ⟨hSI _ _ _ hI',ih _ a' w' ?_ hI'⟩
  have h5:l.toList[i]?=some false:=by simpa using h3
  have:=LQ h5;unfold unl at hu ⊢;rw[Array.toList_setIfInBounds];omega
end
def Im (ops:List Oper):List (List Nat):=ops.foldl (λsH o=>sH++[o.after.toList.foldl (λs e=>if Region.binds .any e then aaE s (e.on::sH.getD e.on []) else s) []]) []
def abW (ops:Array Oper) (cl:List (List Nat)):Bool:=
 (List.range ops.size).all λi=>(cl.getD i []).all λj=>match ops[i]? with
  |none=>false
  |some o=>o.after.toList.any λe=>Region.binds .any e&&decide (e.on<i)&&(e.on==j||(cl.getD e.on []).contains j)
def ndp:List Nat->Bool
 |[]=>true
 |x::t=> !t.contains x&&ndp t
theorem NE:∀{l:List Nat},ndp l=true->l.Nodup
 |[],_=>List.nodup_nil
 |x::t,h=>by unfold ndp at h;simp only[ax,cQ,cW,bB]at h;exact aQ.2 ⟨h.1,NE h.2⟩
def dstOf (ops:Array Oper) (i:Nat):Option Nat:=(ops[i]?).bind (·.dst)
def iJ (rs:List Re) (i:Nat):List Nat:=(List.range rs.length).filter λr=>((rs[r]?).map λe=>e.co==some i).getD false
def lr (rs:List Re) (i:Nat):List Nat:=(List.range rs.length).filter λr=>((rs[r]?).map λe=>e.pr==some i).getD false
def YB (e:Re) (ai:List Nat):Bool:=match e.pr with|none=>true|some p=>ai.contains p
def Zg (ops:Array Oper) (old:List Nat) (cl:List (List Nat)) (vs:List (En Value)) (rs:List Re) (us:List (List Nat)) (i:Nat):Bool:=
 match ops[i]?,vs[i]? with
 |some o,some v=>
  let ai:=cl.getD i []
  let cs:=iJ rs i
  let u:=us.getD i []
  ((o.looksAt ops).all λt=>(List.range ops.size).all λj=>dstOf ops j != some t||(if old.contains t then (cl.getD j []).contains i else ai.contains j))&&
  (v.deps.all λk=>k==i||ai.contains k)&&ndp (cs++u)&&
  (u.all λr=>match rs[r]? with
   |none=>false
   |some e=>YB e ai&&(match e.co with|none=>true|some c=>c != i&&(cl.getD c []).contains i))&&
  (cs.all λr=>match rs[r]? with
   |none=>false
   |some e=>YB e ai)&&
  ((List.range ops.size).all λj=>j==i||dstOf ops i==none||dstOf ops j != dstOf ops i)
 |_,_=>false
def Zh (cl:List (List Nat)) (n:Nat) (e:Re):Bool:=
 (match e.pr with
 |none=>e.f.deps.isEmpty
 |some p=>decide (p<n)&&e.f.deps.all λk=>k==p||(cl.getD p []).contains k)&&
 (match e.co with
 |none=>true
 |some c=>decide (c<n))
def chk (ops:Array Oper) (old:List Nat) (vs:List (En Value)) (rs:List Re) (us:List (List Nat)):Bool:=
 abW ops (Im ops.toList)&&Jf ops&&Region.noSelect ops&&(List.range ops.size).all (Zg ops old (Im ops.toList) vs rs us)&&rs.all (Zh (Im ops.toList) ops.size)
def x8 (T:Array Value) (d:Option Nat) (v:Value):Array Value:=match d with
 |none=>T
 |some t=>T.setIfInBounds t v
def vR (T:Array Value):List (Option Nat)->List Value->Array Value
 |d::ds,v::vs=>vR (x8 T d v) ds vs
 |_,_=>T
def mb (A T0:Array Value):List Nat->Array Value
 |[]=>A
 |t::l=>(mb A T0 l).setIfInBounds t (T0.getD t undef)
theorem rY {A T0:Array Value}:∀{l:List Nat},(mb A T0 l).size=A.size
 |[]=>rfl
 |t::l=>by rw[mb,Array.size_setIfInBounds,rY]
theorem Kf {A T0:Array Value} (h:A.size=T0.size) (k:Nat):∀{l:List Nat},(mb A T0 l)[k]?=if k∈l then T0[k]? else A[k]?
 |[]=>by simp [mb]
 |t::l=>by
  rw[mb];by_cases hk:t=k
  ·subst hk;rcases cP t T0.size with hlt|tU
   ·have:t<(mb A T0 l).size:=by rw[rY];omega
    simp [this,hlt]
   ·rw[cI (by rw[Array.size_setIfInBounds,rY];omega),cI tU];simp
  ·rw[dC hk,Kf h k];simp [Ne.symm hk]
def JU (rs:List Re) (us:List (List Nat)) (γ:Nat->Gh) (i:Nat):List As:=(iJ rs i++us.getD i []).filterMap λr=>(rs[r]?).map (·.f.ev γ)
def DA (rs:List Re) (us:List (List Nat)) (γ:Nat->Gh) (i:Nat):List As:=(lr rs i++us.getD i []).filterMap λr=>(rs[r]?).map (·.f.ev γ)
def sG (P:Program) (w0:World) (X:List Nat) (ops:Array Oper) (vs:List (En Value)) (rs:List Re) (us:List (List Nat)) (D0:List Deferred) (Tf:(Nat->Gh)->Array Value) (i:Nat):Prop:=
 ∃(o:Oper) (v:En Value),ops[i]?=some o/\vs[i]?=some v/\∀(γ:Nat->Gh) (w:World) (R:List As) (K:Act->World->Prop),Mem P w0 X w (JU rs us γ i++R)->
  (∀x w',Mem P w0 X w' (DA rs us (xE γ i x) i++R)->K ((Act.mk (Tf γ) D0).put o.dst (v.ev (xE γ i x))) w')->
  if Region.wanted o (yielded ops (Act.mk (Tf γ) D0).tmps)=true then Oper.wp P o ⟨Tf γ,D0⟩ w K (λ_ _ _=>False) else K ((Act.mk (Tf γ) D0).put o.dst undef) w
section
variable {ops:Array Oper} {cl:List (List Nat)}
def Dn (ops:Array Oper) (l:Nat->Bool):Prop:=∀i o,ops[i]?=some o->l i=true->∀e∈o.after,Region.binds .any e=true->l e.on=true
theorem qI (h:abW ops cl=true) {l:Nat->Bool} (hd:Dn ops l):∀(i:Nat) (o:Oper),ops[i]?=some o->(∀e∈o.after,Region.binds .any e=true->l e.on=true)->∀j∈cl.getD i [],l j=true:=by
 intro i
 induction i using Nat.strongRecOn with
 |ind i ih=>
  intro o ho he j hj;have hi:i<ops.size:=(cN.1 ho).1;unfold abW at h;rw[aV]at h;have h1:=h i (c_.2 hi);rw[aV]at h1;have h2:=h1 j hj;rw[ho]at h2;simp only[List.any_eq_true,ax,bX,beq_iff_eq,aL,cW]at h2;obtain⟨e,hm,⟨hb,hlt⟩,h3⟩:=h2;have h4:=he e (by simpa using hm) hb;rcases h3 with rfl|h3
  ·exact h4
  ·have hi2:e.on<ops.size:=dP;exact ih e.on hlt _ (bR hi2) (hd e.on _ (bR hi2) h4) j h3
structure Fr (ops:Array Oper) (T0:Array Value) (l:Nat->Bool) (val:Nat->Value) (T:Array Value):Prop where
 sz:T.size=T0.size
 on:∀i t,l i=true->dstOf ops i=some t->t<T0.size->T[t]?=some (val i)
 off:∀t,(∀i,l i=true->dstOf ops i≠some t)->T[t]?=T0[t]?
def s9 (l:Nat->Bool) (i:Nat):Nat->Bool:=λk=>if k=i then true else l k
theorem Fr.put {T0 T:Array Value} {l:Nat->Bool} {val val':Nat->Value} {i:Nat} (h:Fr ops T0 l val T) (hl:l i=false) (hd:∀j t,j≠i->dstOf ops i=some t->dstOf ops j≠some t) (hv:∀j,l j=true->val' j=val j):
 Fr ops T0 (s9 l i) val' (x8 T (dstOf ops i) (val' i)):=by
 have kD:(x8 T (dstOf ops i) (val' i)).size=T0.size:=by unfold x8;split<;>simp [h.sz]
 refine⟨kD,λj t hj ht hlt=>?_,λt ht=>?_⟩
 ·unfold s9 at hj;by_cases hji:j=i
  ·subst hji;rw[ht];unfold x8;simp [h.sz,hlt]
  ·rw[aH hji]at hj;rw[hv j hj,<-h.on j t hj ht hlt];unfold x8;split
   ·rfl
   ·rename_i t' Mc
    have:t'≠t:=λe=>by subst e;exact hd j t' hji Mc ht
    simp [dC this]
 ·rw[<-h.off t (λj hj=>ht j (by unfold s9;split<;>simp [hj]))];unfold x8;split
  ·rfl
  ·rename_i t' Mc
   have:t'≠t:=λe=>by subst e;exact ht i (by simp [s9]) Mc
   simp [dC this]
theorem Fr.same {T0 T T':Array Value} {l l':Nat->Bool} {val:Nat->Value} (h:Fr ops T0 l val T) (h':Fr ops T0 l' val T') {t:Nat} (hk:∀j,dstOf ops j=some t->l j=true/\l' j=true):T[t]?=T'[t]?:=by
 by_cases hlt:t<T0.size
 ·by_cases hj:∃j,dstOf ops j=some t
  ·obtain⟨j,hj⟩:=hj;obtain⟨h1,h2⟩:=hk j hj;rw[h.on j t h1 hj hlt,h'.on j t h2 hj hlt]
  ·rw[h.off t (λi _ e=>hj ⟨i,e⟩),h'.off t (λi _ e=>hj ⟨i,e⟩)]
 ·rw[cI (by rw[h.sz];omega),cI (by rw[h'.sz];omega)]
theorem Fr.ext {T0 T T':Array Value} {l l':Nat->Bool} {val:Nat->Value} (h:Fr ops T0 l val T) (h':Fr ops T0 l' val T') (hk:∀j,j<ops.size->l j=true/\l' j=true):T=T':=by
 refine Array.ext_getElem? λt=>h.same h' λj hj=>hk j ?_
 rcases cP j ops.size with hlt|tU
 ·exact hlt
 ·simp [dstOf,cI tU]at hj
theorem Fr.all_ {T0:Array Value} {val:Nat->Value} (hd:∀i j t,j≠i->dstOf ops i=some t->dstOf ops j≠some t):∀(m k:Nat) (T:Array Value) (ds:List (Option Nat)) (vs:List Value),k+m=ops.size->ds=(List.range' k m).map (dstOf ops)->vs=(List.range' k m).map val->
 Fr ops T0 (λi=>decide (i<k)) val T->Fr ops T0 (λi=>decide (i<ops.size)) val (vR T ds vs)
 |0,k,T,ds,vs,hk,hds,OD,h=>by simp at hds OD;subst hds OD;unfold vR;have:k=ops.size:=dP;subst this;exact h
 |m+1,k,T,ds,vs,hk,hds,OD,h=>by
  rw[List.range'_succ,br]at hds OD;subst hds OD;unfold vR;refine Fr.all_ hd m (k+1) _ _ _ dP rfl rfl ?_;have h1:=h.put (i:=k) (val':=val) dR (λj t hj=>hd k j t hj) (λ_ _=>rfl);have h2:s9 (λi=>decide (i<k)) k=λi=>decide (i<k+1):=by
   funext i;unfold s9;split
   ·subst_vars;simp
   ·have:(i<k)=(i<k+1):=dS;simp [this]
  rw[h2]at h1;exact h1
end
section
variable {R0:List As} {P:Program} {w0:World} {X:List Nat} {ops:Array Oper} {vs:List (En Value)} {rs:List Re} {us:List (List Nat)} {D0:List Deferred} {Tf Rf:(Nat->Gh)->Array Value} {old:List Nat} {T0:Array Value} {Q:Exit->Act->World->Prop}
theorem VI {A B:Array Value} {dst:Option Tmp} {u u':Value} (hs:A.size=B.size) (h:(Act.mk A D0).put dst u=(Act.mk A D0).put dst u'):(Act.mk B D0).put dst u=(Act.mk B D0).put dst u':=by
 cases dst with
 |none=>rfl
 |some d=>
  simp only[Act.put,Act.mk.injEq,cO]at h ⊢;by_cases hd:d<A.size
  ·have h1:(A.setIfInBounds d u)[d]?=(A.setIfInBounds d u')[d]?:=by rw[h]
   simp [hd]at h1;rw[h1]
  ·have hB:B.size<=d:=by rw[<-hs];exact Nat.le_of_not_lt hd
   rw[Array.setIfInBounds_eq_of_size_le hB,Array.setIfInBounds_eq_of_size_le hB]
theorem Y1 {o:Oper} {A B:Array Value} {k:Value->World->Prop} {next:Act->World->Prop} {r:Result Next} (hs:A.size=B.size)
 (h:o.upon P ⟨A,D0⟩ (λa' w'=>∃u,a'=(Act.mk A D0).put o.dst u/\k u w') (λ_ _ _=>False) r) (hn:∀u w',k u w'->next ((Act.mk B D0).put o.dst u) w'):o.upon P ⟨B,D0⟩ next Q r:=by
 have iU:∀u w',(∃u',(Act.mk A D0).put o.dst u=(Act.mk A D0).put o.dst u'/\k u' w')->next ((Act.mk B D0).put o.dst u) w':=by rintro u w' ⟨u',h1,h2⟩;rw[VI hs h1];exact hn u' w' h2
 cases r with
 |ok n w'=>
  cases n<;>simp only[Oper.upon]at h ⊢
  case value v=>exact iU _ _ h
  case skip=>exact iU _ _ h
  case defer d=>
   obtain⟨u,h1,_⟩:=h;exfalso;have h2:d::D0=D0:=by have:=cU Act.defers h1;cases hdst:o.dst<;>(rw[hdst]at this;exact this)
   have:=cU List.length h2;simp at this
  case enter f args=>
   refine aF h λe w'' he=>?_
   cases e with
   |returned v=>exact iU _ _ he
   |panicked c=>exact he.elim
   |outgrown=>obtain⟨_,_,h⟩:=he;exact h.elim
  case row row args=>exact Rows.mono h λv w'' he=>iU _ _ he
 |halt x w'=>cases x<;>simp only[Oper.upon]at h
def lv (rs:List Re) (l:Nat->Bool) (r:Nat):Bool:=match rs[r]? with
 |none=>false
 |some e=>(match e.pr with|none=>true|some p=>l p)&&(match e.co with|none=>true|some c=> !l c)
def oZ (rs:List Re) (l:Nat->Bool):List Nat:=(List.range rs.length).filter (lv rs l)
def W8 (rs:List Re) (γ:Nat->Gh) (r:Nat):Option As:=(rs[r]?).map (·.f.ev γ)
theorem rt {l:Nat->Bool} {r:Nat}:r∈oZ rs l↔lv rs l r=true:=by
 unfold oZ;rw[cS,c_];constructor
 ·exact λh=>h.2
 ·intro h;refine⟨?_,h⟩;unfold lv at h;rcases cP r rs.length with h1|h1
  ·exact h1
  ·rw[b_ h1]at h;simp at h
theorem ua {l:Nat->Bool}:(oZ rs l).Nodup:=List.nodup_range.filter _
theorem Rg {a b:List Nat} (ha:a.Nodup) (hb:b.Nodup) (h:∀x,x∈a↔x∈b):a.Perm b:=(List.perm_ext_iff_of_nodup ha hb).2 h
theorem vG {i r:Nat}:r∈iJ rs i↔∃e,rs[r]?=some e/\e.co=some i:=by
 unfold iJ;rw[cS,c_];constructor
 ·exact Gb
 ·rintro⟨e,h1,h2⟩;exact⟨(ay.1 h1).1,by simp [h1,h2]⟩
theorem zQ {i r:Nat}:r∈lr rs i↔∃e,rs[r]?=some e/\e.pr=some i:=by
 unfold lr;rw[cS,c_];constructor
 ·exact Gb
 ·rintro⟨e,h1,h2⟩;exact⟨(ay.1 h1).1,by simp [h1,h2]⟩
def iN (rs:List Re) (γ:Nat->Gh) (l:List Nat):List As:=l.filterMap (W8 rs γ)
def St (P:Program) (w0:World) (X:List Nat) (ops:Array Oper) (vs:List (En Value)) (rs:List Re) (D0:List Deferred) (T0:Array Value) (R0:List As) (la:Array Bool) (a:Act) (w:World):Prop:=
 la.size=ops.size/\Dn ops (λi=>la.getD i false)/\∃(γ:Nat->Gh) (T:Array Value),a=⟨T,D0⟩/\Fr ops T0 (λi=>la.getD i false) (λi=>((vs[i]?).map (·.ev γ)).getD undef) T/\Mem P w0 X w (iN rs γ (oZ rs λi=>la.getD i false)++R0)
theorem T5 (R0:List As) (AQ:chk ops old vs rs us=true) (gK:vs.length=ops.size) (hT:∀γ,vR T0 (ops.toList.map (·.dst)) (vs.map (·.ev γ))=Tf γ) (hR:∀γ,mb (Tf γ) T0 old=Rf γ)
 (wS:∀i,i<ops.size->sG P w0 X ops vs rs us D0 Rf i):
 (∀(i:Nat) (o:Oper) (la:Array Bool) (a:Act) (w:World),ops[i]?=some o->la[i]?=some false->(∀e∈o.after,Region.binds .any e=true->la.getD e.on false=true)->St P w0 X ops vs rs D0 T0 R0 la a w->
  ∀(Q:Exit->Act->World->Prop) (K:Act->World->Prop),(∀a' w',St P w0 X ops vs rs D0 T0 R0 (la.setIfInBounds i true) a' w'->K a' w')->if Region.wanted o (yielded ops a.tmps)=true then Oper.wp P o a w K Q else K (a.put o.dst undef) w)/\
 (∀(la:Array Bool) (a:Act) (w:World),St P w0 X ops vs rs D0 T0 R0 la a w->(∀i,i<ops.size->la[i]?=some true)->∃γ,a=⟨Tf γ,D0⟩/\Mem P w0 X w (iN rs γ (oZ rs λi=>decide (i<ops.size))++R0))/\
 (∀w:World,(∀γ,Mem P w0 X w (iN rs γ (oZ rs λ_=>false)++R0))->St P w0 X ops vs rs D0 T0 R0 (Array.replicate ops.size false) ⟨T0,D0⟩ w)/\Jf ops=true:=by
 unfold chk at AQ;simp only[ax]at AQ;obtain⟨⟨⟨⟨K9,R7⟩,hns⟩,hco⟩,hcr⟩:=AQ;rw[aV]at hco hcr;have XY:∀(i:Nat) (o:Oper) (v:En Value),ops[i]?=some o->vs[i]?=some v->(∀t∈o.looksAt ops,∀j,dstOf ops j=some t->if t∈old then i∈(Im ops.toList).getD j [] else j∈(Im ops.toList).getD i [])/\(∀k∈v.deps,k=i\/k∈(Im ops.toList).getD i [])/\(iJ rs i++us.getD i []).Nodup/\
  (∀r∈us.getD i [],∃e,rs[r]?=some e/\(∀p,e.pr=some p->p∈(Im ops.toList).getD i [])/\(∀c,e.co=some c->c≠i/\i∈(Im ops.toList).getD c []))/\
  (∀r∈iJ rs i,∃e,rs[r]?=some e/\(∀p,e.pr=some p->p∈(Im ops.toList).getD i []))/\(∀j t,j≠i->dstOf ops i=some t->dstOf ops j≠some t):=by
  intro i o v ho hv;have h1:=hco i (c_.2 (cN.1 ho).1);unfold Zg at h1;rw[ho,hv]at h1;simp only[ax,aV]at h1;obtain⟨⟨⟨⟨⟨h2,h3⟩,h4⟩,h5⟩,h6⟩,h7⟩:=h1;have dlt:∀j t,dstOf ops j=some t->j<ops.size:=λj t hj=>GH
  refine⟨λt ht j hj=>?_,λk hk=>?_,NE h4,λr hr=>?_,λr hr=>?_,λj t hji hi hj=>?_⟩
  ·have:=h2 t ht j (c_.2 (dlt j t hj));by_cases ho:t∈old
   ·simpa [hj,ho]using this
   ·simpa [hj,ho]using this
  ·have:=h3 k hk;simpa using this
  ·have:=h5 r hr;cases hre:rs[r]? with
   |none=>simp [hre]at this
   |some e=>
    simp only[hre,ax]at this;refine⟨e,rfl,λp hp=>?_,λc hc=>?_⟩
    ·have:=this.1;unfold YB at this;rw[hp]at this;simpa using this
    ·have:=this.2;rw[hc]at this;simpa using this
  ·have:=h6 r hr;cases hre:rs[r]? with
   |none=>simp [hre]at this
   |some e=>
    simp only[hre]at this;exact⟨e,rfl,λp hp=>by unfold YB at this;rw[hp]at this;simpa using this⟩
  ·have:=h7 j (c_.2 (dlt j t hj));simp [hi,hj,hji]at this
 have X3:∀(r:Nat) (e:Re),rs[r]?=some e->(e.pr=none->e.f.deps=[])/\(∀p,e.pr=some p->p<ops.size/\∀k∈e.f.deps,k=p\/k∈(Im ops.toList).getD p [])/\(∀c,e.co=some c->c<ops.size):=by
  intro r e hr;have h1:=hcr e (aA hr);unfold Zh at h1;simp only[ax]at h1;refine⟨λhp=>?_,λp hp=>?_,λc hc=>?_⟩
  ·have:=h1.1;rw[hp]at this;simpa using this
  ·have:=h1.1;rw[hp]at this;simp only[ax,aL,aV]at this;exact⟨this.1,λk hk=>by simpa using this.2 k hk⟩
  ·have:=h1.2;rw[hc]at this;simpa using this
 have OD:∀i,i<ops.size->∃v,vs[i]?=some v:=λi hi=>⟨vs[i]' dP,aw dP⟩
 have hdd:∀i j t,j≠i->dstOf ops i=some t->dstOf ops j≠some t:=λi j t hji hi=>by
  have hlt:i<ops.size:=by
   rcases cP i ops.size with hlt|tU
   ·exact hlt
   ·simp [dstOf,cI tU]at hi
  obtain⟨v,hv⟩:=OD i hlt;exact(XY i _ v (bR hlt) hv).2.2.2.2.2 j t hji hi
 have QQ:∀γ,Fr ops T0 (λi=>decide (i<ops.size)) (λi=>((vs[i]?).map (·.ev γ)).getD undef) (Tf γ):=λγ=>by
  rw[<-hT γ];refine Fr.all_ hdd ops.size 0 T0 _ _ dP ?_ ?_ ⟨rfl,λi t h=>by simp at h,λt _=>rfl⟩
  ·refine List.ext_getElem? λi=>?_
   rw[cg,cg];rcases cP i ops.size with hlt|tU
   ·rw[List.getElem?_range' hlt];simp [dstOf,hlt]
   ·rw[b_ (by simpa using tU),b_ (by simpa using tU)];rfl
  ·refine List.ext_getElem? λi=>?_
   rw[cg,cg];rcases cP i ops.size with hlt|tU
   ·rw[List.getElem?_range' hlt];obtain⟨v,hv⟩:=OD i hlt;simp [hv]
   ·rw[b_ dP,b_ (by simpa using tU)];rfl
 refine⟨?_,?_,?_,R7⟩
 ·rintro i o la a w ho hli hed ⟨kD,Sd,γ,T,rfl,Tw,hM⟩ Q K hK;have hi:i<ops.size:=(cN.1 ho).1;obtain⟨v,hv⟩:=OD i hi;obtain⟨c1,c2,c3,c4,c5,c6⟩:=XY i o v ho hv;have Ps:la.getD i false=false:=by simp [hli]
  have han:=qI K9 Sd i o ho hed;have abx:(λk=>(la.setIfInBounds i true).getD k false)=s9 (λk=>la.getD k false) i:=by
   funext k;unfold s9;split
   ·subst_vars;have:k<la.size:=dP;simp [this]
   ·rename_i jC;simp [dC (Ne.symm jC)]
  have ahu:∀x j,la.getD j false=true->((vs[j]?).map (·.ev (xE γ i x))).getD undef=((vs[j]?).map (·.ev γ)).getD undef:=by
   intro x j hj;cases hvj:vs[j]? with
   |none=>rfl
   |some vj=>
    have XO:j<ops.size:=by
     rcases cP j ops.size with hlt|tU
     ·exact hlt
     ·simp [cI (show la.size<=j by omega)]at hj
    have XV:ops[j]?=some ops[j]:=bR XO;obtain⟨_,d2,_⟩:=XY j _ vj XV hvj;have haj:=qI K9 Sd j _ XV (Sd j _ XV hj);simp only[Option.map_some,bV];refine En.ev_upd λhm=>?_
    rcases d2 i hm with rfl|h1
    ·rw[Ps]at hj;cases hj
    ·rw[haj i h1]at Ps;cases Ps
  have adL:∀j t,dstOf ops j=some t->j<ops.size:=λj t hj=>GH
  have ZF:∀t∈o.looksAt ops,T[t]?=(Rf γ)[t]?:=by
   intro t hlk;rw[<-hR γ,Kf (QQ γ).sz];by_cases hot:t∈old
   ·rw[aN hot];refine Tw.off t λj hj hd=>?_
    have h1:=c1 t hlk j hd;rw[aN hot]at h1;have XO:=adL j t hd;have h2:=qI K9 Sd j _ (bR XO) (Sd j _ (bR XO) hj) i h1;rw[Ps]at h2;cases h2
   ·rw[aH hot];refine Tw.same (QQ γ) (t:=t) λj hj=>?_
    have h1:=c1 t hlk j hj;rw[aH hot]at h1;exact⟨han j h1,by simpa using adL j t hj⟩
  have UI:execOp (Act.mk T D0).eval o=execOp (Act.mk (Rf γ) D0).eval o:=by
   refine execOp_congr o (λcs b=>Region.noSelect_spec hns i o cs b ho) λx hx=>?_
   cases x with
   |tmp t=>
    have hlk:t∈o.looksAt ops:=bJ _ (List.mem_filterMap.2 ⟨.tmp t,by simpa using hx,rfl⟩);have:=ZF t hlk;simp [Act.eval,cH,this]
   |const _=>rfl
   |global _=>rfl
   |func _=>rfl
  have aen:Region.wanted o (yielded ops T)=Region.wanted o (yielded ops (Rf γ)):=by
   unfold Region.wanted;cases hg:o.guard with
   |none=>rfl
   |some gw=>
    obtain⟨g,want⟩:=gw;have:yielded ops T g=yielded ops (Rf γ) g:=by
     unfold yielded;cases ht:(ops[g]?).bind (·.dst) with
     |none=>rfl
     |some t=>
      have hlk:t∈o.looksAt ops:=bD _ (by simp [hg,ht]);have:=ZF t hlk;simp only[Option.bind_some,this]
    simp only[this]
  have R_:dstOf ops i=o.dst:=by simp [dstOf,ho]
  have agU:Dn ops (λk=>(la.setIfInBounds i true).getD k false):=by
   rw[abx];intro j oj XV hj e he hb;unfold s9 at hj ⊢;split
   ·rfl
   ·by_cases hji:j=i
    ·subst hji;rw[ho]at XV;injection XV with XV;subst XV;exact hed e he hb
    ·rw[aH hji]at hj;exact Sd j oj XV hj e he hb
  have JB:∀x u w',u=v.ev (xE γ i x)->Mem P w0 X w' (iN rs (xE γ i x) (oZ rs (s9 (λk=>la.getD k false) i))++R0)->K ((Act.mk T D0).put o.dst u) w':=by
   intro x u w' hu hM';refine hK _ _ ⟨by simpa using kD,agU,xE γ i x,x8 T (dstOf ops i) u,?_,?_,?_⟩
   ·rw[R_];cases o.dst<;>rfl
   ·rw[abx];have:=Tw.put (i:=i) (val':=λj=>((vs[j]?).map (·.ev (xE γ i x))).getD undef) Ps c6 (λj hj=>ahu x j hj);simpa [hv,hu]using this
   ·rw[abx];exact hM'
  have hcu:∀r,r∈iJ rs i++us.getD i []->r∈oZ rs (λk=>la.getD k false):=by
   intro r hr;rw[rt];unfold lv;rcases aG.1 hr with hr|hr
   ·obtain⟨e,h1,h2⟩:=c5 r hr;obtain⟨e',h3,h4⟩:=vG.1 hr;rw[h1]at h3;injection h3 with h3;subst h3
    rw[h1];simp only[h4,Ps,ak,Bool.and_true];cases hp:e.pr with
    |none=>rfl
    |some p=>exact han p (h2 p hp)
   ·obtain⟨e,h1,h2,h3⟩:=c4 r hr;rw[h1];simp only[ax];refine⟨?_,?_⟩
    ·cases hp:e.pr with
     |none=>rfl
     |some p=>exact han p (h2 p hp)
    ·cases hc:e.co with
     |none=>rfl
     |some c=>
      obtain⟨h4,h5⟩:=h3 c hc;have Pp:=(X3 r e h1).2.2 c hc;simp only[cQ];cases hlc:la.getD c false with
      |false=>rfl
      |true=>
       have:=qI K9 Sd c _ (bR Pp) (Sd c _ (bR Pp) hlc) i h5;rw[Ps]at this;cases this
  have aby:(oZ rs (λk=>la.getD k false)).Perm ((iJ rs i++us.getD i [])++(oZ rs (λk=>la.getD k false)).filter (λr=> !(iJ rs i++us.getD i []).contains r)):=by
   refine Rg ua (aE.2 ⟨c3,ua.filter _,?_⟩) λr=>?_
   ·intro a ha b hb e;subst e;simp only[cS,cW,cQ,bB]at hb;exact hb.2 ha
   ·constructor
    ·intro hr;by_cases hc:r∈iJ rs i++us.getD i []
     ·exact bJ _ hc
     ·exact bD _ (by simp only[cS,cW,cQ,bB];exact⟨hr,hc⟩)
    ·intro hr;rcases aG.1 hr with hr|hr
     ·exact hcu r hr
     ·exact(cS.1 hr).1
  have hM1:Mem P w0 X w (JU rs us γ i++(iN rs γ ((oZ rs (λk=>la.getD k false)).filter (λr=> !(iJ rs i++us.getD i []).contains r))++R0)):=by have:=hM.perm ((aby.filterMap (W8 rs γ)).append_right R0);rw[dJ,aS]at this;exact this
  have ad9:∀r,r∈lr rs i->r ∉ oZ rs (λk=>la.getD k false):=by intro r hr hm;obtain⟨e,h1,h2⟩:=zQ.1 hr;rw[rt]at hm;unfold lv at hm;rw[h1]at hm;simp [h2,hli]at hm
  have X6:(oZ rs (s9 (λk=>la.getD k false) i)).Perm ((lr rs i++us.getD i [])++(oZ rs (λk=>la.getD k false)).filter (λr=> !(iJ rs i++us.getD i []).contains r)):=by
   have hu:=(aE.1 c3).2.1;refine Rg ua (aE.2 ⟨aE.2 ⟨List.nodup_range.filter _,hu,?_⟩,ua.filter _,?_⟩) λr=>?_
   ·intro a ha b hb e;subst e;exact ad9 a ha (hcu a (bD _ hb))
   ·intro a ha b hb e;subst e;simp only[cS,cW,cQ,bB]at hb;rcases aG.1 ha with ha|ha
    ·exact ad9 a ha hb.1
    ·exact hb.2 (bD _ ha)
   ·have kQ:∀e,rs[r]?=some e->(lv rs (s9 (λk=>la.getD k false) i) r=true↔(r∈lr rs i/\e.co≠some i)\/(lv rs (λk=>la.getD k false) r=true/\e.co≠some i)):=by
     intro e he;have hn1:e.pr=some i->∀c,e.co=some c->la.getD c false=true->c=i->False:=λ_ c _ h1 h2=>by subst h2;rw[Ps]at h1;cases h1
     have WD:e.pr=some i->∀c,e.co=some c->c≠i->la.getD c false=false:=λhp c hc jC=>by
      cases hlc:la.getD c false with
      |false=>rfl
      |true=>
       exfalso;have Pp:=(X3 r e he).2.2 c hc;obtain⟨vc,hvc⟩:=OD c Pp;obtain⟨_,_,_,_,d5,_⟩:=XY c _ vc (bR Pp) hvc;obtain⟨e',q1,q2⟩:=d5 r (vG.2 ⟨e,he,hc⟩);rw[he]at q1;injection q1 with q1;subst q1
       have:=qI K9 Sd c _ (bR Pp) (Sd c _ (bR Pp) hlc) i (q2 i hp);rw[Ps]at this;cases this
     unfold lv;rw[he];simp only[ax];constructor
     ·rintro⟨q1,q2⟩;have q3:e.co≠some i:=λhc=>by rw[hc]at q2;simp [s9]at q2
      have q4:(match e.co with|none=>true|some c=> !la.getD c false)=true:=by
       cases hc:e.co with
       |none=>rfl
       |some c=>rw[hc]at q2;have:c≠i:=λh=>q3 (by rw[hc,h]);simpa [s9,this]using q2
      by_cases hp:e.pr=some i
      ·exact .inl ⟨zQ.2 ⟨e,he,hp⟩,q3⟩
      ·refine .inr ⟨⟨?_,q4⟩,q3⟩;cases hp':e.pr with
       |none=>rfl
       |some p=>rw[hp']at q1;have:p≠i:=λh=>hp (by rw[hp',h]);simpa [s9,this]using q1
     ·rintro(⟨q1,q2⟩|⟨⟨q1,q3⟩,q2⟩)
      ·obtain⟨e',q4,q5⟩:=zQ.1 q1;rw[he]at q4;injection q4 with q4;subst q4
       refine⟨by rw[q5];simp [s9],?_⟩;cases hc:e.co with
       |none=>rfl
       |some c=>have jC:c≠i:=λh=>q2 (by rw[hc,h]);have:=WD q5 c hc jC;simp [s9,jC,this]
      ·refine⟨?_,?_⟩
       ·cases hp:e.pr with
        |none=>rfl
        |some p=>rw[hp]at q1;unfold s9;simp only[];split<;>simp_all
       ·cases hc:e.co with
        |none=>rfl
        |some c=>rw[hc]at q3;have jC:c≠i:=λh=>q2 (by rw[hc,h]);simpa [s9,jC]using q3
    rw[rt];constructor
    ·intro hr;have ⟨e,he⟩:∃e,rs[r]?=some e:=by
      cases hh:rs[r]? with
      |none=>unfold lv at hr;rw[hh]at hr;simp at hr
      |some e=>exact⟨e,rfl⟩
     rcases(kQ e he).1 hr with ⟨q1,q2⟩|⟨q1,q2⟩
     ·exact bJ _ (bJ _ q1)
     ·by_cases hu':r∈us.getD i []
      ·exact bJ _ (bD _ hu')
      ·refine bD _ ?_;simp only[cS,cW,cQ,bB];refine⟨rt.2 q1,λhm=>?_⟩;rcases aG.1 hm with hm|hm
       ·obtain⟨e',q4,q5⟩:=vG.1 hm;rw[he]at q4;injection q4 with q4;subst q4
        exact q2 q5
       ·exact hu' hm
    ·intro hr;rcases aG.1 hr with hr|hr
     ·rcases aG.1 hr with hr|hr
      ·obtain⟨e,he,hp⟩:=zQ.1 hr;refine(kQ e he).2 (.inl ⟨hr,λhc=>?_⟩);obtain⟨e',q1,q2⟩:=c5 r (vG.2 ⟨e,he,hc⟩);rw[he]at q1;injection q1 with q1;subst q1
       have:=han i (q2 i hp);rw[Ps]at this;cases this
      ·obtain⟨e,he,q2,q3⟩:=c4 r hr;exact(kQ e he).2 (.inr ⟨rt.1 (hcu r (bD _ hr)),λhc=>(q3 i hc).1 rfl⟩)
     ·simp only[cS,cW,cQ,bB]at hr;have hlr:=rt.1 hr.1;have ⟨e,he⟩:∃e,rs[r]?=some e:=by
       cases hh:rs[r]? with
       |none=>unfold lv at hlr;rw[hh]at hlr;simp at hlr
       |some e=>exact⟨e,rfl⟩
      exact(kQ e he).2 (.inr ⟨hlr,λhc=>hr.2 (bJ _ (vG.2 ⟨e,he,hc⟩))⟩)
  have adz:∀x,iN rs (xE γ i x) ((oZ rs (λk=>la.getD k false)).filter (λr=> !(iJ rs i++us.getD i []).contains r))=iN rs γ ((oZ rs (λk=>la.getD k false)).filter (λr=> !(iJ rs i++us.getD i []).contains r)):=by
   intro x;unfold iN;refine MP λr hr=>?_
   have hlr:=rt.1 (cS.1 hr).1;unfold W8;cases he:rs[r]? with
   |none=>rfl
   |some e=>
    simp only[Option.map_some,cE];refine En.ev_upd λhm=>?_
    unfold lv at hlr;rw[he]at hlr;simp only[ax]at hlr;cases hp:e.pr with
    |none=>rw[(X3 r e he).1 hp]at hm;simp at hm
    |some p=>
     obtain⟨q1,q2⟩:=(X3 r e he).2.1 p hp;have hlp:la.getD p false=true:=by have:=hlr.1;rw[hp]at this;exact this
     rcases q2 i hm with rfl|q3
     ·rw[Ps]at hlp;cases hlp
     ·have:=qI K9 Sd p _ (bR q1) (Sd p _ (bR q1) hlp) i q3;rw[Ps]at this;cases this
  have jO:∀x w',Mem P w0 X w' (DA rs us (xE γ i x) i++(iN rs γ ((oZ rs (λk=>la.getD k false)).filter (λr=> !(iJ rs i++us.getD i []).contains r))++R0))->Mem P w0 X w' (iN rs (xE γ i x) (oZ rs (s9 (λk=>la.getD k false) i))++R0):=by intro x w' h1;have h2:=((X6.filterMap (W8 rs (xE γ i x))).append_right R0).symm;rw[dJ,aS]at h2;refine Mem.perm ?_ h2;have h3:=adz x;unfold iN at h3;rw[h3];exact h1
  obtain⟨o',v',ZC,xg,h⟩:=wS i hi;rw[ho]at ZC;injection ZC with ZC;subst ZC
  rw[hv]at xg;injection xg with xg;subst xg
  have h1:=h γ w _ (λa' w'=>∃u,a'=(Act.mk (Rf γ) D0).put o.dst u/\∃x,u=v.ev (xE γ i x)/\Mem P w0 X w' (DA rs us (xE γ i x) i++(iN rs γ ((oZ rs (λk=>la.getD k false)).filter (λr=> !(iJ rs i++us.getD i []).contains r))++R0))) hM1 (λx w' hMx=>⟨_,rfl,x,rfl,hMx⟩);have ael:(Rf γ).size=T.size:=by rw[<-hR γ,rY,(QQ γ).sz,Tw.sz]
  rw[show (Act.mk (Rf γ) D0).tmps=Rf γ from rfl,<-aen]at h1;rw[show (Act.mk T D0).tmps=T from rfl];split at h1
  ·rename_i hw
   rw[aN hw];unfold Oper.wp at h1 ⊢;rw[UI];refine Y1 ael h1 λu w' hk=>?_
   obtain⟨x,hx,hMx⟩:=hk;exact JB x u w' hx (jO x w' hMx)
  ·rename_i hw
   rw[aH hw];obtain⟨u,h2,x,hx,hMx⟩:=h1;rw[VI ael h2];exact JB x u w hx (jO x w hMx)
 ·rintro la a w ⟨kD,Sd,γ,T,rfl,Tw,hM⟩ jb;have hl:∀i,i<ops.size->la.getD i false=true:=λi hi=>by simp [jb i hi]
  have hTT:T=Tf γ:=Tw.ext (QQ γ) λj hj=>⟨hl j hj,by simpa using hj⟩
  subst hTT;refine⟨γ,rfl,?_⟩;have:(λi=>la.getD i false)=λi=>decide (i<ops.size):=by
   funext i;rcases cP i ops.size with hlt|tU
   ·rw[hl i hlt];simp [hlt]
   ·simp [cI (show la.size<=i by omega)];omega
  rw[<-this];exact hM
 ·intro w abh;refine⟨by simp,?_,λ_=>mA 0,T0,rfl,⟨rfl,?_,λ_ _=>rfl⟩,?_⟩
  ·intro i o ho hl;rcases cP i ops.size with hlt|tU
   ·simp [hlt]at hl
   ·simp [cI tU]at ho
  ·intro i t hl;rcases cP i ops.size with hlt|tU
   ·simp [hlt]at hl
   ·simp [show ¬i<ops.size by omega]at hl
  ·have:(λi=>(Array.replicate ops.size false).getD i false)=λ_=>false:=by
    funext i;rcases cP i ops.size with hlt|tU
    ·simp [hlt]
    ·simp [show ¬i<ops.size by omega]
   rw[this];exact abh _
theorem EK {id:Nat} {w:World} (hm:P.follows .mixedOrders=true) (AQ:chk ops old vs rs us=true) (gK:vs.length=ops.size) (hT:∀γ,vR T0 (ops.toList.map (·.dst)) (vs.map (·.ev γ))=Tf γ) (hR:∀γ,mb (Tf γ) T0 old=Rf γ)
 (abh:∀γ,Mem P w0 X w.drew (iN rs γ (oZ rs λ_=>false)++R0))
 (wS:∀i,i<ops.size->sG P w0 X ops vs rs us D0 Rf i)
 (tT:∀γ w',Mem P w0 X w' (iN rs γ (oZ rs λi=>decide (i<ops.size))++R0)->Q .normal ⟨Tf γ,D0⟩ w'):(Code.region id ops true).wp P Q ⟨T0,D0⟩ w:=by
 obtain⟨h1,h2,h3,R7⟩:=T5 (T0:=T0) R0 AQ gK hT hR wS;refine aW (S:=λ_=>True) hm bO λ_=>?_
 refine Op (St P w0 X ops vs rs D0 T0 R0) (λl a w h=>h.1) (λ_ _ _ _=>bO) (λi o la a w ho hl he hS K hK=>h1 i o la a w ho hl he hS Q K hK) R7 (λla a w hS jb=>?_) _ _ _ _ (Nat.le_of_eq ?_) (h3 _ abh)
 ·obtain⟨γ,rfl,hM⟩:=h2 la a w hS jb;exact tT γ w hM
 ·unfold unl;simp
theorem Yx {p:Nat->Prop}:∀i,i<0->p i:=λi h=>absurd h dP
theorem Vt {p:Nat->Prop} {n:Nat} (h:∀i,i<n->p i) (k:p n):∀i,i<n+1->p i:=λi hi=>by
 rcases Nat.lt_or_eq_of_le (Nat.le_of_lt_succ hi) with h1|h1
 ·exact h i h1
 ·exact h1 ▸ k
variable {i:Nat} {o:Oper} {v:En Value}
theorem Yv (ho:ops[i]?=some o) (hv:vs[i]?=some v) (V:(Nat->Gh)->Value) (L:(Nat->Gh)->List As) (hV:∀γ,v.ev γ=V γ) (hL:∀γ,JU rs us γ i=L γ) (hG:∀γ,DA rs us γ i=L γ)
 (h:∀γ w K,Mem P w0 X w (L γ)->K ((Act.mk (Tf γ) D0).put o.dst (V γ)) w->if Region.wanted o (yielded ops (Act.mk (Tf γ) D0).tmps)=true then Oper.wp P o ⟨Tf γ,D0⟩ w K (λ_ _ _=>False) else K ((Act.mk (Tf γ) D0).put o.dst undef) w):sG P w0 X ops vs rs us D0 Tf i:=
 ⟨o,v,ho,hv,λγ w R K hM hK=>h γ w K (by rw[<-hL];exact hM.left) (by have:=hK (γ i) w (by rw[Om,hG,<-hL];exact hM);rw[Om,hV]at this;exact this)⟩
theorem Yw (ho:ops[i]?=some o) (hv:vs[i]?=some v) (V:(Nat->Gh)->Gh->Value) (L:(Nat->Gh)->List As) (G:(Nat->Gh)->Gh->List As) (hV:∀γ x,v.ev (xE γ i x)=V γ x) (hL:∀γ,JU rs us γ i=L γ) (hG:∀γ x,DA rs us (xE γ i x) i=G γ x)
 (h:∀γ w R K,Mem P w0 X w (L γ++R)->(∀x w',Mem P w0 X w' (G γ x++R)->K ((Act.mk (Tf γ) D0).put o.dst (V γ x)) w')->if Region.wanted o (yielded ops (Act.mk (Tf γ) D0).tmps)=true then Oper.wp P o ⟨Tf γ,D0⟩ w K (λ_ _ _=>False) else K ((Act.mk (Tf γ) D0).put o.dst undef) w):sG P w0 X ops vs rs us D0 Tf i:=
 ⟨o,v,ho,hv,λγ w R K hM hK=>h γ w R K (by rw[<-hL];exact hM) (λx w' hMx=>by have:=hK x w' (by rw[hG];exact hMx);rw[hV]at this;exact this)⟩
theorem JV (DT:List Nat) (ho:ops[i]?=some o) (hv:vs[i]?=some v) (hc:(iJ rs i,lr rs i,us.getD i [])=([],[],DT))
 (h:∀γ w K,Mem P w0 X w (iN rs γ DT)->K ((Act.mk (Tf γ) D0).put o.dst (v.ev γ)) w->if Region.wanted o (yielded ops (Act.mk (Tf γ) D0).tmps)=true then Oper.wp P o ⟨Tf γ,D0⟩ w K (λ_ _ _=>False) else K ((Act.mk (Tf γ) D0).put o.dst undef) w):sG P w0 X ops vs rs us D0 Tf i:=by
 simp only[Prod.mk.injEq]at hc;obtain⟨h1,h2,h3⟩:=hc;refine Yv ho hv (λγ=>v.ev γ) (λγ=>iN rs γ DT) (λ_=>rfl) (λγ=>?_) (λγ=>?_) h
 ·unfold JU;rw[h1,h3];rfl
 ·unfold DA;rw[h2,h3];rfl
theorem Q6 (ci pi ui:List Nat) (ho:ops[i]?=some o) (hv:vs[i]?=some v) (hc:(iJ rs i,lr rs i,us.getD i [])=(ci,pi,ui))
 (h:∀γ w R K,Mem P w0 X w (iN rs γ (ci++ui)++R)->(∀x w',Mem P w0 X w' (iN rs (xE γ i x) (pi++ui)++R)->K ((Act.mk (Tf γ) D0).put o.dst (v.ev (xE γ i x))) w')->if Region.wanted o (yielded ops (Act.mk (Tf γ) D0).tmps)=true then Oper.wp P o ⟨Tf γ,D0⟩ w K (λ_ _ _=>False) else K ((Act.mk (Tf γ) D0).put o.dst undef) w):sG P w0 X ops vs rs us D0 Tf i:=by
 simp only[Prod.mk.injEq]at hc;obtain⟨h1,h2,h3⟩:=hc;refine Yw ho hv (λγ x=>v.ev (xE γ i x)) (λγ=>iN rs γ (ci++ui)) (λγ x=>iN rs (xE γ i x) (pi++ui)) (λ_ _=>rfl) (λγ=>?_) (λγ x=>?_) h
 ·unfold JU;rw[h1,h3];rfl
 ·unfold DA;rw[h2,h3];rfl
theorem aeH (DT:List Nat) (ho:ops[i]?=some o) (hv:vs[i]?=some v) (hc:(iJ rs i,lr rs i,us.getD i [])=([],[],DT))
 (h:∀γ (w:World),(if Region.wanted o (yielded ops (Act.mk (Tf γ) D0).tmps) then (execOp (Act.mk (Tf γ) D0).eval o).run P w else Result.ok (.value undef) w)=Result.ok (.value (v.ev γ)) w) (_:true=true):sG P w0 X ops vs rs us D0 Tf i:=
 JV DT ho hv hc λγ w K _ hK=>by
  have h1:=h γ w;split at h1
  ·rename_i hw
   rw[aN hw];unfold Oper.wp;rw[h1];exact hK
  ·rename_i hw
   rw[aH hw];injection h1 with h1
   injection h1 with h1
   rw[h1];exact hK
end
section
variable {P:Program} {w0 w w':World} {X F:List Nat} {L M C C' R:List As} {x y:As} {g i:Nat} {t e te:TypeId} {cs:List Value} {d:D} {u:Value}
theorem Mem.split (C:List As) (h:Mem P w0 X w (C++R)):∃F,Sats P w C F/\F.Nodup/\∀(w':World) (C':List As) (G:List Nat),Sats P w' C' G->G.Nodup->(∀g∈G,g∈F\/w.heap.size<=g)->Mod F w w'->Mem P w0 X w' (C'++R):=by
 obtain⟨hm,F,h1,h2,h3⟩:=h;obtain⟨F1,F2,rfl,h4,h5⟩:=nL.1 h1;obtain⟨n1,n2,n3⟩:=aE.1 h2;refine⟨F1,h4,n1,λw' C' G k1 k2 k3 k4=>?_⟩;have hz:=hm.size;have h6:=wY h5;refine⟨hm.trans k4 (λg hg=>h3 g fe),G++F2,nL.2 ⟨G,F2,rfl,k1,th h5 λg hg=>k4.2.2 g (h6 g hg) (λhf=>n3 g hf g hg rfl)⟩,aE.2 ⟨k2,n2,λa ha b hb e=>?_⟩,λg hg=>?_⟩
 ·subst e;rcases k3 a ha with h7|h7
  ·exact n3 a h7 a hb rfl
  ·have:=h6 a hb;omega
 ·exact F8
theorem iQ:Sats P w [x] F↔x.sat P w F:=by
 rw[Sats];constructor
 ·rintro⟨F1,F2,rfl,h1,h2⟩;rw[Sats]at h2;subst h2;simpa using h1
 ·intro h;exact⟨F,[],by simp,h,by rw[Sats]⟩
theorem fJ:Sats P w (x::L) F↔∃F1 F2,F=F1++F2/\x.sat P w F1/\Sats P w L F2:=by rw[Sats]
theorem Mem.emp (h:Mem P w0 X w R) (ht:P.underlying t=some (.slice e)):Mem P w0 X (w.alloc (.cells #[] e)) (.ow (.sl []) t [.slice (some ⟨w.heap.size,0,none⟩) 0 0]::R):=by refine h.gain (F:=[w.heap.size]) ?_ ⟨by simp,by simp⟩ ((Below.refl _ _).alloc (af _) _);rw[own];refine⟨e,_,0,0,_,[],[],ht,rfl,rfl,by unfold maxLen;omega,?_,rfl,by rw[bL,iv];exact⟨rfl,rfl⟩⟩;exact Own.new_ Row.len w [] #[] rfl rfl eb (dj _) rfl
theorem Mem.nil (h:Mem P w0 X w R) (ht:P.underlying t=some (.slice e)):Mem P w0 X w (.ow (.sl []) t [()]::R):=by refine h.gain (F:=[]) ?_ Fresh.nil (Below.refl _ _);rw[own];exact⟨e,none,0,0,_,[],[],ht,rfl,rfl,by unfold maxLen;omega,Own.nil_,rfl,by rw[bL,iv];exact⟨rfl,rfl⟩⟩
theorem Mem.scal (h:Mem P w0 X w R) (ho:own P w d t [] cs):Mem P w0 X w (.ow d t cs::R):=h.gain ho Fresh.nil (Below.refl _ _)
theorem Mem.int (h:Mem P w0 X w R) {n:Int} (hn:(Lit.int .i64 n).wf=true):Mem P w0 X w (.ow (.i .i64 n) t [n]::R):=h.scal (by rw[own];exact⟨rfl,rfl,hn⟩)
theorem Mem.str (h:Mem P w0 X w R) {s:Str} (hn:s.length<=maxLen):Mem P w0 X w (.ow (.s s) t [sv s]::R):=h.scal (by rw[own];exact⟨rfl,rfl,hn⟩)
variable {size bytes:Nat} {ops:Array Oper} {o:Oper} {a:Act} {Q:Exit->Act->World->Prop} {K:Act->World->Prop} {E:Prop} {xs:List D} {A:Option Addr} {n c b m:Nat}
theorem mG (M:Mem P w0 X w (.ow (.sl xs) t [.slice A n c]:: .ow d e cs:: .bk b te cs::R)) (hT:ElemTy P t e size bytes) (kD:P.cellsOf e=size) (zK:o.guard=none) (sl x:Operand)
 (ho:o.op= .call {callee:= .builtin .append,args:=#[sl,x],argTypes:=#[t,t]}) (hs:a.eval sl= .slice A n c) (hx:a.eval x= .slice (some ⟨b,0,none⟩) 1 m) (hl:cs.length=size) (hn:n+1<=maxLen) (h63:(n+1)*bytes<=140737488355328)
 (h:∀g c' w',Mem P w0 X w' (.ow (.sl (xs++[d])) t [.slice (some ⟨g,0,none⟩) (n+1) c']:: .bk b te cs::R)->K (a.put o.dst (.slice (some ⟨g,0,none⟩) (n+1) c')) w'):
 if Region.wanted o (yielded ops a.tmps)=true then Oper.wp P o a w K Q else E:=by
 have hb:Blk w b te cs:=M.blk dR;obtain⟨F,h1,h2,h3⟩:=Mem.split [_,_] M;obtain⟨F1,F2,rfl,h4,h5⟩:=fJ.1 h1;have h5:=iQ.1 h5;refine gL hT kD zK sl x ho hs h4 hx hb h5 hl h2 hn h63 λg c' w' yX k1 k2 k3=>h g c' w' (h3 w' [_] yX (iQ.2 k1) k2.1 (λx hx=>?_) (k3.mono (λy hy=>bJ _ hy)))
 rcases k2.2 x hx with h6|h6|h6
 ·exact .inl (bJ _ h6)
 ·exact .inl (bD _ h6)
 ·exact .inr dP
theorem pO {α:Type} {f:α->D} (enc:α->List Value) (M:Mem P w0 X w (.ow (.sl []) t [.slice (some ⟨g,0,none⟩) 0 0]::R)) (hT:ElemTy P t e size bytes) (kD:P.cellsOf e=size) (mB:∀x,(enc x).length=size) (hone:∀x,∀u∈enc x,u.oneCell'=true) (zK:o.guard=none) (sl x:Operand)
 (ho:o.op= .call {callee:= .builtin .append,args:=#[sl,x],argTypes:=#[t,t]}) (hs:a.eval sl= .slice (some ⟨g,0,none⟩) 0 0)
 (A2:Option Addr) (m c2 B:Nat) (l2:List α) (hx:a.eval x= .slice A2 m c2) (hr:Reads enc size w B A2 m l2) (hfl:∀x∈l2,∀w',own P w' (f x) e [] (enc x)) (h63:m*bytes<=140737488355328) (hn:m<=maxLen)
 (h:∀A' c' w',Mem P w0 X w' (.ow (.sl (l2.map f)) t [.slice A' m c']::R)->K (a.put o.dst (.slice A' m c')) w'):
 if Region.wanted o (yielded ops a.tmps)=true then Oper.wp P o a w K Q else E:=by
 obtain⟨F,h1,h2,h3⟩:=Mem.split [_] M;have h4:=iQ.1 h1;exact qc enc hT kD mB hone zK sl x ho hs h4 A2 m c2 B l2 hx hr hfl h63 hn λA' c' w' F' k1 k2 k3=>h A' c' w' (h3 w' [_] F' (iQ.2 k1) k2.1 k2.2 k3)
end
theorem FM (n:Int) (h: -9223372036854775808<=n/\n<=9223372036854775807):IntKind.i64.wrap n=n:=by rw[IntKind.wrap_i64];omega
section
variable {P:Program} {w0:World} {X:List Nat} {ops:Array Oper} {vs:List (En Value)} {rs:List Re} {us:List (List Nat)} {D0:List Deferred} {Tf:(Nat->Gh)->Array Value} {i:Nat} {o:Oper} {v:En Value} {DT ci pi:List Nat} {t:TypeId} {B:(Nat->Gh)->Nat} {CS:(Nat->Gh)->List Value} {U U0 U1 U2 U3 U4 U5 U6 U7:(Nat->Gh)->Value}
theorem eh (ho:ops[i]?=some o:=by rfl) (hv:vs[i]?=some v:=by rfl) (hc:(iJ rs i,lr rs i,us.getD i [])=([],[],[]):=by kernel_rfl)
 (h:∀γ w K,K ((Act.mk (Tf γ) D0).put o.dst (v.ev γ)) w->if Region.wanted o (yielded ops (Act.mk (Tf γ) D0).tmps)=true then Oper.wp P o ⟨Tf γ,D0⟩ w K (λ_ _ _=>False) else K ((Act.mk (Tf γ) D0).put o.dst undef) w:=by intro γ w K hK;go_simp;exact hK):sG P w0 X ops vs rs us D0 Tf i:=
 JV [] ho hv hc λγ w K _ hK=>h γ w K hK
theorem e_ (DT:List Nat) (k:Nat) (ho:ops[i]?=some o:=by rfl) (hv:vs[i]?=some v:=by rfl) (hc:(iJ rs i,lr rs i,us.getD i [])=([],[],DT):=by kernel_rfl) (hx:∀γ,(iN rs γ DT)[0]?=some (.bk (B γ) t (CS γ)):=by intro _;rfl) (hk:∀γ,(CS γ)[k]?=some (U γ):=by intro _;rfl)
 (h:∀γ w K,w.cell? ⟨B γ,k,none⟩=some (U γ)->K ((Act.mk (Tf γ) D0).put o.dst (v.ev γ)) w->if Region.wanted o (yielded ops (Act.mk (Tf γ) D0).tmps)=true then Oper.wp P o ⟨Tf γ,D0⟩ w K (λ_ _ _=>False) else K ((Act.mk (Tf γ) D0).put o.dst undef) w:=by intro γ w K c hK;go_simp;exact hK):sG P w0 X ops vs rs us D0 Tf i:=
 JV DT ho hv hc λγ w K M hK=>h γ w K (((M.bl 0 (hx γ)).cell k).trans (hk γ)) hK
theorem ZX (DT:List Nat) (ho:ops[i]?=some o:=by rfl) (hv:vs[i]?=some v:=by rfl) (hc:(iJ rs i,lr rs i,us.getD i [])=([],[],DT):=by kernel_rfl) (hx:∀γ,(iN rs γ DT)[0]?=some (.bk (B γ) t [U0 γ,U1 γ,U2 γ]):=by intro _;rfl)
 (h:∀γ w K,w.cell? ⟨B γ,0,none⟩=some (U0 γ)->w.cell? ⟨B γ,1,none⟩=some (U1 γ)->w.cell? ⟨B γ,2,none⟩=some (U2 γ)->K ((Act.mk (Tf γ) D0).put o.dst (v.ev γ)) w->if Region.wanted o (yielded ops (Act.mk (Tf γ) D0).tmps)=true then Oper.wp P o ⟨Tf γ,D0⟩ w K (λ_ _ _=>False) else K ((Act.mk (Tf γ) D0).put o.dst undef) w:=by intro γ w K c d e hK;go_simp;exact hK):sG P w0 X ops vs rs us D0 Tf i:=
 JV DT ho hv hc λγ w K M hK=>h γ w K ((M.bl 0 (hx γ)).cell 0) ((M.bl 0 (hx γ)).cell 1) ((M.bl 0 (hx γ)).cell 2) hK
theorem lL (DT:List Nat) (ho:ops[i]?=some o:=by rfl) (hv:vs[i]?=some v:=by rfl) (hc:(iJ rs i,lr rs i,us.getD i [])=([],[],DT):=by kernel_rfl) (hx:∀γ,(iN rs γ DT)[0]?=some (.bk (B γ) t [U0 γ,U1 γ,U2 γ,U3 γ,U4 γ,U5 γ,U6 γ,U7 γ]):=by intro _;rfl)
 (h:∀γ w K,w.cell? ⟨B γ,0,none⟩=some (U0 γ)->w.cell? ⟨B γ,1,none⟩=some (U1 γ)->w.cell? ⟨B γ,2,none⟩=some (U2 γ)->w.cell? ⟨B γ,3,none⟩=some (U3 γ)->w.cell? ⟨B γ,4,none⟩=some (U4 γ)->w.cell? ⟨B γ,5,none⟩=some (U5 γ)->w.cell? ⟨B γ,6,none⟩=some (U6 γ)->w.cell? ⟨B γ,7,none⟩=some (U7 γ)->
  K ((Act.mk (Tf γ) D0).put o.dst (v.ev γ)) w->if Region.wanted o (yielded ops (Act.mk (Tf γ) D0).tmps)=true then Oper.wp P o ⟨Tf γ,D0⟩ w K (λ_ _ _=>False) else K ((Act.mk (Tf γ) D0).put o.dst undef) w:=by intro γ w K a b c d e f g h hK;go_simp;exact hK):sG P w0 X ops vs rs us D0 Tf i:=
 JV DT ho hv hc λγ w K M hK=>by have q:=M.bl 0 (hx γ);exact h γ w K (q.cell 0) (q.cell 1) (q.cell 2) (q.cell 3) (q.cell 4) (q.cell 5) (q.cell 6) (q.cell 7) hK
theorem kX (pi:List Nat) (ho:ops[i]?=some o:=by rfl) (hv:vs[i]?=some v:=by rfl) (hc:(iJ rs i,lr rs i,us.getD i [])=([],pi,[]):=by kernel_rfl) (hx:∀γ b,iN rs (xE γ i (mA b)) pi=[.bk b t (CS γ)]:=by intro _ _;rfl)
 (h:∀γ w K,K ((Act.mk (Tf γ) D0).put o.dst (v.ev (xE γ i (mA w.heap.size)))) (w.alloc (.cells (CS γ).toArray t))->if Region.wanted o (yielded ops (Act.mk (Tf γ) D0).tmps)=true then Oper.wp P o ⟨Tf γ,D0⟩ w K (λ_ _ _=>False) else K ((Act.mk (Tf γ) D0).put o.dst undef) w:=by intro γ w K hK;go_simp;exact hK):sG P w0 X ops vs rs us D0 Tf i:=
 Q6 [] pi [] ho hv hc λγ w R K M hK=>h γ w K (hK (mA w.heap.size) _ (by rw[bP,hx];exact M.all))
theorem vI (ci pi:List Nat) (k:Nat) (ho:ops[i]?=some o:=by rfl) (hv:vs[i]?=some v:=by rfl) (hc:(iJ rs i,lr rs i,us.getD i [])=(ci,pi,[]):=by kernel_rfl) (hx:∀γ,iN rs γ ci=[.bk (B γ) t (CS γ)]:=by intro _;rfl) (hk:∀γ,(CS γ)[k]?=some (U γ):=by intro _;rfl) (hy:∀γ,iN rs (xE γ i (mA 0)) pi=[.bk (B γ) t ((CS γ).set k (U0 γ))]:=by intro _;rfl)
 (h:∀γ w K,w.cell? ⟨B γ,k,none⟩=some (U γ)->w.frozen? ⟨B γ,k,none⟩=false->B γ<w.heap.size->K ((Act.mk (Tf γ) D0).put o.dst (v.ev (xE γ i (mA 0)))) (w.setCell ⟨B γ,k,none⟩ (U0 γ))->if Region.wanted o (yielded ops (Act.mk (Tf γ) D0).tmps)=true then Oper.wp P o ⟨Tf γ,D0⟩ w K (λ_ _ _=>False) else K ((Act.mk (Tf γ) D0).put o.dst undef) w:=by intro γ w K c f g hK;go_simp;exact hK):sG P w0 X ops vs rs us D0 Tf i:=
 Q6 ci pi [] ho hv hc λγ w R K M hK=>by rw[bP,hx]at M;have q:=M.bl 0 rfl;exact h γ w K ((q.cell k).trans (hk γ)) (q.frozen k) q.lt (hK (mA 0) _ (by rw[bP,hy];exact M.put k _))
theorem vJ (ci pi:List Nat) (ho:ops[i]?=some o:=by rfl) (hv:vs[i]?=some v:=by rfl) (hc:(iJ rs i,lr rs i,us.getD i [])=(ci,pi,[]):=by kernel_rfl) {A0 A1 A2 A3 A4 A5 A6 A7:(Nat->Gh)->Value} (hx:∀γ,iN rs γ ci=[.bk (B γ) t [A0 γ,A1 γ,A2 γ,A3 γ,A4 γ,A5 γ,A6 γ,A7 γ]]:=by intro _;rfl) (hy:∀γ,iN rs (xE γ i (mA 0)) pi=[.bk (B γ) t [U0 γ,U1 γ,U2 γ,U3 γ,U4 γ,U5 γ,U6 γ,U7 γ]]:=by intro _;rfl)
 (h:∀γ w K,w.frozen? ⟨B γ,0,none⟩=false->w.frozen? ⟨B γ,1,none⟩=false->w.frozen? ⟨B γ,2,none⟩=false->w.frozen? ⟨B γ,3,none⟩=false->w.frozen? ⟨B γ,4,none⟩=false->w.frozen? ⟨B γ,5,none⟩=false->w.frozen? ⟨B γ,6,none⟩=false->w.frozen? ⟨B γ,7,none⟩=false->
  w.cell? ⟨B γ,0,none⟩=some (A0 γ)->w.cell? ⟨B γ,1,none⟩=some (A1 γ)->w.cell? ⟨B γ,2,none⟩=some (A2 γ)->w.cell? ⟨B γ,3,none⟩=some (A3 γ)->w.cell? ⟨B γ,4,none⟩=some (A4 γ)->w.cell? ⟨B γ,5,none⟩=some (A5 γ)->w.cell? ⟨B γ,6,none⟩=some (A6 γ)->w.cell? ⟨B γ,7,none⟩=some (A7 γ)->B γ<w.heap.size->
  K ((Act.mk (Tf γ) D0).put o.dst (v.ev (xE γ i (mA 0)))) ((((((((w.setCell ⟨B γ,0,none⟩ (U0 γ)).setCell ⟨B γ,1,none⟩ (U1 γ)).setCell ⟨B γ,2,none⟩ (U2 γ)).setCell ⟨B γ,3,none⟩ (U3 γ)).setCell ⟨B γ,4,none⟩ (U4 γ)).setCell ⟨B γ,5,none⟩ (U5 γ)).setCell ⟨B γ,6,none⟩ (U6 γ)).setCell ⟨B γ,7,none⟩ (U7 γ))->
  if Region.wanted o (yielded ops (Act.mk (Tf γ) D0).tmps)=true then Oper.wp P o ⟨Tf γ,D0⟩ w K (λ_ _ _=>False) else K ((Act.mk (Tf γ) D0).put o.dst undef) w:=by intro γ w K f0 f1 f2 f3 f4 f5 f6 f7 a b c d e f g h z hK;go_simp;exact hK):sG P w0 X ops vs rs us D0 Tf i:=
 Q6 ci pi [] ho hv hc λγ w R K M hK=>by rw[bP,hx]at M;have q:=M.bl 0 rfl;exact h γ w K (q.frozen 0) (q.frozen 1) (q.frozen 2) (q.frozen 3) (q.frozen 4) (q.frozen 5) (q.frozen 6) (q.frozen 7) (q.cell 0) (q.cell 1) (q.cell 2) (q.cell 3) (q.cell 4) (q.cell 5) (q.cell 6) (q.cell 7) q.lt (hK (mA 0) _ (by rw[bP,hy];exact(((((((M.put 0 _).put 1 _).put 2 _).put 3 _).put 4 _).put 5 _).put 6 _).put 7 _))
theorem eB (ho:ops[i]?=some o:=by rfl) (hv:vs[i]?=some v:=by rfl) (hc:(iJ rs i,lr rs i,us.getD i [])=([],[],[]):=by kernel_rfl)
 (h:∀γ (w:World),(if Region.wanted o (yielded ops (Act.mk (Tf γ) D0).tmps) then (execOp (Act.mk (Tf γ) D0).eval o).run P w else Result.ok (.value undef) w)=Result.ok (.value (v.ev γ)) w:=by intro γ w;kernel_rfl):sG P w0 X ops vs rs us D0 Tf i:=aeH [] ho hv hc h rfl
end
section
variable {P:Program} {Q:Exit->Act->World->Prop} {next:Act->World->Prop} {a:Act} {w:World} {id j:Nat}
theorem dV (h:next a w):Exit.then next Q .normal a w:=h
theorem es (h:Q (.exit j) a w):Exit.then next Q (.exit j) a w:=h
theorem fI (h:Q .ret a w):Exit.then next Q .ret a w:=h
theorem fA (h:Q .normal a w):Exit.inBlock id Q .normal a w:=h
theorem fT (h:Q .normal a w):Exit.inBlock id Q (.exit id) a w:=by show (if id=id then _ else _);rw[aN rfl];exact h
theorem xt (h:Q .ret a w):Exit.inBlock id Q .ret a w:=h
theorem ez {c:Code} {n:Nat} (h:c.wp P (Exit.then (Code.rounds P c Q n) Q) a w):Code.rounds P c Q (n+1) a w:=h
theorem aeD {p:Nat->Prop}:∀n,p n->∃m,p m/\∀k,p k->m<=k:=by
 intro n
 induction n using Nat.strongRecOn with
 |ind n ih=>
  intro h;by_cases hx:∃k,k<n/\p k
  ·obtain⟨k,h1,h2⟩:=hx;exact ih k h1 h2
  ·refine⟨n,h,λk hk=>?_⟩;rcases cP k n with h1|h1
   ·exact absurd ⟨k,h1,hk⟩ hx
   ·exact h1
variable {w0:World} {X:List Nat} {T0:Array Value} {D0:List Deferred}
theorem Oq {ι:Type} {c:Code} (S:ι->(Nat->Value)->Array Value) (Φ:ι->Prop) (L:ι->List As) (μ:ι->Nat) (i0:ι) (hS:S i0 (λk=>T0.getD k undef)=T0) (h0:Φ i0) (M:Mem P w0 X w (L i0))
 (hr:∀i z w K,Φ i->Mem P w0 X w (L i)->(∀i' T' w',S i' (λk=>T'.getD k undef)=T'->Φ i'->μ i'<μ i->Mem P w0 X w' (L i')->K (Act.mk T' D0) w')->c.wp P (Exit.then K Q) ⟨S i z,D0⟩ w):(Code.loop c).wp P Q ⟨T0,D0⟩ w:=by
 let p:Act->World->Nat->Prop:=λa w n=>∃i z,a=⟨S i z,D0⟩/\Φ i/\Mem P w0 X w (L i)/\μ i=n
 have hp:∀a w,(∃n,p a w n)->∃m,p a w m/\∀k,p a w k->m<=k:=λa w ⟨n,h⟩=>aeD n h
 obtain⟨f,hf⟩:∃f:Act->World->Nat,∀a w,(∃n,p a w n)->p a w (f a w)/\∀k,p a w k->f a w<=k:=
  ⟨λa w=>Classical.epsilon λm=>p a w m/\∀k,p a w k->m<=k,λa w h=>Classical.epsilon_spec (hp a w h)⟩
 refine wp_loop (λa w=>∃n,p a w n) f ⟨_,i0,_,by rw[hS],h0,M,rfl⟩ λa w hI=>?_
 obtain⟨⟨i,z,rfl,h1,h2,h3⟩,_⟩:=hf a w hI;refine hr i z w _ h1 h2 λi' T' w' k1 k2 k3 k4=>?_
 have hq:p ⟨T',D0⟩ w' (μ i'):=⟨i',_,by rw[k1],k2,k4,rfl⟩;refine⟨⟨_,hq⟩,?_⟩;have:=(hf _ _ ⟨_,hq⟩).2 _ hq;omega
theorem Y5 {ι:Type} {c:Code} {L0:List As} (_:Mem P w0 X w L0) (S:ι->(Nat->Value)->Array Value) (Φ:ι->Prop) (L:ι->List As)
 (h2:∀K:Act->World->Prop,(∀i T' w',S i (λk=>T'.getD k undef)=T'->Φ i->Mem P w0 X w' (L i)->K (Act.mk T' D0) w')->c.wp P (Exit.then K Q) ⟨T0,D0⟩ w)
 (h1:∀i z w,Φ i->Mem P w0 X w (L i)->Q .normal ⟨S i z,D0⟩ w):c.wp P Q ⟨T0,D0⟩ w:=by
 refine wp_mono (h2 (λa w=>∃i z,a=⟨S i z,D0⟩/\Φ i/\Mem P w0 X w (L i)) λi T' w' k1 k2 k3=>⟨i,_,by rw[k1],k2,k3⟩) ?_;intro e a' w' hq;cases e with
 |normal=>
  obtain⟨i,z,rfl,k2,k3⟩:=hq;exact h1 i z w' k2 k3
 |exit id=>exact hq
 |goto l=>exact hq
 |ret=>exact hq
 |panic ch=>exact hq
 |outgrown=>exact hq
end
def En.map {α β:Type} (g:α->β):En α->En β
 | .c x=> .c (g x)
 | .e i f=> .e i λa=>g (f a)
 | .e2 i j f=> .e2 i j λa b=>g (f a b)
 | .e3 i j k f=> .e3 i j k λa b c=>g (f a b c)
 | .e5 i j k l m f=> .e5 i j k l m λa b c d e=>g (f a b c d e)
 | .e6 i j k l m n f=> .e6 i j k l m n λa b c d e h=>g (f a b c d e h)
def En.map2 {α β δ:Type} (z:En δ) (g:α->β->δ):En α->En β->En δ
 | .c x,y=>y.map (g x)
 |x,.c y=>x.map λx=>g x y
 | .e i f,.e j h=> .e2 i j λa b=>g (f a) (h b)
 | .e i f,.e2 j k h=> .e3 i j k λa b c=>g (f a) (h b c)
 | .e2 i j f,.e k h=> .e3 i j k λa b c=>g (f a b) (h c)
 | .e2 i j f,.e2 k l h=> .e5 i j k l l λa b c d _=>g (f a b) (h c d)
 | .e i f,.e3 j k l h=> .e5 i j k l l λa b c d _=>g (f a) (h b c d)
 | .e3 i j k f,.e l h=> .e5 i j k l l λa b c d _=>g (f a b c) (h d)
 | .e3 i j k f,.e2 l m h=> .e5 i j k l m λa b c d e=>g (f a b c) (h d e)
 | .e2 i j f,.e3 k l m h=> .e5 i j k l m λa b c d e=>g (f a b) (h c d e)
 | .e5 i j k l m f,.e n h=> .e6 i j k l m n λa b c d e x=>g (f a b c d e) (h x)
 |_,_=>z
theorem En.ev_map {β:Type} {g:α->β} {γ:Nat->Gh} (x:En α):(x.map g).ev γ=g (x.ev γ):=by cases x<;>rfl
def comp:Value->Nat->Value
 | .tuple a,k=>a.getD k undef
 | .agg a,k=>a.getD k undef
 |_,_=>undef
def As.cs:As->List Value
 | .bk _ _ cs=>cs
 | .ow _ _ cs=>cs
 |_=>[]
def As.wcs (l:List Value):As->As
 | .bk g t _=> .bk g t l
 |x=>x
def As.wc (k:Nat) (x:As) (v:Value):As:=x.wcs (x.cs.set k v)
def vS (i n:Nat):En Value:= .e i λχ=> .slice χ.a n χ.c
def vA (i n:Nat):En Value:= .e i λχ=> .slice (some ⟨χ.b,0,none⟩) n χ.c
def vV (i:Nat) (k:Int) (a b c d e:Nat) (co en:Int):En Value:= .e i λχ=> .agg #[k,.slice (χ.A 1) a (χ.C 1),.slice (χ.A 2) b (χ.C 2),.slice (χ.A 3) c (χ.C 3),.slice (χ.A 4) d (χ.C 4),.slice (χ.A 5) e (χ.C 5),co,en]
def vT (i:Nat) (k:Int) (a b c d e:Nat) (co en:Int) (y:Value):En Value:= .e i λχ=> .tuple #[.agg #[k,.slice (χ.A 1) a (χ.C 1),.slice (χ.A 2) b (χ.C 2),.slice (χ.A 3) c (χ.C 3),.slice (χ.A 4) d (χ.C 4),.slice (χ.A 5) e (χ.C 5),co,en],y]
def oS (i:Nat) (d:D) (t:TypeId) (n:Nat):En As:= .e i λχ=> .ow d t [.slice χ.a n χ.c]
def oA (i:Nat) (d:D) (t:TypeId) (n:Nat):En As:= .e i λχ=> .ow d t [.slice (some ⟨χ.b,0,none⟩) n χ.c]
def oV (i k:Nat) (d:D) (t:TypeId) (n:Nat):En As:= .e i λχ=> .ow d t [.slice (χ.A k) n (χ.C k)]
def oW (i:Nat) (d:D) (t:TypeId) (k:Int) (a b c e f:Nat) (co en:Int):En As:= .e i λχ=> .ow d t [k,.slice (χ.A 1) a (χ.C 1),.slice (χ.A 2) b (χ.C 2),.slice (χ.A 3) c (χ.C 3),.slice (χ.A 4) e (χ.C 4),.slice (χ.A 5) f (χ.C 5),co,en]
def oB (i:Nat) (t:TypeId) (cs:List Value):En As:= .e i λχ=> .bk χ.b t cs
def z8:List Value:=[.int .i64 0,.slice none 0 0,.slice none 0 0,.slice none 0 0,.slice none 0 0,.slice none 0 0,.int .i64 0,.int .i64 0]
inductive Sv where
 |v (x:En Value)
 |p (d:Nat)
 |x (d k:Nat)
 |la (r:Nat)
 |l (r k:Nat)
 |na (r:Nat)
 |n (r k:Nat)
 |i (n:Int)
 |b (x:Bool)
 |q (j o:Nat)
 |o (b o:Nat)
 |u
def Sv.en (L:List As) (N:List Re) (sH:List (En Value)):Sv->En Value
 | .v y=>y
 | .p d=>sH.getD d (.c undef)
 | .x d k=>(sH.getD d (.c undef)).map λy=>comp y k
 | .la r=> .c (.agg (L.getD r (.fa True)).cs.toArray)
 | .l r k=> .c ((L.getD r (.fa True)).cs.getD k undef)
 | .na r=>(N.getD r ⟨none,none,.c (.fa True)⟩).f.map λy=> .agg y.cs.toArray
 | .n r k=>(N.getD r ⟨none,none,.c (.fa True)⟩).f.map λy=>y.cs.getD k undef
 | .i y=> .c (.int .i64 y)
 | .b y=> .c (.bool y)
 | .q j z=> .e j λχ=> .pointer (some ⟨χ.b,z,none⟩)
 | .o g z=> .c (.pointer (some ⟨g,z,none⟩))
 | .u=> .c undef
def Sv.ev (L:List As) (N:List Re) (γ:Nat->Gh) (sH:List Value):Sv->Value
 | .v y=>y.ev γ
 | .p d=>sH.getD d undef
 | .x d k=>comp (sH.getD d undef) k
 | .la r=> .agg (L.getD r (.fa True)).cs.toArray
 | .l r k=>(L.getD r (.fa True)).cs.getD k undef
 | .na r=> .agg ((N.getD r ⟨none,none,.c (.fa True)⟩).f.ev γ).cs.toArray
 | .n r k=>((N.getD r ⟨none,none,.c (.fa True)⟩).f.ev γ).cs.getD k undef
 | .i y=> .int .i64 y
 | .b y=> .bool y
 | .q j z=> .pointer (some ⟨(γ j).b,z,none⟩)
 | .o g z=> .pointer (some ⟨g,z,none⟩)
 | .u=>undef
def x_ (L:List As) (N:List Re):List (En Value)->List Sv->List (En Value)
 |_,[]=>[]
 |sH,s::t=>s.en L N sH::x_ L N (s.en L N sH::sH) t
def Dy (L:List As) (N:List Re) (γ:Nat->Gh):Array Value->List (Option Nat)->List Value->List Sv->Array Value
 |T,d::ds,sH,s::t=>Dy L N γ (x8 T d (s.ev L N γ sH)) ds (s.ev L N γ sH::sH) t
 |T,_,_,_=>T
theorem Dz {α β:Type} (f:α->β):∀(l:List α) (d:Nat) (z:α),(l.map f).getD d (f z)=f (l.getD d z)
 |[],_,_=>rfl
 |_::_,0,_=>rfl
 |_::t,d+1,z=>Dz f t d z
theorem Sv.en_ev {L:List As} {N:List Re} {γ:Nat->Gh} {sH:List (En Value)} (s:Sv):(s.en L N sH).ev γ=s.ev L N γ (sH.map (·.ev γ)):=by
 cases s with
 |p d=>exact(Dz (·.ev γ) sH d (.c undef)).symm
 |x d k=>exact(En.ev_map _).trans (cU (comp · k) (Dz (·.ev γ) sH d (.c undef)).symm)
 |na r=>exact En.ev_map _
 |n r k=>exact En.ev_map _
 |_=>rfl
theorem K0 {L:List As} {N:List Re} {γ:Nat->Gh}:∀(ss:List Sv) (ds:List (Option Nat)) (T:Array Value) (sH:List (En Value)),Dy L N γ T ds (sH.map (·.ev γ)) ss=vR T ds ((x_ L N sH ss).map (·.ev γ))
 |[],ds,T,sH=>by cases ds<;>rfl
 |s::t,[],T,sH=>rfl
 |s::t,d::ds,T,sH=>by
  show Dy L N γ (x8 T d (s.ev L N γ (sH.map (·.ev γ)))) ds (s.ev L N γ (sH.map (·.ev γ))::sH.map (·.ev γ)) t=vR (x8 T d ((s.en L N sH).ev γ)) ds ((x_ L N (s.en L N sH::sH) t).map (·.ev γ))
  rw[<-K0 t ds _ (s.en L N sH::sH),br,Sv.en_ev]
inductive Rw where
 |e (pr:Nat) (co:Option Nat) (f:En As)
 |s (pr:Nat) (co:Option Nat) (r:Nat) (cs:List (Nat × En Value))
 |a (pr:Nat) (co:Option Nat) (r:Nat) (j:Nat)
 |x (pr:Nat) (co:Option Nat) (r:Nat) (j k:Nat)
 |b (pr:Nat) (co:Option Nat) (t:TypeId) (j:Nat)
 |d (pr:Nat) (co:Option Nat) (t:TypeId) (j k:Nat)
def BI:Value->List Value
 | .agg a=>a.toList
 |v=>[v]
def Z1:Option Sv->En Value
 |some (.v x)=>x
 |_=> .c undef
def Rw.re (ss:List Sv) (sH:List Re):Rw->Re
 | .e pr co f=>⟨some pr,co,f⟩
 | .s pr co r cs=>⟨some pr,co,cs.foldl (λf kv=>En.map2 f (As.wc kv.1) f kv.2) (sH.getD r ⟨none,none,.c (.fa True)⟩).f⟩
 | .a pr co r j=>⟨some pr,co,En.map2 (.c (.fa True)) (λx v=>x.wcs (BI v)) (sH.getD r ⟨none,none,.c (.fa True)⟩).f (Z1 ss[j]?)⟩
 | .x pr co r j k=>⟨some pr,co,En.map2 (.c (.fa True)) (λx v=>x.wcs (BI (comp v k))) (sH.getD r ⟨none,none,.c (.fa True)⟩).f (Z1 ss[j]?)⟩
 | .b pr co t j=>⟨some pr,co,En.map2 (.c (.fa True)) (λg v=> .bk g t (BI v)) (.e pr λχ=>χ.b) (Z1 ss[j]?)⟩
 | .d pr co t j k=>⟨some pr,co,En.map2 (.c (.fa True)) (λg v=> .bk g t (BI (comp v k))) (.e pr λχ=>χ.b) (Z1 ss[j]?)⟩
def pp (ss:List Sv):List Re->List Rw->List Re
 |_,[]=>[]
 |sH,r::t=>r.re ss sH::pp ss (sH++[r.re ss sH]) t
def qp:List As->List (Option Nat)->List Re
 |x::L,c::t=>⟨none,c,.c x⟩::qp L t
 |_,_=>[]
def keep:List As->List (Option Nat)->List As
 |x::L,none::t=>x::keep L t
 |_::L,some _::t=>keep L t
 |_,_=>[]
def Ud (γ:Nat->Gh):List Re->List As
 |[]=>[]
 |e::t=>match e.co with
  |none=>e.f.ev γ::Ud γ t
  |some _=>Ud γ t
def aft (L:List As) (cs:List (Option Nat)) (ss:List Sv) (nw:List Rw) (γ:Nat->Gh):List As:=keep L cs++(Ud γ (pp ss (qp L cs) nw)++L.drop cs.length)
section
variable {P:Program} {w0:World} {X:List Nat} {ops:Array Oper} {D0:List Deferred} {Tf Rf:(Nat->Gh)->Array Value} {T0:Array Value} {Q:Exit->Act->World->Prop} {id:Nat} {w:World} {L:List As} {rest:Code}
theorem On {p:Nat->Prop} {n:Nat} (h:∀i,i<n->p i) (k:p n):∀i,i<n+1->p i:=Vt h k
theorem Oz {p:Nat->Prop}:∀i,i<0->p i:=Yx
theorem CJ (M:Mem P w0 X w L) (cs:List (Option Nat)) (ss:List Sv) (nw:List Rw) (us:List (List Nat)) (old:List Nat)
 (wS:∀i,i<ops.size->sG P w0 X ops (x_ L (pp ss (qp L cs) nw) [] ss) (qp L cs++pp ss (qp L cs) nw) us D0 Rf i)
 (tT:∀γ w',Mem P w0 X w' (aft L cs ss nw γ)->Q .normal ⟨Tf γ,D0⟩ w')
 (hm:P.follows .mixedOrders=true:=by kernel_rfl) (AQ:chk ops old (x_ L (pp ss (qp L cs) nw) [] ss) (qp L cs++pp ss (qp L cs) nw) us=true:=by kernel_rfl) (gK:(x_ L (pp ss (qp L cs) nw) [] ss).length=ops.size:=by kernel_rfl)
 (hL0:∀γ,iN (qp L cs++pp ss (qp L cs) nw) γ (oZ (qp L cs++pp ss (qp L cs) nw) λ_=>false)=L.take cs.length:=by intro γ;kernel_rfl)
 (hLf:∀γ,iN (qp L cs++pp ss (qp L cs) nw) γ (oZ (qp L cs++pp ss (qp L cs) nw) λi=>decide (i<ops.size))=keep L cs++Ud γ (pp ss (qp L cs) nw):=by intro γ;kernel_rfl)
 (hT:∀γ,Dy L (pp ss (qp L cs) nw) γ T0 (ops.toList.map (·.dst)) [] ss=Tf γ:=by intro γ;(simp only[vS,vA,vV,vT,oS,oA,oV,oW,oB,z8,br,bL,Dy,Sv.ev,En.ev,En.map,En.map2,As.cs,As.wcs,As.wc,BI,comp,Z1,Rw.re,pp,qp,x8,bC,dK,cK,cJ,bP,List.getD_cons_zero,List.getD_cons_succ,ah,ag,bh,a_,be,cH,bE,bV,lH,bH,bY]);with_reducible rfl)
 (hR:∀γ,mb (Tf γ) T0 old=Rf γ:=by intro γ;(simp only[mb,cH,bE,ah,ag,bV,bh,a_,be]);with_reducible rfl):(Code.region id ops true).wp P Q ⟨T0,D0⟩ w:=
 EK (R0:=L.drop cs.length) hm AQ gK (λγ=>by rw[<-hT γ];exact(K0 ss _ T0 []).symm) hR (λγ=>by rw[hL0,cA];exact M.dw) wS (λγ w' h=>tT γ w' (by unfold aft;rw[<-aS,<-hLf];exact h))
theorem mL (M:Mem P w0 X w L) (cs:List (Option Nat)) (ss:List Sv) (nw:List Rw) (us:List (List Nat)) (old:List Nat)
 (wS:∀i,i<ops.size->sG P w0 X ops (x_ L (pp ss (qp L cs) nw) [] ss) (qp L cs++pp ss (qp L cs) nw) us D0 Rf i)
 (tT:∀γ w',Mem P w0 X w' (aft L cs ss nw γ)->rest.wp P Q ⟨Tf γ,D0⟩ w')
 (hm:P.follows .mixedOrders=true:=by kernel_rfl) (AQ:chk ops old (x_ L (pp ss (qp L cs) nw) [] ss) (qp L cs++pp ss (qp L cs) nw) us=true:=by kernel_rfl) (gK:(x_ L (pp ss (qp L cs) nw) [] ss).length=ops.size:=by kernel_rfl)
 (hL0:∀γ,iN (qp L cs++pp ss (qp L cs) nw) γ (oZ (qp L cs++pp ss (qp L cs) nw) λ_=>false)=L.take cs.length:=by intro γ;kernel_rfl)
 (hLf:∀γ,iN (qp L cs++pp ss (qp L cs) nw) γ (oZ (qp L cs++pp ss (qp L cs) nw) λi=>decide (i<ops.size))=keep L cs++Ud γ (pp ss (qp L cs) nw):=by intro γ;kernel_rfl)
 (hT:∀γ,Dy L (pp ss (qp L cs) nw) γ T0 (ops.toList.map (·.dst)) [] ss=Tf γ:=by intro γ;(simp only[vS,vA,vV,vT,oS,oA,oV,oW,oB,z8,br,bL,Dy,Sv.ev,En.ev,En.map,En.map2,As.cs,As.wcs,As.wc,BI,comp,Z1,Rw.re,pp,qp,x8,bC,dK,cK,cJ,bP,List.getD_cons_zero,List.getD_cons_succ,ah,ag,bh,a_,be,cH,bE,bV,lH,bH,bY]);with_reducible rfl)
 (hR:∀γ,mb (Tf γ) T0 old=Rf γ:=by intro γ;(simp only[mb,cH,bE,ah,ag,bV,bh,a_,be]);with_reducible rfl):(Code.seq (Code.region id ops true) rest).wp P Q ⟨T0,D0⟩ w:=
 ae (CJ M cs ss nw us old wS tT hm AQ gK hL0 hLf hT hR)
theorem aik (M:Mem P w0 X w L) (cs:List (Option Nat)) (ss:List Sv) (us:List (List Nat)) (old:List Nat)
 (wS:∀i,i<ops.size->sG P w0 X ops (x_ L ([]) [] ss) (qp L cs) us D0 Rf i)
 (tT:∀γ w',Mem P w0 X w' L->Q .normal ⟨Tf γ,D0⟩ w')
 (hm:P.follows .mixedOrders=true:=by kernel_rfl) (AQ:chk ops old (x_ L ([]) [] ss) (qp L cs) us=true:=by kernel_rfl) (gK:(x_ L ([]) [] ss).length=ops.size:=by kernel_rfl)
 (hL0:∀γ,iN (qp L cs) γ (oZ (qp L cs) λ_=>false)=L.take cs.length:=by intro γ;kernel_rfl)
 (hLf:∀γ,iN (qp L cs) γ (oZ (qp L cs) λi=>decide (i<ops.size))=L.take cs.length:=by intro γ;kernel_rfl)
 (hT:∀γ,Dy L ([]) γ T0 (ops.toList.map (·.dst)) [] ss=Tf γ:=by intro γ;(simp only[vS,vA,vV,vT,oS,oA,oV,oW,oB,z8,br,bL,Dy,Sv.ev,En.ev,En.map,En.map2,As.cs,As.wcs,As.wc,BI,comp,Z1,Rw.re,pp,qp,x8,bC,dK,cK,cJ,bP,List.getD_cons_zero,List.getD_cons_succ,ah,ag,bh,a_,be,cH,bE,bV,lH,bH,bY]);with_reducible rfl)
 (hR:∀γ,mb (Tf γ) T0 old=Rf γ:=by intro γ;(simp only[mb,cH,bE,ah,ag,bV,bh,a_,be]);with_reducible rfl):(Code.region id ops true).wp P Q ⟨T0,D0⟩ w:=
 EK (R0:=L.drop cs.length) hm AQ gK (λγ=>by rw[<-hT γ];exact(K0 ss _ T0 []).symm) hR (λγ=>by rw[hL0,cA];exact M.dw) wS (λγ w' h=>tT γ w' (by rw[hLf,cA]at h;exact h))
theorem pe (M:Mem P w0 X w L) (cs:List (Option Nat)) (ss:List Sv) (us:List (List Nat)) (old:List Nat)
 (wS:∀i,i<ops.size->sG P w0 X ops (x_ L ([]) [] ss) (qp L cs) us D0 Rf i)
 (tT:∀γ w',Mem P w0 X w' L->rest.wp P Q ⟨Tf γ,D0⟩ w')
 (hm:P.follows .mixedOrders=true:=by kernel_rfl) (AQ:chk ops old (x_ L ([]) [] ss) (qp L cs) us=true:=by kernel_rfl) (gK:(x_ L ([]) [] ss).length=ops.size:=by kernel_rfl)
 (hL0:∀γ,iN (qp L cs) γ (oZ (qp L cs) λ_=>false)=L.take cs.length:=by intro γ;kernel_rfl)
 (hLf:∀γ,iN (qp L cs) γ (oZ (qp L cs) λi=>decide (i<ops.size))=L.take cs.length:=by intro γ;kernel_rfl)
 (hT:∀γ,Dy L ([]) γ T0 (ops.toList.map (·.dst)) [] ss=Tf γ:=by intro γ;(simp only[vS,vA,vV,vT,oS,oA,oV,oW,oB,z8,br,bL,Dy,Sv.ev,En.ev,En.map,En.map2,As.cs,As.wcs,As.wc,BI,comp,Z1,Rw.re,pp,qp,x8,bC,dK,cK,cJ,bP,List.getD_cons_zero,List.getD_cons_succ,ah,ag,bh,a_,be,cH,bE,bV,lH,bH,bY]);with_reducible rfl)
 (hR:∀γ,mb (Tf γ) T0 old=Rf γ:=by intro γ;(simp only[mb,cH,bE,ah,ag,bV,bh,a_,be]);with_reducible rfl):(Code.seq (Code.region id ops true) rest).wp P Q ⟨T0,D0⟩ w:=
 ae (aik M cs ss us old wS tT hm AQ gK hL0 hLf hT hR)
end
section
variable {P:Program} {w0:World} {X:List Nat} {ops:Array Oper} {vs:List (En Value)} {rs:List Re} {us:List (List Nat)} {D0:List Deferred} {Tf:(Nat->Gh)->Array Value} {i:Nat} {o:Oper} {v:En Value}
theorem tn (ci pi ui:List Nat) (ho:ops[i]?=some o:=by rfl) (hv:vs[i]?=some v:=by rfl) (hc:(iJ rs i,lr rs i,us.getD i [])=(ci,pi,ui):=by kernel_rfl)
 (h:∀γ w R K,Mem P w0 X w (iN rs γ (ci++ui)++R)->(∀x w',Mem P w0 X w' (iN rs (xE γ i x) (pi++ui)++R)->K ((Act.mk (Tf γ) D0).put o.dst (v.ev (xE γ i x))) w')->if Region.wanted o (yielded ops (Act.mk (Tf γ) D0).tmps)=true then Oper.wp P o ⟨Tf γ,D0⟩ w K (λ_ _ _=>False) else K ((Act.mk (Tf γ) D0).put o.dst undef) w):sG P w0 X ops vs rs us D0 Tf i:=Q6 ci pi ui ho hv hc h
theorem mW (DT:List Nat) (ho:ops[i]?=some o:=by rfl) (hv:vs[i]?=some v:=by rfl) (hc:(iJ rs i,lr rs i,us.getD i [])=([],[],DT):=by kernel_rfl)
 (h:∀γ w K,Mem P w0 X w (iN rs γ DT)->K ((Act.mk (Tf γ) D0).put o.dst (v.ev γ)) w->if Region.wanted o (yielded ops (Act.mk (Tf γ) D0).tmps)=true then Oper.wp P o ⟨Tf γ,D0⟩ w K (λ_ _ _=>False) else K ((Act.mk (Tf γ) D0).put o.dst undef) w):sG P w0 X ops vs rs us D0 Tf i:=JV DT ho hv hc h
end
section
variable {P:Program} {w0 w:World} {X:List Nat} {R:List As} {f:Nat} {args:Array Value} {Ψ:Ending->World->Prop} {v:Value}
theorem f_ (h:Calls P f args w λe w'=>e= .returned v/\Below w.heap.size w w') (M:Mem P w0 X w R) (hK:∀(x:Gh) w',Mem P w0 X w' R->Ψ (.returned v) w'):Calls P f args w Ψ:=
 h.mono λe w' q=>by obtain⟨rfl,hb⟩:=q;exact hK (mA 0) w' (M.next hb)
theorem QF (h:Calls P f args w λe w'=>e= .returned v/\w=w') (M:Mem P w0 X w R) (hK:∀(x:Gh) w',Mem P w0 X w' R->Ψ (.returned v) w'):Calls P f args w Ψ:=
 h.mono λe w' q=>by obtain⟨rfl,rfl⟩:=q;exact hK (mA 0) _ M
end
def ju (w:World) (g:Nat):Nat->List Value->Prop
 |_,[]=>True
 |k,v::t=>w.cell? ⟨g,k,none⟩=some v/\ju w g (k+1) t
theorem Mx {w:World} {g:Nat} {t:TypeId} {cs:List Value} (h:Blk w g t cs):∀(l:List Value) (k:Nat),(∀i,l[i]?=cs[k+i]?)->ju w g k l
 |[],_,_=>bO
 |v::l,k,hl=>⟨by rw[h.cell,<-cF k,<-hl 0];rfl,Mx h l (k+1) λi=>by have:=hl (i+1);rw[ag]at this;rw[this];congr 1;omega⟩
theorem Blk.cells {w:World} {g:Nat} {t:TypeId} {cs:List Value} (h:Blk w g t cs):ju w g 0 cs:=Mx h cs 0 λi=>by rw[bI]
def Rj (L:List As) (k:Nat):List As:=match L[k]? with
 |some x=>x::L.eraseIdx k
 |none=>L.eraseIdx k
def Rk:List Nat->List As->List As
 |[],L=>L
 |k::t,L=>Rk t (Rj L k)
theorem PW (L:List As) (k:Nat):L.Perm (Rj L k):=by
 unfold Rj;cases h:L[k]? with
 |none=>simp only;rw[List.eraseIdx_of_length_le (List.getElem?_eq_none_iff.1 h)]
 |some x=>exact wX h
theorem EB:∀(ks:List Nat) (L:List As),L.Perm (Rk ks L)
 |[],L=> .refl _
 |k::t,L=>(PW L k).trans (EB t _)
theorem NK {y x:As}:∀{L:List As} {r:Nat},L[r]?=some x->(y::L.eraseIdx r).Perm (L.set r y)
 |[],_,h=>by simp at h
 |a::t,0,h=> .refl _
 |a::t,r+1,h=>by simp at h;exact(List.Perm.swap a y _).trans ((NK h).cons a)
inductive Puts (g:Nat) (w:World) (cs:List Value):World->List Value->Prop
 |nil:Puts g w cs w cs
 |cons {w1:World} {cs1:List Value} {k:Nat} {u:Value}:Puts g w cs w1 cs1->Puts g w cs (w1.setCell ⟨g,k,none⟩ u) (cs1.set k u)
section
variable {P:Program} {ops:Array Oper} {Q:Exit->Act->World->Prop} {o:Oper} {rest:List Oper} {D0:List Deferred} {T T':Array Value} {w w' w0:World} {X:List Nat} {L L':List As} {g:Nat} {t e:TypeId} {cs cs':List Value}
theorem Mem.up (h:Mem P w0 X w L) (ks:List Nat) (hL:Rk ks L=L':=by(simp only[Rk,Rj,ag,ah,List.eraseIdx_cons_succ,List.eraseIdx_cons_zero])<;>with_reducible rfl):Mem P w0 X w L':=by subst hL;exact h.perm (EB ks L)
theorem Mem.puts {R:List As} (hp:Puts g w cs w' cs') (M:Mem P w0 X w (.bk g t cs::R)):Mem P w0 X w' (.bk g t cs'::R):=by
 induction hp with
 |nil=>exact M
 |cons _ ih=>exact ih.put _ _
theorem Mem.putAt (M:Mem P w0 X w L) {r:Nat} (hr:L[r]?=some (.bk g t cs)) (hp:Puts g w cs w' cs'):Mem P w0 X w' (L.set r (.bk g t cs')):=
 ((Mem.puts hp (M.perm (wX hr))).perm (NK hr))
def wpN (P:Program) (ops:Array Oper) (K:Act->World->Prop) (Z:Exit->Act->World->Prop):List Oper->Act->World->Prop
 |[],a,w=>K a w
 |o::t,a,w=>if Region.wanted o (yielded ops a.tmps)=true then Oper.wp P o a w (wpN P ops K Z t) Z else wpN P ops K Z t (a.put o.dst undef) w
theorem FK:∀(n:Nat) (os:List Oper) (a:Act) (w:World),wpN P ops (wpList P ops Q (os.drop n)) Q (os.take n) a w->wpList P ops Q os a w
 |0,os,a,w,h=>by simpa [wpN]using h
 |n+1,[],a,w,h=>by simpa [wpN]using h
 |n+1,o::t,a,w,h=>by
  rw[cG,dN,wpN]at h;rw[wpList];split
  ·next hw=>
   rw[aN hw]at h;exact .inl (Oper.wp_mono (λa w h=>FK n t a w h) h)
  ·next hw=>
   rw[aH hw]at h;exact FK n t _ _ h
theorem FL {K K':Act->World->Prop} {Z:Exit->Act->World->Prop} (hk:∀a w,K a w->K' a w):∀(l:List Oper) (a:Act) (w:World),wpN P ops K Z l a w->wpN P ops K' Z l a w
 |[],a,w,h=>hk a w h
 |o::t,a,w,h=>by
  unfold wpN at h ⊢;split
  ·next hw=>rw[aN hw]at h;exact Oper.wp_mono (λa w h=>FL hk t a w h) h
  ·next hw=>rw[aH hw]at h;exact FL hk t _ _ h
structure BN (P:Program) (ops:Array Oper) (K:Act->World->Prop) (Z:Exit->Act->World->Prop) (l:List Oper) (a:Act) (w:World):Prop where
 out:wpN P ops K Z l a w
structure WL (P:Program) (ops:Array Oper) (Q:Exit->Act->World->Prop) (l:List Oper) (a:Act) (w:World):Prop where
 out:wpList P ops Q l a w
theorem Qu {K:Act->World->Prop} {Z:Exit->Act->World->Prop} {o:Oper} {t:List Oper} {a:Act} {w:World} (h:if Region.wanted o (yielded ops a.tmps)=true then Oper.wp P o a w (BN P ops K Z t) Z else BN P ops K Z t (a.put o.dst undef) w):BN P ops K Z (o::t) a w:=by
 constructor;unfold wpN;split
 ·next hw=>rw[aN hw]at h;exact Oper.wp_mono (λa w h=>h.out) h
 ·next hw=>rw[aH hw]at h;exact h.out
theorem Kt {K:Act->World->Prop} {Z:Exit->Act->World->Prop} {a:Act} {w:World} (h:K a w):BN P ops K Z [] a w:=⟨h⟩
theorem oL {o:Oper} {a:Act} {w:World} (h:∀K:Act->World->Prop,(∀a w,WL P ops Q rest a w->K a w)->if Region.wanted o (yielded ops a.tmps)=true then Oper.wp P o a w K Q else K (a.put o.dst undef) w):WL P ops Q (o::rest) a w:=⟨wpList_step λK hK=>h K λa w hl=>hK a w hl.out⟩
theorem Cu (n:Nat) (os:List Oper) (a:Act) (w:World) (h:BN P ops (WL P ops Q (os.drop n)) Q (os.take n) a w):WL P ops Q os a w:=⟨FK n os a w (FL (λa w h=>h.out) _ _ _ h.out)⟩
def xm (w:World) (L:List As):List Nat->Prop
 |[]=>True
 |r::t=>(match L[r]? with
  |some (.bk g _ cs)=>ju w g 0 cs
  |_=>True)/\xm w L t
theorem Mem.facts (M:Mem P w0 X w L):∀rs:List Nat,xm w L rs
 |[]=>bO
 |r::t=>⟨by
  split
  ·next h=>exact(M.bl r h).cells
  ·trivial,Mem.facts M t⟩
theorem Sb (M:Mem P w0 X w L) (rs:List Nat) (n:Nat) {os:List Oper} (h:WL P ops Q rest ⟨T',D0⟩ w) (h0:∀(K:Act->World->Prop) (Z:Exit->Act->World->Prop),xm w L rs->K ⟨T',D0⟩ w->BN P ops K Z (os.take n) ⟨T,D0⟩ w:=by intro K Z hc hK;(simp only[xm,ju,ag,ah,Nat.reduceAdd,and_assoc]at hc);(try simp only[cG,cL]);(repeat (refine Qu ?_;go_simp;(try(rw[FM];rotate_left;omega))));exact Kt hK) (hd:os.drop n=rest:=by(simp only[dN,List.drop_zero])<;>with_reducible rfl):WL P ops Q os ⟨T,D0⟩ w:=Cu n os _ _ (h0 _ _ (M.facts rs) (by rw[hd];exact h))
theorem Ra (M:Mem P w0 X w L) (rs:List Nat) {l:List Oper} {c:Code} {id:Nat} (h:c.wp P Q ⟨T',D0⟩ w) (h0:∀(K:Act->World->Prop) (Z:Exit->Act->World->Prop),xm w L rs->K ⟨T',D0⟩ w->BN P l.toArray K Z l ⟨T,D0⟩ w:=by intro K Z hc hK;(simp only[xm,ju,ag,ah,Nat.reduceAdd,and_assoc]at hc);(try simp only[cG,cL]);(repeat (refine Qu ?_;go_simp;(try(rw[FM];rotate_left;omega))));exact Kt hK):(Code.seq (.region id l.toArray false) c).wp P Q ⟨T,D0⟩ w:=
 ae (wp_region_lit (Cu (Q:=Exit.then (c.wp P Q) Q) l.length l _ _ (by rw[cC,List.drop_length];exact h0 _ _ (M.facts rs) ⟨wpList_nil (Q:=Exit.then (c.wp P Q) Q) h⟩)).out)
theorem Rb (M:Mem P w0 X w L) (rs:List Nat) {l:List Oper} {id:Nat} (h:Q .normal ⟨T',D0⟩ w) (h0:∀(K:Act->World->Prop) (Z:Exit->Act->World->Prop),xm w L rs->K ⟨T',D0⟩ w->BN P l.toArray K Z l ⟨T,D0⟩ w:=by intro K Z hc hK;(simp only[xm,ju,ag,ah,Nat.reduceAdd,and_assoc]at hc);(try simp only[cG,cL]);(repeat (refine Qu ?_;go_simp;(try(rw[FM];rotate_left;omega))));exact Kt hK):(Code.region id l.toArray false).wp P Q ⟨T,D0⟩ w:=
 wp_region_lit (Cu l.length l _ _ (by rw[cC,List.drop_length];exact h0 _ _ (M.facts rs) ⟨wpList_nil h⟩)).out
theorem So (v:Value) (h0:∀(K:Act->World->Prop) (Z:Exit->Act->World->Prop),K ((Act.mk T D0).put o.dst v) w->if Region.wanted o (yielded ops T)=true then Oper.wp P o ⟨T,D0⟩ w K Z else K ((Act.mk T D0).put o.dst undef) w) (h:WL P ops Q rest ⟨T',D0⟩ w) (hT:(Act.mk T D0).put o.dst v=⟨T',D0⟩:=by(simp only[Act.put,bh,a_,be])<;>with_reducible rfl):WL P ops Q (o::rest) ⟨T,D0⟩ w:=oL λK hK=>h0 K Q (hK _ _ (by rw[hT];exact h))
theorem Sf {p:Prop} (hp:p) (h:WL P ops Q rest ⟨T',D0⟩ w) (h0:∀(K:Act->World->Prop) (Z:Exit->Act->World->Prop),p->K ⟨T',D0⟩ w->if Region.wanted o (yielded ops T)=true then Oper.wp P o ⟨T,D0⟩ w K Z else K ((Act.mk T D0).put o.dst undef) w:=by intro K Z hc hK;go_simp;exact hK):WL P ops Q (o::rest) ⟨T,D0⟩ w:=oL λK hK=>h0 K Q hp (hK _ _ h)
theorem Ss (M:Mem P w0 X w L) (r:Nat) (h:∀w',Mem P w0 X w' L'->WL P ops Q rest ⟨T',D0⟩ w') (hr:L[r]?=some (.bk g t cs):=by rfl) (h0:∀(K:Act->World->Prop) (Z:Exit->Act->World->Prop),ju w g 0 cs->(∀i,w.frozen? ⟨g,i,none⟩=false)->g<w.heap.size->K ⟨T',D0⟩ w'->if Region.wanted o (yielded ops T)=true then Oper.wp P o ⟨T,D0⟩ w K Z else K ((Act.mk T D0).put o.dst undef) w:=by intro K Z hc hf hg hK;simp only[ju,Nat.reduceAdd]at hc;go_simp;exact hK) (hp:Puts g w cs w' cs':=by repeat (first|with_reducible exact Puts.nil|with_reducible apply Puts.cons)) (hL:L.set r (.bk g t cs')=L':=by(simp only[a_,be])<;>with_reducible rfl):WL P ops Q (o::rest) ⟨T,D0⟩ w:=
 oL λK hK=>h0 K Q (M.bl r hr).cells (M.bl r hr).frozen (M.bl r hr).lt (hK _ _ (h _ (by rw[<-hL];exact M.putAt hr hp)))
theorem Sa (M:Mem P w0 X w L) {T1:Nat->Array Value} (h:∀(x:Gh) w',Mem P w0 X w' (.bk x.b t cs::L)->WL P ops Q rest ⟨T1 x.b,D0⟩ w') (h0:∀b,w.heap.size=b->∀(K:Act->World->Prop) (Z:Exit->Act->World->Prop),K ⟨T1 b,D0⟩ (w.alloc (.cells cs.toArray t))->if Region.wanted o (yielded ops T)=true then Oper.wp P o ⟨T,D0⟩ w K Z else K ((Act.mk T D0).put o.dst undef) w:=by intro b hb K Z hK;go_simp;exact hK):WL P ops Q (o::rest) ⟨T,D0⟩ w:=
 oL λK hK=>h0 _ rfl K Q (hK _ _ (h (mA _) _ M.all))
theorem Se (M:Mem P w0 X w L) (ht:P.underlying t=some (.slice e)) {T1:Nat->Array Value} (h:∀(x:Gh) w',Mem P w0 X w' (.ow (.sl []) t [.slice (some ⟨x.b,0,none⟩) 0 0]::L)->WL P ops Q rest ⟨T1 x.b,D0⟩ w') (h0:∀b,w.heap.size=b->∀(K:Act->World->Prop) (Z:Exit->Act->World->Prop),K ⟨T1 b,D0⟩ (w.alloc (.cells #[] e))->if Region.wanted o (yielded ops T)=true then Oper.wp P o ⟨T,D0⟩ w K Z else K ((Act.mk T D0).put o.dst undef) w:=by intro b hb K Z hK;go_simp;exact hK):WL P ops Q (o::rest) ⟨T,D0⟩ w:=
 oL λK hK=>h0 _ rfl K Q (hK _ _ (h (mA _) _ (M.emp ht)))
theorem Sc {f:Nat} {args:Array Value} (h:Calls P f args w λe w'=>∃v,e= .returned v/\WL P ops Q rest ((Act.mk T D0).put o.dst v) w') (h0:∀(K:Act->World->Prop) (Z:Exit->Act->World->Prop),(Calls P f args w λe w'=>∃v,e= .returned v/\K ((Act.mk T D0).put o.dst v) w')->if Region.wanted o (yielded ops T)=true then Oper.wp P o ⟨T,D0⟩ w K Z else K ((Act.mk T D0).put o.dst undef) w:=by intro K Z hK;go_simp;refine aF hK ?_;rintro e w' ⟨v,rfl,h⟩;exact h):WL P ops Q (o::rest) ⟨T,D0⟩ w:=
 oL λK hK=>h0 K Q (h.mono λe w' q=>by obtain⟨v,h1,h2⟩:=q;exact⟨v,h1,hK _ _ h2⟩)
theorem Sp {d:Option Tmp} {v:Value} (h:WL P ops Q rest ⟨T',D0⟩ w) (hT:(Act.mk T D0).put d v=⟨T',D0⟩:=by(simp only[Act.put,bh,a_,be])<;>with_reducible rfl):∃v',Ending.returned v= .returned v'/\WL P ops Q rest ((Act.mk T D0).put d v') w:=⟨v,rfl,by rw[hT];exact h⟩
theorem Sw {d:Option Tmp} {v:Value} (h:WL P ops Q rest ⟨T',D0⟩ w) (hT:(Act.mk T D0).put d v=⟨T',D0⟩:=by(simp only[Act.put,bh,a_,be])<;>with_reducible rfl):WL P ops Q rest ((Act.mk T D0).put d v) w:=by rw[hT];exact h
theorem Sx (M:Mem P w0 X w L) (n:Nat) (V:Gh->Value) (N:Gh->List As) {T1:Gh->Array Value} {L2:Gh->List As} (h0:∀(K:Act->World->Prop) (Z:Exit->Act->World->Prop),(∀x w',Mem P w0 X w' (N x++L.drop n)->K ((Act.mk T D0).put o.dst (V x)) w')->if Region.wanted o (yielded ops T)=true then Oper.wp P o ⟨T,D0⟩ w K Z else K ((Act.mk T D0).put o.dst undef) w) (h:∀x w',Mem P w0 X w' (L2 x)->WL P ops Q rest ⟨T1 x,D0⟩ w') (hT:∀x,(Act.mk T D0).put o.dst (V x)=⟨T1 x,D0⟩:=by intro x;(simp only[Act.put,bh,a_,be])<;>with_reducible rfl) (hL:∀x,N x++L.drop n=L2 x:=by intro x;(simp only[dN,List.drop_zero,cK,cJ])<;>with_reducible rfl):WL P ops Q (o::rest) ⟨T,D0⟩ w:=
 oL λK hK=>h0 K Q λx w' M'=>hK _ _ (by rw[hT];exact h x w' (by rw[<-hL];exact M'))
variable {size bytes n c b m:Nat} {te:TypeId} {xs:List D} {A:Option Addr} {d:D} {sl x:Operand}
theorem nQ (M:Mem P w0 X w (.ow (.sl xs) t [.slice A n c]:: .ow d e cs:: .bk b te cs::L)) (hT:ElemTy P t e size bytes) (h:∀(x:Gh) w',Mem P w0 X w' (.ow (.sl (xs++[d])) t [.slice (some ⟨x.b,0,none⟩) (n+1) x.c]:: .bk b te cs::L)->WL P ops Q rest ((Act.mk T D0).put o.dst (.slice (some ⟨x.b,0,none⟩) (n+1) x.c)) w') (kD:P.cellsOf e=size:=by kernel_rfl) (zK:o.guard=none:=by rfl) (ho:o.op= .call {callee:= .builtin .append,args:=#[sl,x],argTypes:=#[t,t]}:=by rfl) (hs:(Act.mk T D0).eval sl= .slice A n c:=by rfl) (hx:(Act.mk T D0).eval x= .slice (some ⟨b,0,none⟩) 1 m:=by rfl) (hl:cs.length=size:=by rfl) (hn:n+1<=maxLen:=by(try simp only[bf]);unfold maxLen;omega) (h63:(n+1)*bytes<=140737488355328:=by(try simp only[bf]);omega):WL P ops Q (o::rest) ⟨T,D0⟩ w:=
 oL λK hK=>mG M hT kD zK sl x ho hs hx hl hn h63 λg c' w' M'=>hK _ _ (h (R3 g c') w' M')
theorem AF {α:Type} {f:α->D} {enc:α->List Value} {A2:Option Addr} {c2 B:Nat} {l2:List α} (M:Mem P w0 X w (.ow (.sl []) t [.slice (some ⟨g,0,none⟩) 0 0]::L)) (hT:ElemTy P t e size bytes) (hr:Reads enc size w B A2 m l2) (hfl:∀x∈l2,∀w',own P w' (f x) e [] (enc x)) (mB:∀x,(enc x).length=size) (hone:∀x,∀u∈enc x,u.oneCell'=true) (h:∀(x:Gh) w',Mem P w0 X w' (.ow (.sl (l2.map f)) t [.slice x.a m x.c]::L)->WL P ops Q rest ((Act.mk T D0).put o.dst (.slice x.a m x.c)) w') (kD:P.cellsOf e=size:=by kernel_rfl) (zK:o.guard=none:=by rfl) (ho:o.op= .call {callee:= .builtin .append,args:=#[sl,x],argTypes:=#[t,t]}:=by rfl) (hs:(Act.mk T D0).eval sl= .slice (some ⟨g,0,none⟩) 0 0:=by rfl) (hx:(Act.mk T D0).eval x= .slice A2 m c2:=by rfl) (h63:m*bytes<=140737488355328:=by(try simp only[bf]);omega) (hn:m<=maxLen:=by(try simp only[bf]);unfold maxLen;omega):WL P ops Q (o::rest) ⟨T,D0⟩ w:=
 oL λK hK=>pO enc M hT kD mB hone zK sl x ho hs A2 m c2 B l2 hx hr hfl h63 hn λA' c' w' M'=>hK _ _ (h (Ov A' c') w' M')
end
section
variable {P:Program} {Q:Exit->Act->World->Prop} {a:Act} {w:World} {l:List Oper} {c:Code} {id:Nat} {ops:Array Oper} {next:Act->World->Prop}
theorem Sq (h:WL P l.toArray (Exit.then (c.wp P Q) Q) l a w):(Code.seq (.region id l.toArray false) c).wp P Q a w:=ae (wp_region_lit h.out)
theorem Sg (h:WL P l.toArray Q l a w):(Code.region id l.toArray false).wp P Q a w:=wp_region_lit h.out
theorem ct {c:Operand} {x y:Code} (h:x.wp P Q a w) (hc:a.eval c= .bool true:=by rfl):(Code.cond c x y).wp P Q a w:=wp_cond_true hc h
theorem cf {c:Operand} {x y:Code} (h:y.wp P Q a w) (hc:a.eval c= .bool false:=by rfl):(Code.cond c x y).wp P Q a w:=wp_cond_false hc h
theorem Hx {c:Operand} {x:Code} (h:next a w) (hc:a.eval c= .bool true:=by rfl):(Code.cond c .skip x).wp P (Exit.then next Q) a w:=wp_cond_true hc (bd h)
theorem gk {c:Operand} {x:Code} (h:next a w) (hc:a.eval c= .bool false:=by rfl):(Code.cond c x .skip).wp P (Exit.then next Q) a w:=wp_cond_false hc (bd h)
theorem lW {c:Operand} {x y:Code} {t:Bool} (ht:t=true->x.wp P Q a w) (hf:t=false->y.wp P Q a w) (hc:a.eval c= .bool t:=by rfl):(Code.cond c x y).wp P Q a w:=wp_cond_split hc ht hf
theorem Sz (h:next a w):WL P ops (Exit.then next Q) [] a w:=⟨wpList_nil h⟩
theorem Sy (h:Q .normal a w):WL P ops Q [] a w:=⟨wpList_nil h⟩
end
def ov (T:Array Value) (zs:List Nat) (z:Nat->Value) (ps:List (Nat × Value)):Array Value:=ps.foldl (λT p=>T.setIfInBounds p.1 p.2) (zs.foldl (λT k=>T.setIfInBounds k (z k)) T)
section
variable {P:Program} {Q:Exit->Act->World->Prop} {w w0:World} {X:List Nat} {T0 T T':Array Value} {D0:List Deferred} {c:Code} {z:Nat->Value} {zs:List Nat} {ps:List (Nat × Value)}
theorem uM (h:c.wp P Q ⟨T',D0⟩ w) (hT:ov T zs z ps=T':=by(simp only[ov,bC,dK,bh,a_,be])<;>with_reducible rfl):c.wp P Q ⟨ov T zs z ps,D0⟩ w:=by rw[hT];exact h
theorem ovx {e:Exit} (h:Q e ⟨T',D0⟩ w) (hT:ov T zs z ps=T':=by(simp only[ov,bC,dK,bh,a_,be])<;>with_reducible rfl):Q e ⟨ov T zs z ps,D0⟩ w:=by rw[hT];exact h
theorem fy {ι:Type} (zs:List Nat) (ps:ι->List (Nat × Value)) (Φ:ι->Prop) (L:ι->List As) (μ:ι->Nat) (i0:ι) (h0:Φ i0) (M:Mem P w0 X w (L i0))
 (hr:∀i z w K,Φ i->Mem P w0 X w (L i)->(∀i' T' w',ov T0 zs (λk=>T'.getD k undef) (ps i')=T'->Φ i'->μ i'<μ i->Mem P w0 X w' (L i')->K (Act.mk T' D0) w')->c.wp P (Exit.then K Q) ⟨ov T0 zs z (ps i),D0⟩ w)
 (hS:ov T0 zs (λk=>T0.getD k undef) (ps i0)=T0:=by kernel_rfl):(Code.loop c).wp P Q ⟨T0,D0⟩ w:=
 Oq (λi z=>ov T0 zs z (ps i)) Φ L μ i0 hS h0 M hr
theorem rE {ι:Type} {L0:List As} (M:Mem P w0 X w L0) (zs:List Nat) (ps:ι->List (Nat × Value)) (Φ:ι->Prop) (L:ι->List As)
 (h2:∀K:Act->World->Prop,(∀i T' w',ov T0 zs (λk=>T'.getD k undef) (ps i)=T'->Φ i->Mem P w0 X w' (L i)->K (Act.mk T' D0) w')->c.wp P (Exit.then K Q) ⟨T0,D0⟩ w)
 (h1:∀i z w,Φ i->Mem P w0 X w (L i)->Q .normal ⟨ov T0 zs z (ps i),D0⟩ w):c.wp P Q ⟨T0,D0⟩ w:=
 Y5 M (λi z=>ov T0 zs z (ps i)) Φ L h2 h1
def Ke (rs:Array ResultVar) (T:Array Value):Sem Value:=do
 let vs <-rs.mapM fun
  | .tmp t=>pure (T.getD t undef)
  | .cell a t=>do loadVar t (<-asAddr (T.getD a undef))
 pure (if h:vs.size=1 then vs[0] else .tuple vs)
def Rn (r:Result Value) (K:Value->World->Prop):Prop:=match r with
 | .ok v w=>K v w
 |_=>False
theorem Eu {r:Result Value} {v:Value} (h:∀K:Value->World->Prop,K v w->Rn r K):r= .ok v w:=by
 have:=h (λv' w'=>v'=v/\w'=w) ⟨rfl,rfl⟩;cases r with
 |ok v' w'=>obtain⟨rfl,rfl⟩:=this;rfl
 |halt x w'=>exact this.elim
variable {fn:Func} {rs:Array ResultVar} {R:Ending->World->Prop} {v:Value} {L:List As} {g g':Nat} {t t':TypeId} {cs cs':List Value}
theorem vQ (hf:fn.results=rs) (h:R (.returned v) w) (hv:∀K:Value->World->Prop,K v w->Rn ((Ke rs T).run P w) K:=by intro K hK;simp only[Ke];go_simp;exact hK):bodyPost P fn R .ret ⟨T,[]⟩ w:=bM (Eu (r:=(results fn T).run P w) (by subst hf;exact hv)) rfl h
theorem rn0 (hf:fn.results=rs) (h:R (.returned v) w) (hv:∀K:Value->World->Prop,K v w->Rn ((Ke rs T).run P w) K:=by intro K hK;simp only[Ke];go_simp;exact hK):bodyPost P fn R .normal ⟨T,[]⟩ w:=bodyPost_end (Eu (r:=(results fn T).run P w) (by subst hf;exact hv)) rfl h
theorem kN (hf:fn.results=rs) (M:Mem P w0 X w L) (r:Nat) (h:R (.returned v) w) (hr:L[r]?=some (.bk g t cs):=by rfl) (hv:∀K:Value->World->Prop,ju w g 0 cs->g<w.heap.size->K v w->Rn ((Ke rs T).run P w) K:=by intro K hc hg hK;simp only[ju,Nat.reduceAdd]at hc;simp only[Ke];go_simp;exact hK):bodyPost P fn R .ret ⟨T,[]⟩ w:=bM (Eu (r:=(results fn T).run P w) λK hK=>by subst hf;exact hv K (M.bl r hr).cells (M.bl r hr).lt hK) rfl h
end
end Go.Proofs.YtekcpadlmfaihaaGreat
