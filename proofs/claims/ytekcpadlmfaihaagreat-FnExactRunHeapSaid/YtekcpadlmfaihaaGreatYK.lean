/- One assertion for all memory of a call's own: a list of boxes and data in blocks apart from each other. -/
import Derived.Test.YtekcpadlmfaihaaGreatYG
import Derived.Test.YtekcpadlmfaihaaGreatYA
import Derived.Laws.IdiomStrings
import Derived.BigRegion
import Derived.Deep.DeepCutAuto
import Derived.Deep.RegionLaw
namespace Go.Proofs.YtekcpadlmfaihaaGreat
open Go.RowKit Proofs.Tryz
set_option maxHeartbeats 8000000
set_option maxRecDepth 100000
set_option linter.unusedSimpArgs false
set_option linter.unusedVariables false
variable {F:List Nat} {L pq:List UInt8} {cs:List Value} {i j k m x:Nat} {t:TypeId} {w:World}
theorem wX {α:Type} {x:α}:∀{L:List α} {k:Nat},L[k]?=some x->L.Perm (x::L.eraseIdx k)
 |[],_,h=>by simp at h
 |a::t,0,h=>by simp at h;subst h;exact .refl _
 |a::t,k+1,h=>by simp at h;exact((wX h).cons a).trans (.swap _ _ _)
inductive As where
 |bk (g:Nat) (t:TypeId) (cs:List Value)
 |ow (d:D) (t:TypeId) (cs:List Value)
 |fa (p:Prop)
 |oa (xs:List D) (e:TypeId) (css:List (List Value))
 |bx (g:Nat) (d:D) (t:TypeId)
def As.sat (P:Program) (w:World):As->List Nat->Prop
 | .bk g t cs,F=>F=[g]/\Blk w g t cs
 | .ow d t cs,F=>own P w d t F cs
 | .fa p,F=>F=[]/\p
 | .oa xs e css,F=>iv P w xs e F css
 | .bx g d t,F=>∃cs F',F=g::F'/\Blk w g t cs/\own P w d t F' cs
def Sats (P:Program) (w:World):List As->List Nat->Prop
 |[],F=>F=[]
 |x::t,F=>∃F1 F2,F=F1++F2/\x.sat P w F1/\Sats P w t F2
structure Mem (P:Program) (w0:World) (X:List Nat) (w:World) (L:List As):Prop where
 mod:Mod X w0 w
 sats:∃F,Sats P w L F/\F.Nodup/\∀g∈F,g∈X\/w0.heap.size<=g
def lH {α:Type} (L:List α) (k:List Nat):List α:=k.filterMap λi=>L[i]?
section
variable {P:Program} {w0 w w':World} {X F:List Nat} {L M C C' R:List As} {x y:As} {g i:Nat} {t:TypeId} {cs:List Value} {d:D} {u:Value}
theorem JR {p:Addr} (hp:p.block∈F) (u:Value):Mod F w (w.setCell p u):=
 ⟨⟨rfl,rfl,rfl⟩,by simp [World.setCell],λg _ hn=>Below.heap_setCell w p u g (by rintro rfl;exact hn hp)⟩
theorem ab7 (h:x.sat P w F):∀g∈F,g<w.heap.size:=by
 cases x with
 |bk g t cs=>obtain⟨rfl,h⟩:=h;intro y hy;simp at hy;subst hy;exact h.lt
 |ow d t cs=>exact jT d t F cs h
 |fa p=>obtain⟨rfl,h⟩:=h;simp
 |oa xs e css=>exact qF xs e F css h
 |bx g d t=>
  obtain⟨cs,F',rfl,hB,ho⟩:=h;intro y hy;rcases aX.1 hy with rfl|hy
  ·exact hB.lt
  ·exact jT d t F' cs ho y hy
theorem VZ (h:x.sat P w F) (hk:∀g∈F,w'.heap[g]?=w.heap[g]?):x.sat P w' F:=by
 cases x with
 |bk g t cs=>obtain⟨rfl,h⟩:=h;exact⟨rfl,(hk g dR).trans h⟩
 |ow d t cs=>exact nJ d t F cs hk h
 |fa p=>exact h
 |oa xs e css=>exact mI xs e F css hk h
 |bx g d t=>
  obtain⟨cs,F',rfl,hB,ho⟩:=h;exact⟨cs,F',rfl,(hk g dR).trans hB,nJ d t F' cs (λy hy=>hk y eK) ho⟩
theorem wY:∀{L:List As} {F:List Nat},Sats P w L F->∀g∈F,g<w.heap.size
 |[],F,h=>by rw[Sats]at h;subst h;simp
 |x::t,F,h=>by
  rw[Sats]at h;obtain⟨F1,F2,rfl,h1,h2⟩:=h;intro g hg;rcases aG.1 hg with hg|hg
  ·exact ab7 h1 g hg
  ·exact wY h2 g hg
theorem th:∀{L:List As} {F:List Nat},Sats P w L F->(∀g∈F,w'.heap[g]?=w.heap[g]?)->Sats P w' L F
 |[],F,h,_=>by rw[Sats]at h ⊢;exact h
 |x::t,F,h,hk=>by rw[Sats]at h ⊢;obtain⟨F1,F2,rfl,h1,h2⟩:=h;exact⟨F1,F2,rfl,VZ h1 (λg hg=>hk g fe),th h2 (λg hg=>hk g fe)⟩
theorem nL:∀{L M:List As} {F:List Nat},Sats P w (L++M) F↔∃F1 F2,F=F1++F2/\Sats P w L F1/\Sats P w M F2
 |[],M,F=>by
  constructor
  ·intro h;exact⟨[],F,rfl,by rw[Sats],h⟩
  ·rintro⟨F1,F2,rfl,h1,h2⟩;rw[Sats]at h1;subst h1;exact h2
 |x::t,M,F=>by
  rw[cK,Sats];constructor
  ·rintro⟨F1,F2,rfl,h1,h2⟩;obtain⟨G1,G2,rfl,h3,h4⟩:=nL.1 h2;exact⟨F1++G1,G2,by simp,by rw[Sats];exact⟨F1,G1,rfl,h1,h3⟩,h4⟩
  ·rintro⟨F1,F2,rfl,h1,h2⟩;rw[Sats]at h1;obtain⟨G1,G2,rfl,h3,h4⟩:=h1;exact⟨G1,G2++F2,by simp,h3,nL.2 ⟨G2,F2,rfl,h4,h2⟩⟩
theorem SZ (hp:L.Perm M):∀{F:List Nat},Sats P w L F->∃F',F.Perm F'/\Sats P w M F':=by
 induction hp with
 |nil=>exact λh=>⟨_,.refl _,h⟩
 |cons x _ ih=>
  intro F h;rw[Sats]at h;obtain⟨F1,F2,rfl,h1,h2⟩:=h;obtain⟨G,p,h3⟩:=ih h2;exact⟨F1++G,p.append_left _,by rw[Sats];exact⟨F1,G,rfl,h1,h3⟩⟩
 |swap x y l=>
  intro F h;rw[Sats]at h;obtain⟨F1,F2,rfl,h1,h2⟩:=h;rw[Sats]at h2;obtain⟨F3,F4,rfl,h3,h4⟩:=h2;refine⟨F3++(F1++F4),?_,by rw[Sats];exact⟨F3,F1++F4,rfl,h3,by rw[Sats];exact⟨F1,F4,rfl,h1,h4⟩⟩⟩;rw[<-aS,<-aS];exact List.perm_append_comm.append_right _
 |trans _ _ ih1 ih2=>
  intro F h;obtain⟨G,p,h1⟩:=ih1 h;obtain⟨H,q,h2⟩:=ih2 h1;exact⟨H,p.trans q,h2⟩
theorem Mem.perm (h:Mem P w0 X w L) (hp:L.Perm M):Mem P w0 X w M:=by obtain⟨hm,F,h1,h2,h3⟩:=h;obtain⟨G,p,h4⟩:=SZ hp h1;exact⟨hm,G,h4,p.nodup h2,λg hg=>h3 g (p.mem_iff.2 hg)⟩
theorem Mem.pull (h:Mem P w0 X w L) (k:Nat) (hk:L[k]?=some x):Mem P w0 X w (x::L.eraseIdx k):=by exact h.perm (wX hk)
theorem Mem.right (h:Mem P w0 X w (L++M)):Mem P w0 X w M:=by obtain⟨hm,F,h1,h2,h3⟩:=h;obtain⟨F1,F2,rfl,h4,h5⟩:=nL.1 h1;exact⟨hm,F2,h5,(aE.1 h2).2.1,λg hg=>h3 g fe⟩
theorem Mem.left (h:Mem P w0 X w (L++M)):Mem P w0 X w L:=by obtain⟨hm,F,h1,h2,h3⟩:=h;obtain⟨F1,F2,rfl,h4,h5⟩:=nL.1 h1;exact⟨hm,F1,h4,(aE.1 h2).1,λg hg=>h3 g fe⟩
theorem Mem.sel (h:Mem P w0 X w L) (k:List Nat) (hk:k.Nodup):Mem P w0 X w (lH L k):=by
 have h1:L.Perm (lH L k++lH L ((List.range L.length).filter λi=> !k.contains i)):=by
  have h2:lH L (List.range L.length)=L:=by
   unfold lH;refine List.ext_getElem? λi=>?_;have:(List.range L.length).filterMap (λi=>L[i]?)=L:=by
    have h3:∀n,n<=L.length->(List.range n).filterMap (λi=>L[i]?)=L.take n:=by
     intro n
     induction n with
     |zero=>intro _;rfl
     |succ n ih=>
      intro hn;rw[List.range_succ,dJ,ih dP,List.take_succ_eq_append_getElem dP];simp [show n<L.length by omega]
    rw[h3 _ (af _),cC]
   rw[this]
  have h4:lH L k=lH L (k.filter λi=>decide (i<L.length)):=by
   unfold lH;rw[List.filterMap_filter];congr 1;funext i;by_cases hi:i<L.length
   ·simp [hi]
   ·simp [hi]
  rw[h4];have h5:(List.range L.length).Perm ((k.filter λi=>decide (i<L.length))++(List.range L.length).filter λi=> !k.contains i):=by
   refine(List.perm_ext_iff_of_nodup List.nodup_range (aE.2 ⟨hk.filter _,List.nodup_range.filter _,?_⟩)).2 λi=>?_
   ·intro a ha b hb e;subst e;simp only[cS,cW,cQ,bB]at ha hb;exact hb.2 ha.1
   ·simp only[aG,cS,c_,aL,cW,cQ,bB];constructor
    ·intro hi;by_cases hm:i∈k
     ·exact .inl ⟨hm,hi⟩
     ·exact .inr ⟨hi,hm⟩
    ·rintro(⟨_,h⟩|⟨h,_⟩)<;>exact h
  have h6:=h5.filterMap (λi=>L[i]?);rw[dJ]at h6;have h7:(List.range L.length).filterMap (λi=>L[i]?)=L:=h2;rw[h7]at h6;exact h6
 exact(h.perm h1).left
theorem Mem.drop (h:Mem P w0 X w (x::L)):Mem P w0 X w L:=h.right (L:=[x])
theorem Mem.start:Mem P w X w []:=⟨Mod.refl,[],by rw[Sats],List.nodup_nil,by simp⟩
theorem Mem.step (h:Mem P w0 X w (C++R)) (hs:∀F,Sats P w C F->F.Nodup->∃F',Sats P w' C' F'/\F'.Nodup/\(∀g∈F',g∈F\/w.heap.size<=g)/\Mod F w w'):Mem P w0 X w' (C'++R):=by
 obtain⟨hm,F,h1,h2,h3⟩:=h;obtain⟨F1,F2,rfl,h4,h5⟩:=nL.1 h1;obtain⟨n1,n2,n3⟩:=aE.1 h2;obtain⟨G,k1,k2,k3,k4⟩:=hs F1 h4 n1;have hz:=hm.size;have h6:=wY h5;refine⟨hm.trans k4 (λg hg=>h3 g fe),G++F2,nL.2 ⟨G,F2,rfl,k1,th h5 λg hg=>k4.2.2 g (h6 g hg) (λhf=>n3 g hf g hg rfl)⟩,aE.2 ⟨k2,n2,λa ha b hb e=>?_⟩,λg hg=>?_⟩
 ·subst e;rcases k3 a ha with h7|h7
  ·exact n3 a h7 a hb rfl
  ·have:=h6 a hb;omega
 ·exact F8
theorem Mem.next (h:Mem P w0 X w R) (hb:Below w.heap.size w w'):Mem P w0 X w' R:=
 Mem.step (C:=[]) (C':=[]) h λF hF _=>by rw[Sats]at hF;subst hF;exact⟨[],by rw[Sats],List.nodup_nil,by simp,Mod.of_below hb⟩
theorem Mem.dw (h:Mem P w0 X w R):Mem P w0 X w.drew R:=h.next (Below.refl _ _).drew
theorem Mem.al (h:Mem P w0 X w R) {cs:Array Value}:Mem P w0 X (w.alloc (.cells cs t)) (.bk w.heap.size t cs.toList::R):=
 Mem.step (C:=[]) (C':=[_]) h λF hF _=>by rw[Sats]at hF;subst hF;exact⟨[w.heap.size],by rw[Sats];exact⟨[w.heap.size],[],rfl,⟨rfl,Blk.new_ w t cs⟩,by rw[Sats]⟩,by simp,by simp,Mod.of_below ((Below.refl _ _).alloc (af _) _)⟩
theorem Mem.all (h:Mem P w0 X w R) {l:List Value}:Mem P w0 X (w.alloc (.cells l.toArray t)) (.bk w.heap.size t l::R):=by simpa using h.al (t:=t) (cs:=l.toArray)
theorem Mem.put (h:Mem P w0 X w (.bk g t cs::R)) (i:Nat) (u:Value):Mem P w0 X (w.setCell ⟨g,i,none⟩ u) (.bk g t (cs.set i u)::R):=
 Mem.step (C:=[_]) (C':=[_]) h λF hF hn=>by rw[Sats]at hF;obtain⟨F1,F2,rfl,⟨rfl,h1⟩,h2⟩:=hF;rw[Sats]at h2;subst h2;exact⟨[g],by rw[Sats];exact⟨[g],[],rfl,⟨rfl,h1.set_ i u⟩,by rw[Sats]⟩,by simp,by simp,JR (F:=[g]++[]) dR u⟩
theorem Mem.fact {p:Prop} (h:Mem P w0 X w R) (hp:p):Mem P w0 X w (.fa p::R):=
 Mem.step (C:=[]) (C':=[_]) h λF hF _=>by rw[Sats]at hF;subst hF;exact⟨[],by rw[Sats];exact⟨[],[],rfl,⟨rfl,hp⟩,by rw[Sats]⟩,by simp,by simp,Mod.refl⟩
theorem Mem.gain (h:Mem P w0 X w R) (ho:own P w' d t F cs) (hF:Fresh w.heap.size F) (hb:Below w.heap.size w w'):Mem P w0 X w' (.ow d t cs::R):=
 Mem.step (C:=[]) (C':=[_]) h λG hG _=>by rw[Sats]at hG;subst hG;exact⟨F,by rw[Sats];exact⟨F,[],by simp,ho,by rw[Sats]⟩,hF.1,λg hg=> .inr (hF.2 g hg),Mod.of_below hb⟩
theorem Mem.as (h:Mem P w0 X w (C++R)) (hs:∀F,Sats P w C F->F.Nodup->Sats P w C' F):Mem P w0 X w (C'++R):=
 h.step λF hF hn=>⟨F,hs F hF hn,hn,λg hg=> .inl hg,Mod.refl⟩
theorem Ab:∀{L:List As} {F:List Nat} {x:As},Sats P w L F->x∈L->∃F',x.sat P w F'/\∀g∈F',g∈F
 |[],_,_,_,h=>by simp at h
 |y::t,F,x,h,hx=>by
  rw[Sats]at h;obtain⟨F1,F2,rfl,h1,h2⟩:=h;rcases aX.1 hx with rfl|hx
  ·exact⟨F1,h1,λg hg=>by simp [hg]⟩
  ·obtain⟨F',h3,h4⟩:=Ab h2 hx;exact⟨F',h3,λg hg=>by simp [h4 g hg]⟩
theorem Mem.blk (h:Mem P w0 X w L) (hx: .bk g t cs∈L):Blk w g t cs:=by obtain⟨hm,F,h1,h2,h3⟩:=h;obtain⟨F',⟨rfl,h4⟩,_⟩:=Ab h1 hx;exact h4
theorem Mem.bl (h:Mem P w0 X w L) (k:Nat) (hk:L[k]?=some (.bk g t cs)):Blk w g t cs:=h.blk (aA hk)
theorem Mem.rp (h:Mem P w0 X w L) (k:Nat) (hk:L[k]?=some (.ow d t cs)):Go.Proofs.YtekcpadlmfaihaaGreat.rep w w.heap.size d cs:=by obtain⟨hm,F,h1,h2,h3⟩:=h;obtain⟨F',h4,_⟩:=Ab h1 (aA hk);exact eW _ _ _ _ h4
theorem Mem.ge (h:Mem P w0 [] w L) (hx: .bk g t cs∈L):w0.heap.size<=g:=by
 obtain⟨hm,F,h1,h2,h3⟩:=h;obtain⟨F',⟨rfl,h4⟩,h5⟩:=Ab h1 hx;rcases h3 g (h5 g dR) with h6|h6
 ·simp at h6
 ·exact h6
theorem Mem.own_ (h:Mem P w0 X w L) (hx: .ow d t cs∈L):∃F,own P w d t F cs:=by obtain⟨hm,F,h1,h2,h3⟩:=h;obtain⟨F',h4,_⟩:=Ab h1 hx;exact⟨F',h4⟩
theorem Mem.rep (h:Mem P w0 X w L) (hx: .ow d t cs∈L):rep w w.heap.size d cs:=by obtain⟨F,h⟩:=h.own_ hx;exact eW _ _ _ _ h
theorem Mem.bel (h:Mem P w0 [] w L):Below w0.heap.size w0 w:=h.mod.below dR (af _)
theorem Mem.old (h:Mem P w0 X w L) {B:Nat} (hX:∀g∈X,B<=g) (hB:B<=w0.heap.size) (hr:Go.Proofs.YtekcpadlmfaihaaGreat.rep w0 B d cs):Go.Proofs.YtekcpadlmfaihaaGreat.rep w w.heap.size d cs:=
 fb hr (h.mod.below hX hB) (du hB h.mod.size)
theorem Mem.arg (h:Mem P w0 [] w L) (hr:Go.Proofs.YtekcpadlmfaihaaGreat.rep w0 w0.heap.size d cs):Go.Proofs.YtekcpadlmfaihaaGreat.rep w w.heap.size d cs:=h.old dR (af _) hr
theorem Mem.two {g':Nat} {t':TypeId} {cs':List Value} (h:Mem P w0 X w (.bk g t cs:: .bk g' t' cs'::R)):g≠g':=by obtain⟨hm,F,h1,h2,h3⟩:=h;rw[Sats]at h1;obtain⟨F1,F2,rfl,⟨rfl,_⟩,h5⟩:=h1;rw[Sats]at h5;obtain⟨F3,F4,rfl,⟨rfl,_⟩,_⟩:=h5;intro e;simp [e]at h2
theorem Mem.fin (h:Mem P w0 [] w (.ow d t cs::R)):∃F,own P w d t F cs/\Fresh w0.heap.size F/\Below w0.heap.size w0 w:=by have hb:=h.bel;obtain⟨hm,F,h1,h2,h3⟩:=h;rw[Sats]at h1;obtain⟨F1,F2,rfl,h4,h5⟩:=h1;exact⟨F1,h4,⟨(aE.1 h2).1,λg hg=>by rcases h3 g fe with h6|h6;simp at h6;exact h6⟩,hb⟩
end
section
variable {w0 w w':World} {X:List Nat} {R:List As} {d:D} {t:TypeId} {e:Ending}
theorem Mem.newSt (h:Mem prog w0 X w R) (hn:gM d t w e w'):∃cs:List Value,e= .returned (.agg cs.toArray)/\Mem prog w0 X w' (.ow d t cs::R):=by obtain⟨cs,F,rfl,ho,hf,hb⟩:=hn;exact⟨cs,rfl,h.gain ho hf hb⟩
theorem Mem.newSl {xs:List D} (h:Mem prog w0 X w R) (hn:oK xs t w e w'):∃(A:Option Addr) (n c:Nat),e= .returned (.slice A n c)/\Mem prog w0 X w' (.ow (.sl xs) t [.slice A n c]::R):=by obtain⟨A,n,c,F,rfl,ho,hf,hb⟩:=hn;exact⟨A,n,c,rfl,h.gain ho hf hb⟩
theorem Mem.retSt {cs:List Value} (h:Mem prog w0 [] w (.ow d t cs::R)):gM d t w0 (.returned (.agg cs.toArray)) w:=by obtain⟨F,h1,h2,h3⟩:=h.fin;exact⟨cs,F,rfl,h1,h2,h3⟩
theorem Mem.retSl {xs:List D} {A:Option Addr} {n c:Nat} (h:Mem prog w0 [] w (.ow (.sl xs) t [.slice A n c]::R)):oK xs t w0 (.returned (.slice A n c)) w:=by obtain⟨F,h1,h2,h3⟩:=h.fin;exact⟨A,n,c,F,rfl,h1,h2,h3⟩
end
structure Gh where
 b:Nat
 a:Option Addr
 c:Nat
 f:Nat->Value
 A:Nat->Option Addr
 C:Nat->Nat
 d:D
def ghL (l:List Value):Gh:=⟨0,none,0,λk=>l.getD k undef,λ_=>none,λ_=>0,.b false⟩
def mA (b:Nat):Gh:=⟨b,none,0,λ_=>undef,λ_=>none,λ_=>0,.b false⟩
def Ov (a:Option Addr) (c:Nat):Gh:=⟨0,a,c,λ_=>undef,λ_=>none,λ_=>0,.b false⟩
def R3 (b c:Nat):Gh:=⟨b,none,c,λ_=>undef,λ_=>none,λ_=>0,.b false⟩
def Ow (l:List (Option Addr × Nat)):Gh:=⟨0,none,0,λ_=>undef,λk=>(l.getD k (none,0)).1,λk=>(l.getD k (none,0)).2,.b false⟩
inductive En (α:Type) where
 |c (x:α)
 |e (i:Nat) (f:Gh->α)
 |e2 (i j:Nat) (f:Gh->Gh->α)
 |e3 (i j k:Nat) (f:Gh->Gh->Gh->α)
 |e5 (i j k l m:Nat) (f:Gh->Gh->Gh->Gh->Gh->α)
 |e6 (i j k l m n:Nat) (f:Gh->Gh->Gh->Gh->Gh->Gh->α)
def En.ev {α:Type} (γ:Nat->Gh):En α->α
 | .c x=>x
 | .e i f=>f (γ i)
 | .e2 i j f=>f (γ i) (γ j)
 | .e3 i j k f=>f (γ i) (γ j) (γ k)
 | .e5 i j k l m f=>f (γ i) (γ j) (γ k) (γ l) (γ m)
 | .e6 i j k l m n f=>f (γ i) (γ j) (γ k) (γ l) (γ m) (γ n)
def En.deps {α:Type}:En α->List Nat
 | .c _=>[]
 | .e i _=>[i]
 | .e2 i j _=>[i,j]
 | .e3 i j k _=>[i,j,k]
 | .e5 i j k l m _=>[i,j,k,l,m]
 | .e6 i j k l m n _=>[i,j,k,l,m,n]
theorem MP {α β:Type} {f g:α->Option β}:∀{l:List α},(∀x∈l,f x=g x)->l.filterMap f=l.filterMap g
 |[],_=>rfl
 |a::t,h=>by rw[bH,bH,h a dR,MP λx hx=>h x iF]
def xE (γ:Nat->Gh) (i:Nat) (x:Gh):Nat->Gh:=λk=>if k=i then x else γ k
theorem Om (γ:Nat->Gh) (i:Nat):xE γ i (γ i)=γ:=by funext k;unfold xE;split<;>simp_all
theorem En.ev_upd {α:Type} {e:En α} {γ:Nat->Gh} {x:Gh} (h:i ∉ e.deps):e.ev (xE γ i x)=e.ev γ:=by
 have iU:∀k,k∈e.deps->xE γ i x k=γ k:=λk hk=>by unfold xE;rw[aH];rintro rfl;exact h hk
 cases e<;>simp only[En.ev,En.deps]at*<;>simp [iU]
structure Re where
 pr:Option Nat
 co:Option Nat
 f:En As
def aaE (s:List Nat) (l:List Nat):List Nat:=l.foldl (λs x=>if s.contains x then s else x::s) s
def Jf (ops:Array Oper):Bool:=(List.range ops.size).all λi=>((ops[i]?).map λo=>o.after.all λe=> !Region.binds .any e||decide (e.on<i)).getD true
theorem O4 {ops:Array Oper} (h:Jf ops=true) {o:Oper} (ho:ops[i]?=some o):∀e∈o.after,Region.binds .any e=true->e.on<i:=by unfold Jf at h;rw[aV]at h;have:=h i (c_.2 (cN.1 ho).1);rw[ho]at this;simp only[Option.map_some,bV,Array.all_eq_true_iff_forall_mem,aL,bX,cQ]at this;exact λe he hb=>(this e he).resolve_left (by simp [hb])
theorem EJ {ops:Array Oper} {l:Array Bool} (hb:Jf ops=true) (hz:l.size=ops.size) (hr:Region.ready .any ops l=[]):∀i,i<ops.size->l[i]?=some true:=by
 intro i
 induction i using Nat.strongRecOn with
 |ind i ih=>
  intro hi;have hl:i<l.size:=dP;cases hli:l[i] with
  |true=>simp [hl,hli]
  |false=>
   exfalso;have:i∈Region.ready .any ops l:=mem_ready.2 ⟨by simp [hl,hli],ops[i],by simp [hi],λe he xe=>by have h1:=O4 hb (show ops[i]?=some ops[i] by simp [hi]) e he xe;have h2:=ih e.on h1 dP;have h3:e.on<l.size:=dP;simp [h3]at h2 ⊢;exact h2⟩
   rw[hr]at this;simp at this
section
variable {P:Program} {ops:Array Oper} {Q:Exit->Act->World->Prop} {S:World->Prop}
theorem Op (I:Array Bool->Act->World->Prop) (hz:∀l a w,I l a w->l.size=ops.size) (hSI:∀l a w,I l a w->S w)
 (TC:∀i o l a w,ops[i]?=some o->l[i]?=some false->(∀e∈o.after,Region.binds .any e=true->l.getD e.on false=true)->I l a w->
  ∀K:Act->World->Prop,(∀a' w',I (l.setIfInBounds i true) a' w'->K a' w')->if Region.wanted o (yielded ops a.tmps)=true then Oper.wp P o a w K Q else K (a.put o.dst undef) w)
 (R7:Jf ops=true) (tT:∀l a w,I l a w->(∀i,i<ops.size->l[i]?=some true)->Q .normal a w):
 ∀mS l a w,unl l<=mS->I l a w->wpAnyH P .any ops Q S mS l a w:=by
 intro mS
 induction mS with
 |zero=>
  intro l a w hu hI;have hr:Region.ready .any ops l=[]:=GN;exact⟨hr,tT l a w hI (EJ R7 (hz l a w hI) hr)⟩
 |succ mS ih=>
  intro l a w hu hI;refine⟨λhr=>tT l a w hI (EJ R7 (hz l a w hI) hr),λi hi=>?_⟩;obtain⟨h1,o,h2,h4⟩:=mem_ready.1 hi;have hlt:i<l.size:=BP;have h3:l[i]?=some false:=by simp [hlt]at h1;simp [hlt,h1]
  refine dD h2 λK' hK=>?_;refine TC i o l a w h2 h3 (λe he hb=>h4 e he hb) hI K' λa' w' hI'=>hK a' w' ⟨hSI _ _ _ hI',ih _ a' w' ?_ hI'⟩;have h5:l.toList[i]?=some false:=by simpa using h3
  have:=LQ h5;unfold unl at hu ⊢;rw[Array.toList_setIfInBounds];omega
end
def Im (ops:List Oper):List (List Nat):=ops.foldl (λsH o=>sH++[o.after.toList.foldl (λs e=>if Region.binds .any e then aaE s (e.on::sH.getD e.on []) else s) []]) []
def abW (ops:Array Oper) (cl:List (List Nat)):Bool:=
 (List.range ops.size).all λi=>(cl.getD i []).all λj=>match ops[i]? with
  |none=>false
  |some o=>o.after.toList.any λe=>Region.binds .any e&&decide (e.on<i)&&(e.on==j||(cl.getD e.on []).contains j)
def ndp:List Nat->Bool
 |[]=>true
 |x::t=> !t.contains x&&ndp t
theorem NE:∀{l:List Nat},ndp l=true->l.Nodup
 |[],_=>List.nodup_nil
 |x::t,h=>by unfold ndp at h;simp only[ax,cQ,cW,bB]at h;exact aQ.2 ⟨h.1,NE h.2⟩
def dstOf (ops:Array Oper) (i:Nat):Option Nat:=(ops[i]?).bind (·.dst)
def iJ (rs:List Re) (i:Nat):List Nat:=(List.range rs.length).filter λr=>((rs[r]?).map λe=>e.co==some i).getD false
def lr (rs:List Re) (i:Nat):List Nat:=(List.range rs.length).filter λr=>((rs[r]?).map λe=>e.pr==some i).getD false
def YB (e:Re) (ai:List Nat):Bool:=match e.pr with|none=>true|some p=>ai.contains p
def Zg (ops:Array Oper) (old:List Nat) (cl:List (List Nat)) (vs:List (En Value)) (rs:List Re) (us:List (List Nat)) (i:Nat):Bool:=
 match ops[i]?,vs[i]? with
 |some o,some v=>
  let ai:=cl.getD i []
  let cs:=iJ rs i
  let u:=us.getD i []
  ((o.looksAt ops).all λt=>(List.range ops.size).all λj=>dstOf ops j != some t||(if old.contains t then (cl.getD j []).contains i else ai.contains j))&&
  (v.deps.all λk=>k==i||ai.contains k)&&ndp (cs++u)&&
  (u.all λr=>match rs[r]? with
   |none=>false
   |some e=>YB e ai&&(match e.co with|none=>true|some c=>c != i&&(cl.getD c []).contains i))&&
  (cs.all λr=>match rs[r]? with
   |none=>false
   |some e=>YB e ai)&&
  ((List.range ops.size).all λj=>j==i||dstOf ops i==none||dstOf ops j != dstOf ops i)
 |_,_=>false
def Zh (cl:List (List Nat)) (n:Nat) (e:Re):Bool:=
 (match e.pr with
 |none=>e.f.deps.isEmpty
 |some p=>decide (p<n)&&e.f.deps.all λk=>k==p||(cl.getD p []).contains k)&&
 (match e.co with
 |none=>true
 |some c=>decide (c<n))
def chk (ops:Array Oper) (old:List Nat) (vs:List (En Value)) (rs:List Re) (us:List (List Nat)):Bool:=
 abW ops (Im ops.toList)&&Jf ops&&Region.noSelect ops&&(List.range ops.size).all (Zg ops old (Im ops.toList) vs rs us)&&rs.all (Zh (Im ops.toList) ops.size)
def x8 (T:Array Value) (d:Option Nat) (v:Value):Array Value:=match d with
 |none=>T
 |some t=>T.setIfInBounds t v
def vR (T:Array Value):List (Option Nat)->List Value->Array Value
 |d::ds,v::vs=>vR (x8 T d v) ds vs
 |_,_=>T
def mb (A T0:Array Value):List Nat->Array Value
 |[]=>A
 |t::l=>(mb A T0 l).setIfInBounds t (T0.getD t undef)
theorem rY {A T0:Array Value}:∀{l:List Nat},(mb A T0 l).size=A.size
 |[]=>rfl
 |t::l=>by rw[mb,Array.size_setIfInBounds,rY]
theorem Kf {A T0:Array Value} (h:A.size=T0.size) (k:Nat):∀{l:List Nat},(mb A T0 l)[k]?=if k∈l then T0[k]? else A[k]?
 |[]=>by simp [mb]
 |t::l=>by
  rw[mb];by_cases hk:t=k
  ·subst hk;rcases cP t T0.size with hlt|tU
   ·have:t<(mb A T0 l).size:=by rw[rY];omega
    simp [this,hlt]
   ·rw[cI (by rw[Array.size_setIfInBounds,rY];omega),cI tU];simp
  ·rw[dC hk,Kf h k];simp [Ne.symm hk]
def JU (rs:List Re) (us:List (List Nat)) (γ:Nat->Gh) (i:Nat):List As:=(iJ rs i++us.getD i []).filterMap λr=>(rs[r]?).map (·.f.ev γ)
def DA (rs:List Re) (us:List (List Nat)) (γ:Nat->Gh) (i:Nat):List As:=(lr rs i++us.getD i []).filterMap λr=>(rs[r]?).map (·.f.ev γ)
def sG (P:Program) (w0:World) (X:List Nat) (ops:Array Oper) (vs:List (En Value)) (rs:List Re) (us:List (List Nat)) (D0:List Deferred) (Tf:(Nat->Gh)->Array Value) (i:Nat):Prop:=
 ∃(o:Oper) (v:En Value),ops[i]?=some o/\vs[i]?=some v/\∀(γ:Nat->Gh) (w:World) (R:List As) (K:Act->World->Prop),Mem P w0 X w (JU rs us γ i++R)->
  (∀x w',Mem P w0 X w' (DA rs us (xE γ i x) i++R)->K ((Act.mk (Tf γ) D0).put o.dst (v.ev (xE γ i x))) w')->
  if Region.wanted o (yielded ops (Act.mk (Tf γ) D0).tmps)=true then Oper.wp P o ⟨Tf γ,D0⟩ w K (λ_ _ _=>False) else K ((Act.mk (Tf γ) D0).put o.dst undef) w
section
variable {ops:Array Oper} {cl:List (List Nat)}
def Dn (ops:Array Oper) (l:Nat->Bool):Prop:=∀i o,ops[i]?=some o->l i=true->∀e∈o.after,Region.binds .any e=true->l e.on=true
theorem qI (h:abW ops cl=true) {l:Nat->Bool} (hd:Dn ops l):∀(i:Nat) (o:Oper),ops[i]?=some o->(∀e∈o.after,Region.binds .any e=true->l e.on=true)->∀j∈cl.getD i [],l j=true:=by
 intro i
 induction i using Nat.strongRecOn with
 |ind i ih=>
  intro o ho he j hj;have hi:i<ops.size:=(cN.1 ho).1;unfold abW at h;rw[aV]at h;have h1:=h i (c_.2 hi);rw[aV]at h1;have h2:=h1 j hj;rw[ho]at h2;simp only[List.any_eq_true,ax,bX,beq_iff_eq,aL,cW]at h2;obtain⟨e,hm,⟨hb,hlt⟩,h3⟩:=h2;have h4:=he e (by simpa using hm) hb;rcases h3 with rfl|h3
  ·exact h4
  ·have hi2:e.on<ops.size:=dP;exact ih e.on hlt _ (bR hi2) (hd e.on _ (bR hi2) h4) j h3
structure Fr (ops:Array Oper) (T0:Array Value) (l:Nat->Bool) (val:Nat->Value) (T:Array Value):Prop where
 sz:T.size=T0.size
 on:∀i t,l i=true->dstOf ops i=some t->t<T0.size->T[t]?=some (val i)
 off:∀t,(∀i,l i=true->dstOf ops i≠some t)->T[t]?=T0[t]?
def s9 (l:Nat->Bool) (i:Nat):Nat->Bool:=λk=>if k=i then true else l k
theorem Fr.put {T0 T:Array Value} {l:Nat->Bool} {val val':Nat->Value} {i:Nat} (h:Fr ops T0 l val T) (hl:l i=false) (hd:∀j t,j≠i->dstOf ops i=some t->dstOf ops j≠some t) (hv:∀j,l j=true->val' j=val j):
 Fr ops T0 (s9 l i) val' (x8 T (dstOf ops i) (val' i)):=by
 have kD:(x8 T (dstOf ops i) (val' i)).size=T0.size:=by unfold x8;split<;>simp [h.sz]
 refine⟨kD,λj t hj ht hlt=>?_,λt ht=>?_⟩
 ·unfold s9 at hj;by_cases hji:j=i
  ·subst hji;rw[ht];unfold x8;simp [h.sz,hlt]
  ·rw[aH hji]at hj;rw[hv j hj,<-h.on j t hj ht hlt];unfold x8;split
   ·rfl
   ·rename_i t' Mc
    have:t'≠t:=λe=>by subst e;exact hd j t' hji Mc ht
    simp [dC this]
 ·rw[<-h.off t (λj hj=>ht j (by unfold s9;split<;>simp [hj]))];unfold x8;split
  ·rfl
  ·rename_i t' Mc
   have:t'≠t:=λe=>by subst e;exact ht i (by simp [s9]) Mc
   simp [dC this]
theorem Fr.same {T0 T T':Array Value} {l l':Nat->Bool} {val:Nat->Value} (h:Fr ops T0 l val T) (h':Fr ops T0 l' val T') {t:Nat} (hk:∀j,dstOf ops j=some t->l j=true/\l' j=true):T[t]?=T'[t]?:=by
 by_cases hlt:t<T0.size
 ·by_cases hj:∃j,dstOf ops j=some t
  ·obtain⟨j,hj⟩:=hj;obtain⟨h1,h2⟩:=hk j hj;rw[h.on j t h1 hj hlt,h'.on j t h2 hj hlt]
  ·rw[h.off t (λi _ e=>hj ⟨i,e⟩),h'.off t (λi _ e=>hj ⟨i,e⟩)]
 ·rw[cI (by rw[h.sz];omega),cI (by rw[h'.sz];omega)]
theorem Fr.ext {T0 T T':Array Value} {l l':Nat->Bool} {val:Nat->Value} (h:Fr ops T0 l val T) (h':Fr ops T0 l' val T') (hk:∀j,j<ops.size->l j=true/\l' j=true):T=T':=by
 refine Array.ext_getElem? λt=>h.same h' λj hj=>hk j ?_;rcases cP j ops.size with hlt|tU
 ·exact hlt
 ·simp [dstOf,cI tU]at hj
theorem Fr.all_ {T0:Array Value} {val:Nat->Value} (hd:∀i j t,j≠i->dstOf ops i=some t->dstOf ops j≠some t):∀(m k:Nat) (T:Array Value) (ds:List (Option Nat)) (vs:List Value),k+m=ops.size->ds=(List.range' k m).map (dstOf ops)->vs=(List.range' k m).map val->
 Fr ops T0 (λi=>decide (i<k)) val T->Fr ops T0 (λi=>decide (i<ops.size)) val (vR T ds vs)
 |0,k,T,ds,vs,hk,hds,OD,h=>by simp at hds OD;subst hds OD;unfold vR;have:k=ops.size:=dP;subst this;exact h
 |m+1,k,T,ds,vs,hk,hds,OD,h=>by
  rw[List.range'_succ,br]at hds OD;subst hds OD;unfold vR;refine Fr.all_ hd m (k+1) _ _ _ dP rfl rfl ?_;have h1:=h.put (i:=k) (val':=val) dR (λj t hj=>hd k j t hj) (λ_ _=>rfl);have h2:s9 (λi=>decide (i<k)) k=λi=>decide (i<k+1):=by
   funext i;unfold s9;split
   ·subst_vars;simp
   ·have:(i<k)=(i<k+1):=dS;simp [this]
  rw[h2]at h1;exact h1
end
section
variable {R0:List As} {P:Program} {w0:World} {X:List Nat} {ops:Array Oper} {vs:List (En Value)} {rs:List Re} {us:List (List Nat)} {D0:List Deferred} {Tf Rf:(Nat->Gh)->Array Value} {old:List Nat} {T0:Array Value} {Q:Exit->Act->World->Prop}
theorem VI {A B:Array Value} {dst:Option Tmp} {u u':Value} (hs:A.size=B.size) (h:(Act.mk A D0).put dst u=(Act.mk A D0).put dst u'):(Act.mk B D0).put dst u=(Act.mk B D0).put dst u':=by
 cases dst with
 |none=>rfl
 |some d=>
  simp only[Act.put,Act.mk.injEq,cO]at h ⊢;by_cases hd:d<A.size
  ·have h1:(A.setIfInBounds d u)[d]?=(A.setIfInBounds d u')[d]?:=by rw[h]
   simp [hd]at h1;rw[h1]
  ·have hB:B.size<=d:=by rw[<-hs];exact Nat.le_of_not_lt hd
   rw[Array.setIfInBounds_eq_of_size_le hB,Array.setIfInBounds_eq_of_size_le hB]
theorem Y1 {o:Oper} {A B:Array Value} {k:Value->World->Prop} {next:Act->World->Prop} {r:Result Next} (hs:A.size=B.size)
 (h:o.upon P ⟨A,D0⟩ (λa' w'=>∃u,a'=(Act.mk A D0).put o.dst u/\k u w') (λ_ _ _=>False) r) (hn:∀u w',k u w'->next ((Act.mk B D0).put o.dst u) w'):o.upon P ⟨B,D0⟩ next Q r:=by
 have iU:∀u w',(∃u',(Act.mk A D0).put o.dst u=(Act.mk A D0).put o.dst u'/\k u' w')->next ((Act.mk B D0).put o.dst u) w':=by rintro u w' ⟨u',h1,h2⟩;rw[VI hs h1];exact hn u' w' h2
 cases r with
 |ok n w'=>
  cases n<;>simp only[Oper.upon]at h ⊢
  case value v=>exact iU _ _ h
  case skip=>exact iU _ _ h
  case defer d=>
   obtain⟨u,h1,_⟩:=h;exfalso;have h2:d::D0=D0:=by have:=cU Act.defers h1;cases hdst:o.dst<;>(rw[hdst]at this;exact this)
   have:=cU List.length h2;simp at this
  case enter f args=>
   refine aF h λe w'' he=>?_;cases e with
   |returned v=>exact iU _ _ he
   |panicked c=>exact he.elim
   |outgrown=>obtain⟨_,_,h⟩:=he;exact h.elim
  case row row args=>exact Rows.mono h λv w'' he=>iU _ _ he
 |halt x w'=>cases x<;>simp only[Oper.upon]at h
def lv (rs:List Re) (l:Nat->Bool) (r:Nat):Bool:=match rs[r]? with
 |none=>false
 |some e=>(match e.pr with|none=>true|some p=>l p)&&(match e.co with|none=>true|some c=> !l c)
def oZ (rs:List Re) (l:Nat->Bool):List Nat:=(List.range rs.length).filter (lv rs l)
def W8 (rs:List Re) (γ:Nat->Gh) (r:Nat):Option As:=(rs[r]?).map (·.f.ev γ)
theorem rt {l:Nat->Bool} {r:Nat}:r∈oZ rs l↔lv rs l r=true:=by
 unfold oZ;rw[cS,c_];constructor
 ·exact λh=>h.2
 ·intro h;refine⟨?_,h⟩;unfold lv at h;rcases cP r rs.length with h1|h1
  ·exact h1
  ·rw[b_ h1]at h;simp at h
theorem ua {l:Nat->Bool}:(oZ rs l).Nodup:=List.nodup_range.filter _
theorem Rg {a b:List Nat} (ha:a.Nodup) (hb:b.Nodup) (h:∀x,x∈a↔x∈b):a.Perm b:=(List.perm_ext_iff_of_nodup ha hb).2 h
theorem vG {i r:Nat}:r∈iJ rs i↔∃e,rs[r]?=some e/\e.co=some i:=by
 unfold iJ;rw[cS,c_];constructor
 ·exact Gb
 ·rintro⟨e,h1,h2⟩;exact⟨(ay.1 h1).1,by simp [h1,h2]⟩
theorem zQ {i r:Nat}:r∈lr rs i↔∃e,rs[r]?=some e/\e.pr=some i:=by
 unfold lr;rw[cS,c_];constructor
 ·exact Gb
 ·rintro⟨e,h1,h2⟩;exact⟨(ay.1 h1).1,by simp [h1,h2]⟩
def iN (rs:List Re) (γ:Nat->Gh) (l:List Nat):List As:=l.filterMap (W8 rs γ)
def St (P:Program) (w0:World) (X:List Nat) (ops:Array Oper) (vs:List (En Value)) (rs:List Re) (D0:List Deferred) (T0:Array Value) (R0:List As) (la:Array Bool) (a:Act) (w:World):Prop:=
 la.size=ops.size/\Dn ops (λi=>la.getD i false)/\∃(γ:Nat->Gh) (T:Array Value),a=⟨T,D0⟩/\Fr ops T0 (λi=>la.getD i false) (λi=>((vs[i]?).map (·.ev γ)).getD undef) T/\Mem P w0 X w (iN rs γ (oZ rs λi=>la.getD i false)++R0)
theorem T5 (R0:List As) (AQ:chk ops old vs rs us=true) (gK:vs.length=ops.size) (hT:∀γ,vR T0 (ops.toList.map (·.dst)) (vs.map (·.ev γ))=Tf γ) (hR:∀γ,mb (Tf γ) T0 old=Rf γ)
 (wS:∀i,i<ops.size->sG P w0 X ops vs rs us D0 Rf i):
 (∀(i:Nat) (o:Oper) (la:Array Bool) (a:Act) (w:World),ops[i]?=some o->la[i]?=some false->(∀e∈o.after,Region.binds .any e=true->la.getD e.on false=true)->St P w0 X ops vs rs D0 T0 R0 la a w->
  ∀(Q:Exit->Act->World->Prop) (K:Act->World->Prop),(∀a' w',St P w0 X ops vs rs D0 T0 R0 (la.setIfInBounds i true) a' w'->K a' w')->if Region.wanted o (yielded ops a.tmps)=true then Oper.wp P o a w K Q else K (a.put o.dst undef) w)/\
 (∀(la:Array Bool) (a:Act) (w:World),St P w0 X ops vs rs D0 T0 R0 la a w->(∀i,i<ops.size->la[i]?=some true)->∃γ,a=⟨Tf γ,D0⟩/\Mem P w0 X w (iN rs γ (oZ rs λi=>decide (i<ops.size))++R0))/\
 (∀w:World,(∀γ,Mem P w0 X w (iN rs γ (oZ rs λ_=>false)++R0))->St P w0 X ops vs rs D0 T0 R0 (Array.replicate ops.size false) ⟨T0,D0⟩ w)/\Jf ops=true:=by
 unfold chk at AQ;simp only[ax]at AQ;obtain⟨⟨⟨⟨K9,R7⟩,hns⟩,hco⟩,hcr⟩:=AQ;rw[aV]at hco hcr;have XY:∀(i:Nat) (o:Oper) (v:En Value),ops[i]?=some o->vs[i]?=some v->(∀t∈o.looksAt ops,∀j,dstOf ops j=some t->if t∈old then i∈(Im ops.toList).getD j [] else j∈(Im ops.toList).getD i [])/\(∀k∈v.deps,k=i\/k∈(Im ops.toList).getD i [])/\(iJ rs i++us.getD i []).Nodup/\
  (∀r∈us.getD i [],∃e,rs[r]?=some e/\(∀p,e.pr=some p->p∈(Im ops.toList).getD i [])/\(∀c,e.co=some c->c≠i/\i∈(Im ops.toList).getD c []))/\
  (∀r∈iJ rs i,∃e,rs[r]?=some e/\(∀p,e.pr=some p->p∈(Im ops.toList).getD i []))/\(∀j t,j≠i->dstOf ops i=some t->dstOf ops j≠some t):=by
  intro i o v ho hv;have h1:=hco i (c_.2 (cN.1 ho).1);unfold Zg at h1;rw[ho,hv]at h1;simp only[ax,aV]at h1;obtain⟨⟨⟨⟨⟨h2,h3⟩,h4⟩,h5⟩,h6⟩,h7⟩:=h1;have dlt:∀j t,dstOf ops j=some t->j<ops.size:=λj t hj=>GH;refine⟨λt ht j hj=>?_,λk hk=>?_,NE h4,λr hr=>?_,λr hr=>?_,λj t hji hi hj=>?_⟩
  ·have:=h2 t ht j (c_.2 (dlt j t hj));by_cases ho:t∈old
   ·simpa [hj,ho]using this
   ·simpa [hj,ho]using this
  ·have:=h3 k hk;simpa using this
  ·have:=h5 r hr;cases hre:rs[r]? with
   |none=>simp [hre]at this
   |some e=>
    simp only[hre,ax]at this;refine⟨e,rfl,λp hp=>?_,λc hc=>?_⟩
    ·have:=this.1;unfold YB at this;rw[hp]at this;simpa using this
    ·have:=this.2;rw[hc]at this;simpa using this
  ·have:=h6 r hr;cases hre:rs[r]? with
   |none=>simp [hre]at this
   |some e=>
    simp only[hre]at this;exact⟨e,rfl,λp hp=>by unfold YB at this;rw[hp]at this;simpa using this⟩
  ·have:=h7 j (c_.2 (dlt j t hj));simp [hi,hj,hji]at this
 have X3:∀(r:Nat) (e:Re),rs[r]?=some e->(e.pr=none->e.f.deps=[])/\(∀p,e.pr=some p->p<ops.size/\∀k∈e.f.deps,k=p\/k∈(Im ops.toList).getD p [])/\(∀c,e.co=some c->c<ops.size):=by
  intro r e hr;have h1:=hcr e (aA hr);unfold Zh at h1;simp only[ax]at h1;refine⟨λhp=>?_,λp hp=>?_,λc hc=>?_⟩
  ·have:=h1.1;rw[hp]at this;simpa using this
  ·have:=h1.1;rw[hp]at this;simp only[ax,aL,aV]at this;exact⟨this.1,λk hk=>by simpa using this.2 k hk⟩
  ·have:=h1.2;rw[hc]at this;simpa using this
 have OD:∀i,i<ops.size->∃v,vs[i]?=some v:=λi hi=>⟨vs[i]' dP,aw dP⟩;have hdd:∀i j t,j≠i->dstOf ops i=some t->dstOf ops j≠some t:=λi j t hji hi=>by
  have hlt:i<ops.size:=by
   rcases cP i ops.size with hlt|tU
   ·exact hlt
   ·simp [dstOf,cI tU]at hi
  obtain⟨v,hv⟩:=OD i hlt;exact(XY i _ v (bR hlt) hv).2.2.2.2.2 j t hji hi
 have QQ:∀γ,Fr ops T0 (λi=>decide (i<ops.size)) (λi=>((vs[i]?).map (·.ev γ)).getD undef) (Tf γ):=λγ=>by
  rw[<-hT γ];refine Fr.all_ hdd ops.size 0 T0 _ _ dP ?_ ?_ ⟨rfl,λi t h=>by simp at h,λt _=>rfl⟩
  ·refine List.ext_getElem? λi=>?_;rw[cg,cg];rcases cP i ops.size with hlt|tU
   ·rw[List.getElem?_range' hlt];simp [dstOf,hlt]
   ·rw[b_ (by simpa using tU),b_ (by simpa using tU)];rfl
  ·refine List.ext_getElem? λi=>?_;rw[cg,cg];rcases cP i ops.size with hlt|tU
   ·rw[List.getElem?_range' hlt];obtain⟨v,hv⟩:=OD i hlt;simp [hv]
   ·rw[b_ dP,b_ (by simpa using tU)];rfl
 refine⟨?_,?_,?_,R7⟩
 ·rintro i o la a w ho hli hed ⟨kD,Sd,γ,T,rfl,Tw,hM⟩ Q K hK;have hi:i<ops.size:=(cN.1 ho).1;obtain⟨v,hv⟩:=OD i hi;obtain⟨c1,c2,c3,c4,c5,c6⟩:=XY i o v ho hv;have Ps:la.getD i false=false:=by simp [hli]
  have han:=qI K9 Sd i o ho hed;have abx:(λk=>(la.setIfInBounds i true).getD k false)=s9 (λk=>la.getD k false) i:=by
   funext k;unfold s9;split
   ·subst_vars;have:k<la.size:=dP;simp [this]
   ·rename_i jC;simp [dC (Ne.symm jC)]
  have ahu:∀x j,la.getD j false=true->((vs[j]?).map (·.ev (xE γ i x))).getD undef=((vs[j]?).map (·.ev γ)).getD undef:=by
   intro x j hj;cases hvj:vs[j]? with
   |none=>rfl
   |some vj=>
    have XO:j<ops.size:=by
     rcases cP j ops.size with hlt|tU
     ·exact hlt
     ·simp [cI (show la.size<=j by omega)]at hj
    have XV:ops[j]?=some ops[j]:=bR XO;obtain⟨_,d2,_⟩:=XY j _ vj XV hvj;have haj:=qI K9 Sd j _ XV (Sd j _ XV hj);simp only[Option.map_some,bV];refine En.ev_upd λhm=>?_;rcases d2 i hm with rfl|h1
    ·rw[Ps]at hj;cases hj
    ·rw[haj i h1]at Ps;cases Ps
  have adL:∀j t,dstOf ops j=some t->j<ops.size:=λj t hj=>GH;have ZF:∀t∈o.looksAt ops,T[t]?=(Rf γ)[t]?:=by
   intro t hlk;rw[<-hR γ,Kf (QQ γ).sz];by_cases hot:t∈old
   ·rw[aN hot];refine Tw.off t λj hj hd=>?_;have h1:=c1 t hlk j hd;rw[aN hot]at h1;have XO:=adL j t hd;have h2:=qI K9 Sd j _ (bR XO) (Sd j _ (bR XO) hj) i h1;rw[Ps]at h2;cases h2
   ·rw[aH hot];refine Tw.same (QQ γ) (t:=t) λj hj=>?_;have h1:=c1 t hlk j hj;rw[aH hot]at h1;exact⟨han j h1,by simpa using adL j t hj⟩
  have UI:execOp (Act.mk T D0).eval o=execOp (Act.mk (Rf γ) D0).eval o:=by
   refine execOp_congr o (λcs b=>Region.noSelect_spec hns i o cs b ho) λx hx=>?_;cases x with
   |tmp t=>
    have hlk:t∈o.looksAt ops:=bJ _ (List.mem_filterMap.2 ⟨.tmp t,by simpa using hx,rfl⟩);have:=ZF t hlk;simp [Act.eval,cH,this]
   |const _=>rfl
   |global _=>rfl
   |func _=>rfl
  have aen:Region.wanted o (yielded ops T)=Region.wanted o (yielded ops (Rf γ)):=by
   unfold Region.wanted;cases hg:o.guard with
   |none=>rfl
   |some gw=>
    obtain⟨g,want⟩:=gw;have:yielded ops T g=yielded ops (Rf γ) g:=by
     unfold yielded;cases ht:(ops[g]?).bind (·.dst) with
     |none=>rfl
     |some t=>
      have hlk:t∈o.looksAt ops:=bD _ (by simp [hg,ht]);have:=ZF t hlk;simp only[Option.bind_some,this]
    simp only[this]
  have R_:dstOf ops i=o.dst:=by simp [dstOf,ho]
  have agU:Dn ops (λk=>(la.setIfInBounds i true).getD k false):=by
   rw[abx];intro j oj XV hj e he hb;unfold s9 at hj ⊢;split
   ·rfl
   ·by_cases hji:j=i
    ·subst hji;rw[ho]at XV;injection XV with XV;subst XV;exact hed e he hb
    ·rw[aH hji]at hj;exact Sd j oj XV hj e he hb
  have JB:∀x u w',u=v.ev (xE γ i x)->Mem P w0 X w' (iN rs (xE γ i x) (oZ rs (s9 (λk=>la.getD k false) i))++R0)->K ((Act.mk T D0).put o.dst u) w':=by
   intro x u w' hu hM';refine hK _ _ ⟨by simpa using kD,agU,xE γ i x,x8 T (dstOf ops i) u,?_,?_,?_⟩
   ·rw[R_];cases o.dst<;>rfl
   ·rw[abx];have:=Tw.put (i:=i) (val':=λj=>((vs[j]?).map (·.ev (xE γ i x))).getD undef) Ps c6 (λj hj=>ahu x j hj);simpa [hv,hu]using this
   ·rw[abx];exact hM'
  have hcu:∀r,r∈iJ rs i++us.getD i []->r∈oZ rs (λk=>la.getD k false):=by
   intro r hr;rw[rt];unfold lv;rcases aG.1 hr with hr|hr
   ·obtain⟨e,h1,h2⟩:=c5 r hr;obtain⟨e',h3,h4⟩:=vG.1 hr;rw[h1]at h3;injection h3 with h3;subst h3
    rw[h1];simp only[h4,Ps,ak,Bool.and_true];cases hp:e.pr with
    |none=>rfl
    |some p=>exact han p (h2 p hp)
   ·obtain⟨e,h1,h2,h3⟩:=c4 r hr;rw[h1];simp only[ax];refine⟨?_,?_⟩
    ·cases hp:e.pr with
     |none=>rfl
     |some p=>exact han p (h2 p hp)
    ·cases hc:e.co with
     |none=>rfl
     |some c=>
      obtain⟨h4,h5⟩:=h3 c hc;have Pp:=(X3 r e h1).2.2 c hc;simp only[cQ];cases hlc:la.getD c false with
      |false=>rfl
      |true=>
       have:=qI K9 Sd c _ (bR Pp) (Sd c _ (bR Pp) hlc) i h5;rw[Ps]at this;cases this
  have aby:(oZ rs (λk=>la.getD k false)).Perm ((iJ rs i++us.getD i [])++(oZ rs (λk=>la.getD k false)).filter (λr=> !(iJ rs i++us.getD i []).contains r)):=by
   refine Rg ua (aE.2 ⟨c3,ua.filter _,?_⟩) λr=>?_
   ·intro a ha b hb e;subst e;simp only[cS,cW,cQ,bB]at hb;exact hb.2 ha
   ·constructor
    ·intro hr;by_cases hc:r∈iJ rs i++us.getD i []
     ·exact bJ _ hc
     ·exact bD _ (by simp only[cS,cW,cQ,bB];exact⟨hr,hc⟩)
    ·intro hr;rcases aG.1 hr with hr|hr
     ·exact hcu r hr
     ·exact(cS.1 hr).1
  have hM1:Mem P w0 X w (JU rs us γ i++(iN rs γ ((oZ rs (λk=>la.getD k false)).filter (λr=> !(iJ rs i++us.getD i []).contains r))++R0)):=by have:=hM.perm ((aby.filterMap (W8 rs γ)).append_right R0);rw[dJ,aS]at this;exact this
  have ad9:∀r,r∈lr rs i->r ∉ oZ rs (λk=>la.getD k false):=by intro r hr hm;obtain⟨e,h1,h2⟩:=zQ.1 hr;rw[rt]at hm;unfold lv at hm;rw[h1]at hm;simp [h2,hli]at hm
  have X6:(oZ rs (s9 (λk=>la.getD k false) i)).Perm ((lr rs i++us.getD i [])++(oZ rs (λk=>la.getD k false)).filter (λr=> !(iJ rs i++us.getD i []).contains r)):=by
   have hu:=(aE.1 c3).2.1;refine Rg ua (aE.2 ⟨aE.2 ⟨List.nodup_range.filter _,hu,?_⟩,ua.filter _,?_⟩) λr=>?_
   ·intro a ha b hb e;subst e;exact ad9 a ha (hcu a (bD _ hb))
   ·intro a ha b hb e;subst e;simp only[cS,cW,cQ,bB]at hb;rcases aG.1 ha with ha|ha
    ·exact ad9 a ha hb.1
    ·exact hb.2 (bD _ ha)
   ·have kQ:∀e,rs[r]?=some e->(lv rs (s9 (λk=>la.getD k false) i) r=true↔(r∈lr rs i/\e.co≠some i)\/(lv rs (λk=>la.getD k false) r=true/\e.co≠some i)):=by
     intro e he;have hn1:e.pr=some i->∀c,e.co=some c->la.getD c false=true->c=i->False:=λ_ c _ h1 h2=>by subst h2;rw[Ps]at h1;cases h1
     have WD:e.pr=some i->∀c,e.co=some c->c≠i->la.getD c false=false:=λhp c hc jC=>by
      cases hlc:la.getD c false with
      |false=>rfl
      |true=>
       exfalso;have Pp:=(X3 r e he).2.2 c hc;obtain⟨vc,hvc⟩:=OD c Pp;obtain⟨_,_,_,_,d5,_⟩:=XY c _ vc (bR Pp) hvc;obtain⟨e',q1,q2⟩:=d5 r (vG.2 ⟨e,he,hc⟩);rw[he]at q1;injection q1 with q1;subst q1
       have:=qI K9 Sd c _ (bR Pp) (Sd c _ (bR Pp) hlc) i (q2 i hp);rw[Ps]at this;cases this
     unfold lv;rw[he];simp only[ax];constructor
     ·rintro⟨q1,q2⟩;have q3:e.co≠some i:=λhc=>by rw[hc]at q2;simp [s9]at q2
      have q4:(match e.co with|none=>true|some c=> !la.getD c false)=true:=by
       cases hc:e.co with
       |none=>rfl
       |some c=>rw[hc]at q2;have:c≠i:=λh=>q3 (by rw[hc,h]);simpa [s9,this]using q2
      by_cases hp:e.pr=some i
      ·exact .inl ⟨zQ.2 ⟨e,he,hp⟩,q3⟩
      ·refine .inr ⟨⟨?_,q4⟩,q3⟩;cases hp':e.pr with
       |none=>rfl
       |some p=>rw[hp']at q1;have:p≠i:=λh=>hp (by rw[hp',h]);simpa [s9,this]using q1
     ·rintro(⟨q1,q2⟩|⟨⟨q1,q3⟩,q2⟩)
      ·obtain⟨e',q4,q5⟩:=zQ.1 q1;rw[he]at q4;injection q4 with q4;subst q4
       refine⟨by rw[q5];simp [s9],?_⟩;cases hc:e.co with
       |none=>rfl
       |some c=>have jC:c≠i:=λh=>q2 (by rw[hc,h]);have:=WD q5 c hc jC;simp [s9,jC,this]
      ·refine⟨?_,?_⟩
       ·cases hp:e.pr with
        |none=>rfl
        |some p=>rw[hp]at q1;unfold s9;simp only[];split<;>simp_all
       ·cases hc:e.co with
        |none=>rfl
        |some c=>rw[hc]at q3;have jC:c≠i:=λh=>q2 (by rw[hc,h]);simpa [s9,jC]using q3
    rw[rt];constructor
    ·intro hr;have ⟨e,he⟩:∃e,rs[r]?=some e:=by
      cases hh:rs[r]? with
      |none=>unfold lv at hr;rw[hh]at hr;simp at hr
      |some e=>exact⟨e,rfl⟩
     rcases(kQ e he).1 hr with ⟨q1,q2⟩|⟨q1,q2⟩
     ·exact bJ _ (bJ _ q1)
     ·by_cases hu':r∈us.getD i []
      ·exact bJ _ (bD _ hu')
      ·refine bD _ ?_;simp only[cS,cW,cQ,bB];refine⟨rt.2 q1,λhm=>?_⟩;rcases aG.1 hm with hm|hm
       ·obtain⟨e',q4,q5⟩:=vG.1 hm;rw[he]at q4;injection q4 with q4;subst q4
        exact q2 q5
       ·exact hu' hm
    ·intro hr;rcases aG.1 hr with hr|hr
     ·rcases aG.1 hr with hr|hr
      ·obtain⟨e,he,hp⟩:=zQ.1 hr;refine(kQ e he).2 (.inl ⟨hr,λhc=>?_⟩);obtain⟨e',q1,q2⟩:=c5 r (vG.2 ⟨e,he,hc⟩);rw[he]at q1;injection q1 with q1;subst q1
       have:=han i (q2 i hp);rw[Ps]at this;cases this
      ·obtain⟨e,he,q2,q3⟩:=c4 r hr;exact(kQ e he).2 (.inr ⟨rt.1 (hcu r (bD _ hr)),λhc=>(q3 i hc).1 rfl⟩)
     ·simp only[cS,cW,cQ,bB]at hr;have hlr:=rt.1 hr.1;have ⟨e,he⟩:∃e,rs[r]?=some e:=by
       cases hh:rs[r]? with
       |none=>unfold lv at hlr;rw[hh]at hlr;simp at hlr
       |some e=>exact⟨e,rfl⟩
      exact(kQ e he).2 (.inr ⟨hlr,λhc=>hr.2 (bJ _ (vG.2 ⟨e,he,hc⟩))⟩)
  have adz:∀x,iN rs (xE γ i x) ((oZ rs (λk=>la.getD k false)).filter (λr=> !(iJ rs i++us.getD i []).contains r))=iN rs γ ((oZ rs (λk=>la.getD k false)).filter (λr=> !(iJ rs i++us.getD i []).contains r)):=by
   intro x;unfold iN;refine MP λr hr=>?_;have hlr:=rt.1 (cS.1 hr).1;unfold W8;cases he:rs[r]? with
   |none=>rfl
   |some e=>
    simp only[Option.map_some,cE];refine En.ev_upd λhm=>?_;unfold lv at hlr;rw[he]at hlr;simp only[ax]at hlr;cases hp:e.pr with
    |none=>rw[(X3 r e he).1 hp]at hm;simp at hm
    |some p=>
     obtain⟨q1,q2⟩:=(X3 r e he).2.1 p hp;have hlp:la.getD p false=true:=by have:=hlr.1;rw[hp]at this;exact this
     rcases q2 i hm with rfl|q3
     ·rw[Ps]at hlp;cases hlp
     ·have:=qI K9 Sd p _ (bR q1) (Sd p _ (bR q1) hlp) i q3;rw[Ps]at this;cases this
  have jO:∀x w',Mem P w0 X w' (DA rs us (xE γ i x) i++(iN rs γ ((oZ rs (λk=>la.getD k false)).filter (λr=> !(iJ rs i++us.getD i []).contains r))++R0))->Mem P w0 X w' (iN rs (xE γ i x) (oZ rs (s9 (λk=>la.getD k false) i))++R0):=by intro x w' h1;have h2:=((X6.filterMap (W8 rs (xE γ i x))).append_right R0).symm;rw[dJ,aS]at h2;refine Mem.perm ?_ h2;have h3:=adz x;unfold iN at h3;rw[h3];exact h1
  obtain⟨o',v',ZC,xg,h⟩:=wS i hi;rw[ho]at ZC;injection ZC with ZC;subst ZC
  rw[hv]at xg;injection xg with xg;subst xg
  have h1:=h γ w _ (λa' w'=>∃u,a'=(Act.mk (Rf γ) D0).put o.dst u/\∃x,u=v.ev (xE γ i x)/\Mem P w0 X w' (DA rs us (xE γ i x) i++(iN rs γ ((oZ rs (λk=>la.getD k false)).filter (λr=> !(iJ rs i++us.getD i []).contains r))++R0))) hM1 (λx w' hMx=>⟨_,rfl,x,rfl,hMx⟩);have ael:(Rf γ).size=T.size:=by rw[<-hR γ,rY,(QQ γ).sz,Tw.sz]
  rw[show (Act.mk (Rf γ) D0).tmps=Rf γ from rfl,<-aen]at h1;rw[show (Act.mk T D0).tmps=T from rfl];split at h1
  ·rename_i hw
   rw[aN hw];unfold Oper.wp at h1 ⊢;rw[UI];refine Y1 ael h1 λu w' hk=>?_;obtain⟨x,hx,hMx⟩:=hk;exact JB x u w' hx (jO x w' hMx)
  ·rename_i hw
   rw[aH hw];obtain⟨u,h2,x,hx,hMx⟩:=h1;rw[VI ael h2];exact JB x u w hx (jO x w hMx)
 ·rintro la a w ⟨kD,Sd,γ,T,rfl,Tw,hM⟩ jb;have hl:∀i,i<ops.size->la.getD i false=true:=λi hi=>by simp [jb i hi]
  have hTT:T=Tf γ:=Tw.ext (QQ γ) λj hj=>⟨hl j hj,by simpa using hj⟩;subst hTT;refine⟨γ,rfl,?_⟩;have:(λi=>la.getD i false)=λi=>decide (i<ops.size):=by
   funext i;rcases cP i ops.size with hlt|tU
   ·rw[hl i hlt];simp [hlt]
   ·simp [cI (show la.size<=i by omega)];omega
  rw[<-this];exact hM
 ·intro w abh;refine⟨by simp,?_,λ_=>mA 0,T0,rfl,⟨rfl,?_,λ_ _=>rfl⟩,?_⟩
  ·intro i o ho hl;rcases cP i ops.size with hlt|tU
   ·simp [hlt]at hl
   ·simp [cI tU]at ho
  ·intro i t hl;rcases cP i ops.size with hlt|tU
   ·simp [hlt]at hl
   ·simp [show ¬i<ops.size by omega]at hl
  ·have:(λi=>(Array.replicate ops.size false).getD i false)=λ_=>false:=by
    funext i;rcases cP i ops.size with hlt|tU
    ·simp [hlt]
    ·simp [show ¬i<ops.size by omega]
   rw[this];exact abh _
theorem EK {id:Nat} {w:World} (hm:P.follows .mixedOrders=true) (AQ:chk ops old vs rs us=true) (gK:vs.length=ops.size) (hT:∀γ,vR T0 (ops.toList.map (·.dst)) (vs.map (·.ev γ))=Tf γ) (hR:∀γ,mb (Tf γ) T0 old=Rf γ)
 (abh:∀γ,Mem P w0 X w.drew (iN rs γ (oZ rs λ_=>false)++R0))
 (wS:∀i,i<ops.size->sG P w0 X ops vs rs us D0 Rf i)
 (tT:∀γ w',Mem P w0 X w' (iN rs γ (oZ rs λi=>decide (i<ops.size))++R0)->Q .normal ⟨Tf γ,D0⟩ w'):(Code.region id ops true).wp P Q ⟨T0,D0⟩ w:=by
 obtain⟨h1,h2,h3,R7⟩:=T5 (T0:=T0) R0 AQ gK hT hR wS;refine aW (S:=λ_=>True) hm bO λ_=>?_;refine Op (St P w0 X ops vs rs D0 T0 R0) (λl a w h=>h.1) (λ_ _ _ _=>bO) (λi o la a w ho hl he hS K hK=>h1 i o la a w ho hl he hS Q K hK) R7 (λla a w hS jb=>?_) _ _ _ _ (Nat.le_of_eq ?_) (h3 _ abh)
 ·obtain⟨γ,rfl,hM⟩:=h2 la a w hS jb;exact tT γ w hM
 ·unfold unl;simp
theorem Yx {p:Nat->Prop}:∀i,i<0->p i:=λi h=>absurd h dP
theorem Vt {p:Nat->Prop} {n:Nat} (h:∀i,i<n->p i) (k:p n):∀i,i<n+1->p i:=λi hi=>by
 rcases Nat.lt_or_eq_of_le (Nat.le_of_lt_succ hi) with h1|h1
 ·exact h i h1
 ·exact h1 ▸ k
variable {i:Nat} {o:Oper} {v:En Value}
theorem Yv (ho:ops[i]?=some o) (hv:vs[i]?=some v) (V:(Nat->Gh)->Value) (L:(Nat->Gh)->List As) (hV:∀γ,v.ev γ=V γ) (hL:∀γ,JU rs us γ i=L γ) (hG:∀γ,DA rs us γ i=L γ)
 (h:∀γ w K,Mem P w0 X w (L γ)->K ((Act.mk (Tf γ) D0).put o.dst (V γ)) w->if Region.wanted o (yielded ops (Act.mk (Tf γ) D0).tmps)=true then Oper.wp P o ⟨Tf γ,D0⟩ w K (λ_ _ _=>False) else K ((Act.mk (Tf γ) D0).put o.dst undef) w):sG P w0 X ops vs rs us D0 Tf i:=
 ⟨o,v,ho,hv,λγ w R K hM hK=>h γ w K (by rw[<-hL];exact hM.left) (by have:=hK (γ i) w (by rw[Om,hG,<-hL];exact hM);rw[Om,hV]at this;exact this)⟩
theorem Yw (ho:ops[i]?=some o) (hv:vs[i]?=some v) (V:(Nat->Gh)->Gh->Value) (L:(Nat->Gh)->List As) (G:(Nat->Gh)->Gh->List As) (hV:∀γ x,v.ev (xE γ i x)=V γ x) (hL:∀γ,JU rs us γ i=L γ) (hG:∀γ x,DA rs us (xE γ i x) i=G γ x)
 (h:∀γ w R K,Mem P w0 X w (L γ++R)->(∀x w',Mem P w0 X w' (G γ x++R)->K ((Act.mk (Tf γ) D0).put o.dst (V γ x)) w')->if Region.wanted o (yielded ops (Act.mk (Tf γ) D0).tmps)=true then Oper.wp P o ⟨Tf γ,D0⟩ w K (λ_ _ _=>False) else K ((Act.mk (Tf γ) D0).put o.dst undef) w):sG P w0 X ops vs rs us D0 Tf i:=
 ⟨o,v,ho,hv,λγ w R K hM hK=>h γ w R K (by rw[<-hL];exact hM) (λx w' hMx=>by have:=hK x w' (by rw[hG];exact hMx);rw[hV]at this;exact this)⟩
theorem JV (DT:List Nat) (ho:ops[i]?=some o) (hv:vs[i]?=some v) (hc:(iJ rs i,lr rs i,us.getD i [])=([],[],DT))
 (h:∀γ w K,Mem P w0 X w (iN rs γ DT)->K ((Act.mk (Tf γ) D0).put o.dst (v.ev γ)) w->if Region.wanted o (yielded ops (Act.mk (Tf γ) D0).tmps)=true then Oper.wp P o ⟨Tf γ,D0⟩ w K (λ_ _ _=>False) else K ((Act.mk (Tf γ) D0).put o.dst undef) w):sG P w0 X ops vs rs us D0 Tf i:=by
 simp only[Prod.mk.injEq]at hc;obtain⟨h1,h2,h3⟩:=hc;refine Yv ho hv (λγ=>v.ev γ) (λγ=>iN rs γ DT) (λ_=>rfl) (λγ=>?_) (λγ=>?_) h
 ·unfold JU;rw[h1,h3];rfl
 ·unfold DA;rw[h2,h3];rfl
theorem Q6 (ci pi ui:List Nat) (ho:ops[i]?=some o) (hv:vs[i]?=some v) (hc:(iJ rs i,lr rs i,us.getD i [])=(ci,pi,ui))
 (h:∀γ w R K,Mem P w0 X w (iN rs γ (ci++ui)++R)->(∀x w',Mem P w0 X w' (iN rs (xE γ i x) (pi++ui)++R)->K ((Act.mk (Tf γ) D0).put o.dst (v.ev (xE γ i x))) w')->if Region.wanted o (yielded ops (Act.mk (Tf γ) D0).tmps)=true then Oper.wp P o ⟨Tf γ,D0⟩ w K (λ_ _ _=>False) else K ((Act.mk (Tf γ) D0).put o.dst undef) w):sG P w0 X ops vs rs us D0 Tf i:=by
 simp only[Prod.mk.injEq]at hc;obtain⟨h1,h2,h3⟩:=hc;refine Yw ho hv (λγ x=>v.ev (xE γ i x)) (λγ=>iN rs γ (ci++ui)) (λγ x=>iN rs (xE γ i x) (pi++ui)) (λ_ _=>rfl) (λγ=>?_) (λγ x=>?_) h
 ·unfold JU;rw[h1,h3];rfl
 ·unfold DA;rw[h2,h3];rfl
theorem aeH (DT:List Nat) (ho:ops[i]?=some o) (hv:vs[i]?=some v) (hc:(iJ rs i,lr rs i,us.getD i [])=([],[],DT))
 (h:∀γ (w:World),(if Region.wanted o (yielded ops (Act.mk (Tf γ) D0).tmps) then (execOp (Act.mk (Tf γ) D0).eval o).run P w else Result.ok (.value undef) w)=Result.ok (.value (v.ev γ)) w) (_:true=true):sG P w0 X ops vs rs us D0 Tf i:=
 JV DT ho hv hc λγ w K _ hK=>by
  have h1:=h γ w;split at h1
  ·rename_i hw
   rw[aN hw];unfold Oper.wp;rw[h1];exact hK
  ·rename_i hw
   rw[aH hw];injection h1 with h1;injection h1 with h1;rw[h1];exact hK
end
section
variable {P:Program} {w0 w w':World} {X F:List Nat} {L M C C' R:List As} {x y:As} {g i:Nat} {t e te:TypeId} {cs:List Value} {d:D} {u:Value}
theorem Mem.split (C:List As) (h:Mem P w0 X w (C++R)):∃F,Sats P w C F/\F.Nodup/\∀(w':World) (C':List As) (G:List Nat),Sats P w' C' G->G.Nodup->(∀g∈G,g∈F\/w.heap.size<=g)->Mod F w w'->Mem P w0 X w' (C'++R):=by
 obtain⟨hm,F,h1,h2,h3⟩:=h;obtain⟨F1,F2,rfl,h4,h5⟩:=nL.1 h1;obtain⟨n1,n2,n3⟩:=aE.1 h2;refine⟨F1,h4,n1,λw' C' G k1 k2 k3 k4=>?_⟩;have hz:=hm.size;have h6:=wY h5;refine⟨hm.trans k4 (λg hg=>h3 g fe),G++F2,nL.2 ⟨G,F2,rfl,k1,th h5 λg hg=>k4.2.2 g (h6 g hg) (λhf=>n3 g hf g hg rfl)⟩,aE.2 ⟨k2,n2,λa ha b hb e=>?_⟩,λg hg=>?_⟩
 ·subst e;rcases k3 a ha with h7|h7
  ·exact n3 a h7 a hb rfl
  ·have:=h6 a hb;omega
 ·exact F8
theorem iQ:Sats P w [x] F↔x.sat P w F:=by
 rw[Sats];constructor
 ·rintro⟨F1,F2,rfl,h1,h2⟩;rw[Sats]at h2;subst h2;simpa using h1
 ·intro h;exact⟨F,[],by simp,h,by rw[Sats]⟩
theorem fJ:Sats P w (x::L) F↔∃F1 F2,F=F1++F2/\x.sat P w F1/\Sats P w L F2:=by rw[Sats]
theorem Mem.emp (h:Mem P w0 X w R) (ht:P.underlying t=some (.slice e)):Mem P w0 X (w.alloc (.cells #[] e)) (.ow (.sl []) t [.slice (some ⟨w.heap.size,0,none⟩) 0 0]::R):=by refine h.gain (F:=[w.heap.size]) ?_ ⟨by simp,by simp⟩ ((Below.refl _ _).alloc (af _) _);rw[own];refine⟨e,_,0,0,_,[],[],ht,rfl,rfl,by unfold maxLen;omega,?_,rfl,by rw[bL,iv];exact⟨rfl,rfl⟩⟩;exact Own.new_ Row.len w [] #[] rfl rfl eb (dj _) rfl
theorem Mem.nil (h:Mem P w0 X w R) (ht:P.underlying t=some (.slice e)):Mem P w0 X w (.ow (.sl []) t [()]::R):=by refine h.gain (F:=[]) ?_ Fresh.nil (Below.refl _ _);rw[own];exact⟨e,none,0,0,_,[],[],ht,rfl,rfl,by unfold maxLen;omega,Own.nil_,rfl,by rw[bL,iv];exact⟨rfl,rfl⟩⟩
theorem Mem.scal (h:Mem P w0 X w R) (ho:own P w d t [] cs):Mem P w0 X w (.ow d t cs::R):=h.gain ho Fresh.nil (Below.refl _ _)
theorem Mem.int (h:Mem P w0 X w R) {n:Int} (hn:(Lit.int .i64 n).wf=true):Mem P w0 X w (.ow (.i .i64 n) t [n]::R):=h.scal (by rw[own];exact⟨rfl,rfl,hn⟩)
theorem Mem.str (h:Mem P w0 X w R) {s:Str} (hn:s.length<=maxLen):Mem P w0 X w (.ow (.s s) t [sv s]::R):=h.scal (by rw[own];exact⟨rfl,rfl,hn⟩)
variable {size bytes:Nat} {ops:Array Oper} {o:Oper} {a:Act} {Q:Exit->Act->World->Prop} {K:Act->World->Prop} {E:Prop} {xs:List D} {A:Option Addr} {n c b m:Nat}
theorem mG (M:Mem P w0 X w (.ow (.sl xs) t [.slice A n c]:: .ow d e cs:: .bk b te cs::R)) (hT:ElemTy P t e size bytes) (kD:P.cellsOf e=size) (zK:o.guard=none) (sl x:Operand)
 (ho:o.op= .call {callee:= .builtin .append,args:=#[sl,x],argTypes:=#[t,t]}) (hs:a.eval sl= .slice A n c) (hx:a.eval x= .slice (some ⟨b,0,none⟩) 1 m) (hl:cs.length=size) (hn:n+1<=maxLen) (h63:(n+1)*bytes<=140737488355328)
 (h:∀g c' w',Mem P w0 X w' (.ow (.sl (xs++[d])) t [.slice (some ⟨g,0,none⟩) (n+1) c']:: .bk b te cs::R)->K (a.put o.dst (.slice (some ⟨g,0,none⟩) (n+1) c')) w'):
 if Region.wanted o (yielded ops a.tmps)=true then Oper.wp P o a w K Q else E:=by
 have hb:Blk w b te cs:=M.blk dR;obtain⟨F,h1,h2,h3⟩:=Mem.split [_,_] M;obtain⟨F1,F2,rfl,h4,h5⟩:=fJ.1 h1;have h5:=iQ.1 h5;refine gL hT kD zK sl x ho hs h4 hx hb h5 hl h2 hn h63 λg c' w' yX k1 k2 k3=>h g c' w' (h3 w' [_] yX (iQ.2 k1) k2.1 (λx hx=>?_) (k3.mono (λy hy=>bJ _ hy)));rcases k2.2 x hx with h6|h6|h6
 ·exact .inl (bJ _ h6)
 ·exact .inl (bD _ h6)
 ·exact .inr dP
theorem pO {α:Type} {f:α->D} (enc:α->List Value) (M:Mem P w0 X w (.ow (.sl []) t [.slice (some ⟨g,0,none⟩) 0 0]::R)) (hT:ElemTy P t e size bytes) (kD:P.cellsOf e=size) (mB:∀x,(enc x).length=size) (hone:∀x,∀u∈enc x,u.oneCell'=true) (zK:o.guard=none) (sl x:Operand)
 (ho:o.op= .call {callee:= .builtin .append,args:=#[sl,x],argTypes:=#[t,t]}) (hs:a.eval sl= .slice (some ⟨g,0,none⟩) 0 0)
 (A2:Option Addr) (m c2 B:Nat) (l2:List α) (hx:a.eval x= .slice A2 m c2) (hr:Reads enc size w B A2 m l2) (hfl:∀x∈l2,∀w',own P w' (f x) e [] (enc x)) (h63:m*bytes<=140737488355328) (hn:m<=maxLen)
 (h:∀A' c' w',Mem P w0 X w' (.ow (.sl (l2.map f)) t [.slice A' m c']::R)->K (a.put o.dst (.slice A' m c')) w'):
 if Region.wanted o (yielded ops a.tmps)=true then Oper.wp P o a w K Q else E:=by
 obtain⟨F,h1,h2,h3⟩:=Mem.split [_] M;have h4:=iQ.1 h1;exact qc enc hT kD mB hone zK sl x ho hs h4 A2 m c2 B l2 hx hr hfl h63 hn λA' c' w' F' k1 k2 k3=>h A' c' w' (h3 w' [_] F' (iQ.2 k1) k2.1 k2.2 k3)
end
theorem FM (n:Int) (h: -9223372036854775808<=n/\n<=9223372036854775807):IntKind.i64.wrap n=n:=by rw[IntKind.wrap_i64];omega
section
variable {P:Program} {w0:World} {X:List Nat} {ops:Array Oper} {vs:List (En Value)} {rs:List Re} {us:List (List Nat)} {D0:List Deferred} {Tf:(Nat->Gh)->Array Value} {i:Nat} {o:Oper} {v:En Value} {DT ci pi:List Nat} {t:TypeId} {B:(Nat->Gh)->Nat} {CS:(Nat->Gh)->List Value} {U U0 U1 U2 U3 U4 U5 U6 U7:(Nat->Gh)->Value}
theorem eh (ho:ops[i]?=some o:=by rfl) (hv:vs[i]?=some v:=by rfl) (hc:(iJ rs i,lr rs i,us.getD i [])=([],[],[]):=by kernel_rfl)
 (h:∀γ w K,K ((Act.mk (Tf γ) D0).put o.dst (v.ev γ)) w->if Region.wanted o (yielded ops (Act.mk (Tf γ) D0).tmps)=true then Oper.wp P o ⟨Tf γ,D0⟩ w K (λ_ _ _=>False) else K ((Act.mk (Tf γ) D0).put o.dst undef) w:=by intro γ w K hK;go_simp;exact hK):sG P w0 X ops vs rs us D0 Tf i:=
 JV [] ho hv hc λγ w K _ hK=>h γ w K hK
theorem e_ (DT:List Nat) (k:Nat) (ho:ops[i]?=some o:=by rfl) (hv:vs[i]?=some v:=by rfl) (hc:(iJ rs i,lr rs i,us.getD i [])=([],[],DT):=by kernel_rfl) (hx:∀γ,(iN rs γ DT)[0]?=some (.bk (B γ) t (CS γ)):=by intro _;rfl) (hk:∀γ,(CS γ)[k]?=some (U γ):=by intro _;rfl)
 (h:∀γ w K,w.cell? ⟨B γ,k,none⟩=some (U γ)->K ((Act.mk (Tf γ) D0).put o.dst (v.ev γ)) w->if Region.wanted o (yielded ops (Act.mk (Tf γ) D0).tmps)=true then Oper.wp P o ⟨Tf γ,D0⟩ w K (λ_ _ _=>False) else K ((Act.mk (Tf γ) D0).put o.dst undef) w:=by intro γ w K c hK;go_simp;exact hK):sG P w0 X ops vs rs us D0 Tf i:=
 JV DT ho hv hc λγ w K M hK=>h γ w K (((M.bl 0 (hx γ)).cell k).trans (hk γ)) hK
theorem ZX (DT:List Nat) (ho:ops[i]?=some o:=by rfl) (hv:vs[i]?=some v:=by rfl) (hc:(iJ rs i,lr rs i,us.getD i [])=([],[],DT):=by kernel_rfl) (hx:∀γ,(iN rs γ DT)[0]?=some (.bk (B γ) t [U0 γ,U1 γ,U2 γ]):=by intro _;rfl)
 (h:∀γ w K,w.cell? ⟨B γ,0,none⟩=some (U0 γ)->w.cell? ⟨B γ,1,none⟩=some (U1 γ)->w.cell? ⟨B γ,2,none⟩=some (U2 γ)->K ((Act.mk (Tf γ) D0).put o.dst (v.ev γ)) w->if Region.wanted o (yielded ops (Act.mk (Tf γ) D0).tmps)=true then Oper.wp P o ⟨Tf γ,D0⟩ w K (λ_ _ _=>False) else K ((Act.mk (Tf γ) D0).put o.dst undef) w:=by intro γ w K c d e hK;go_simp;exact hK):sG P w0 X ops vs rs us D0 Tf i:=
 JV DT ho hv hc λγ w K M hK=>h γ w K ((M.bl 0 (hx γ)).cell 0) ((M.bl 0 (hx γ)).cell 1) ((M.bl 0 (hx γ)).cell 2) hK
theorem lL (DT:List Nat) (ho:ops[i]?=some o:=by rfl) (hv:vs[i]?=some v:=by rfl) (hc:(iJ rs i,lr rs i,us.getD i [])=([],[],DT):=by kernel_rfl) (hx:∀γ,(iN rs γ DT)[0]?=some (.bk (B γ) t [U0 γ,U1 γ,U2 γ,U3 γ,U4 γ,U5 γ,U6 γ,U7 γ]):=by intro _;rfl)
 (h:∀γ w K,w.cell? ⟨B γ,0,none⟩=some (U0 γ)->w.cell? ⟨B γ,1,none⟩=some (U1 γ)->w.cell? ⟨B γ,2,none⟩=some (U2 γ)->w.cell? ⟨B γ,3,none⟩=some (U3 γ)->w.cell? ⟨B γ,4,none⟩=some (U4 γ)->w.cell? ⟨B γ,5,none⟩=some (U5 γ)->w.cell? ⟨B γ,6,none⟩=some (U6 γ)->w.cell? ⟨B γ,7,none⟩=some (U7 γ)->
  K ((Act.mk (Tf γ) D0).put o.dst (v.ev γ)) w->if Region.wanted o (yielded ops (Act.mk (Tf γ) D0).tmps)=true then Oper.wp P o ⟨Tf γ,D0⟩ w K (λ_ _ _=>False) else K ((Act.mk (Tf γ) D0).put o.dst undef) w:=by intro γ w K a b c d e f g h hK;go_simp;exact hK):sG P w0 X ops vs rs us D0 Tf i:=
 JV DT ho hv hc λγ w K M hK=>by have q:=M.bl 0 (hx γ);exact h γ w K (q.cell 0) (q.cell 1) (q.cell 2) (q.cell 3) (q.cell 4) (q.cell 5) (q.cell 6) (q.cell 7) hK
theorem kX (pi:List Nat) (ho:ops[i]?=some o:=by rfl) (hv:vs[i]?=some v:=by rfl) (hc:(iJ rs i,lr rs i,us.getD i [])=([],pi,[]):=by kernel_rfl) (hx:∀γ b,iN rs (xE γ i (mA b)) pi=[.bk b t (CS γ)]:=by intro _ _;rfl)
 (h:∀γ w K,K ((Act.mk (Tf γ) D0).put o.dst (v.ev (xE γ i (mA w.heap.size)))) (w.alloc (.cells (CS γ).toArray t))->if Region.wanted o (yielded ops (Act.mk (Tf γ) D0).tmps)=true then Oper.wp P o ⟨Tf γ,D0⟩ w K (λ_ _ _=>False) else K ((Act.mk (Tf γ) D0).put o.dst undef) w:=by intro γ w K hK;go_simp;exact hK):sG P w0 X ops vs rs us D0 Tf i:=
 Q6 [] pi [] ho hv hc λγ w R K M hK=>h γ w K (hK (mA w.heap.size) _ (by rw[bP,hx];exact M.all))
theorem vI (ci pi:List Nat) (k:Nat) (ho:ops[i]?=some o:=by rfl) (hv:vs[i]?=some v:=by rfl) (hc:(iJ rs i,lr rs i,us.getD i [])=(ci,pi,[]):=by kernel_rfl) (hx:∀γ,iN rs γ ci=[.bk (B γ) t (CS γ)]:=by intro _;rfl) (hk:∀γ,(CS γ)[k]?=some (U γ):=by intro _;rfl) (hy:∀γ,iN rs (xE γ i (mA 0)) pi=[.bk (B γ) t ((CS γ).set k (U0 γ))]:=by intro _;rfl)
 (h:∀γ w K,w.cell? ⟨B γ,k,none⟩=some (U γ)->w.frozen? ⟨B γ,k,none⟩=false->B γ<w.heap.size->K ((Act.mk (Tf γ) D0).put o.dst (v.ev (xE γ i (mA 0)))) (w.setCell ⟨B γ,k,none⟩ (U0 γ))->if Region.wanted o (yielded ops (Act.mk (Tf γ) D0).tmps)=true then Oper.wp P o ⟨Tf γ,D0⟩ w K (λ_ _ _=>False) else K ((Act.mk (Tf γ) D0).put o.dst undef) w:=by intro γ w K c f g hK;go_simp;exact hK):sG P w0 X ops vs rs us D0 Tf i:=
 Q6 ci pi [] ho hv hc λγ w R K M hK=>by rw[bP,hx]at M;have q:=M.bl 0 rfl;exact h γ w K ((q.cell k).trans (hk γ)) (q.frozen k) q.lt (hK (mA 0) _ (by rw[bP,hy];exact M.put k _))
theorem vJ (ci pi:List Nat) (ho:ops[i]?=some o:=by rfl) (hv:vs[i]?=some v:=by rfl) (hc:(iJ rs i,lr rs i,us.getD i [])=(ci,pi,[]):=by kernel_rfl) {A0 A1 A2 A3 A4 A5 A6 A7:(Nat->Gh)->Value} (hx:∀γ,iN rs γ ci=[.bk (B γ) t [A0 γ,A1 γ,A2 γ,A3 γ,A4 γ,A5 γ,A6 γ,A7 γ]]:=by intro _;rfl) (hy:∀γ,iN rs (xE γ i (mA 0)) pi=[.bk (B γ) t [U0 γ,U1 γ,U2 γ,U3 γ,U4 γ,U5 γ,U6 γ,U7 γ]]:=by intro _;rfl)
 (h:∀γ w K,w.frozen? ⟨B γ,0,none⟩=false->w.frozen? ⟨B γ,1,none⟩=false->w.frozen? ⟨B γ,2,none⟩=false->w.frozen? ⟨B γ,3,none⟩=false->w.frozen? ⟨B γ,4,none⟩=false->w.frozen? ⟨B γ,5,none⟩=false->w.frozen? ⟨B γ,6,none⟩=false->w.frozen? ⟨B γ,7,none⟩=false->
  w.cell? ⟨B γ,0,none⟩=some (A0 γ)->w.cell? ⟨B γ,1,none⟩=some (A1 γ)->w.cell? ⟨B γ,2,none⟩=some (A2 γ)->w.cell? ⟨B γ,3,none⟩=some (A3 γ)->w.cell? ⟨B γ,4,none⟩=some (A4 γ)->w.cell? ⟨B γ,5,none⟩=some (A5 γ)->w.cell? ⟨B γ,6,none⟩=some (A6 γ)->w.cell? ⟨B γ,7,none⟩=some (A7 γ)->B γ<w.heap.size->
  K ((Act.mk (Tf γ) D0).put o.dst (v.ev (xE γ i (mA 0)))) ((((((((w.setCell ⟨B γ,0,none⟩ (U0 γ)).setCell ⟨B γ,1,none⟩ (U1 γ)).setCell ⟨B γ,2,none⟩ (U2 γ)).setCell ⟨B γ,3,none⟩ (U3 γ)).setCell ⟨B γ,4,none⟩ (U4 γ)).setCell ⟨B γ,5,none⟩ (U5 γ)).setCell ⟨B γ,6,none⟩ (U6 γ)).setCell ⟨B γ,7,none⟩ (U7 γ))->
  if Region.wanted o (yielded ops (Act.mk (Tf γ) D0).tmps)=true then Oper.wp P o ⟨Tf γ,D0⟩ w K (λ_ _ _=>False) else K ((Act.mk (Tf γ) D0).put o.dst undef) w:=by intro γ w K f0 f1 f2 f3 f4 f5 f6 f7 a b c d e f g h z hK;go_simp;exact hK):sG P w0 X ops vs rs us D0 Tf i:=
 Q6 ci pi [] ho hv hc λγ w R K M hK=>by rw[bP,hx]at M;have q:=M.bl 0 rfl;exact h γ w K (q.frozen 0) (q.frozen 1) (q.frozen 2) (q.frozen 3) (q.frozen 4) (q.frozen 5) (q.frozen 6) (q.frozen 7) (q.cell 0) (q.cell 1) (q.cell 2) (q.cell 3) (q.cell 4) (q.cell 5) (q.cell 6) (q.cell 7) q.lt (hK (mA 0) _ (by rw[bP,hy];exact(((((((M.put 0 _).put 1 _).put 2 _).put 3 _).put 4 _).put 5 _).put 6 _).put 7 _))
theorem eB (ho:ops[i]?=some o:=by rfl) (hv:vs[i]?=some v:=by rfl) (hc:(iJ rs i,lr rs i,us.getD i [])=([],[],[]):=by kernel_rfl)
 (h:∀γ (w:World),(if Region.wanted o (yielded ops (Act.mk (Tf γ) D0).tmps) then (execOp (Act.mk (Tf γ) D0).eval o).run P w else Result.ok (.value undef) w)=Result.ok (.value (v.ev γ)) w:=by intro γ w;kernel_rfl):sG P w0 X ops vs rs us D0 Tf i:=aeH [] ho hv hc h rfl
end
section
variable {P:Program} {Q:Exit->Act->World->Prop} {next:Act->World->Prop} {a:Act} {w:World} {id j:Nat}
theorem dV (h:next a w):Exit.then next Q .normal a w:=h
theorem es (h:Q (.exit j) a w):Exit.then next Q (.exit j) a w:=h
theorem fI (h:Q .ret a w):Exit.then next Q .ret a w:=h
theorem fA (h:Q .normal a w):Exit.inBlock id Q .normal a w:=h
theorem fT (h:Q .normal a w):Exit.inBlock id Q (.exit id) a w:=by show (if id=id then _ else _);rw[aN rfl];exact h
theorem xt (h:Q .ret a w):Exit.inBlock id Q .ret a w:=h
theorem ez {c:Code} {n:Nat} (h:c.wp P (Exit.then (Code.rounds P c Q n) Q) a w):Code.rounds P c Q (n+1) a w:=h
theorem aeD {p:Nat->Prop}:∀n,p n->∃m,p m/\∀k,p k->m<=k:=by
 intro n
 induction n using Nat.strongRecOn with
 |ind n ih=>
  intro h;by_cases hx:∃k,k<n/\p k
  ·obtain⟨k,h1,h2⟩:=hx;exact ih k h1 h2
  ·refine⟨n,h,λk hk=>?_⟩;rcases cP k n with h1|h1
   ·exact absurd ⟨k,h1,hk⟩ hx
   ·exact h1
variable {w0:World} {X:List Nat} {T0:Array Value} {D0:List Deferred}
theorem Oq {ι:Type} {c:Code} (S:ι->(Nat->Value)->Array Value) (Φ:ι->Prop) (L:ι->List As) (μ:ι->Nat) (i0:ι) (hS:S i0 (λk=>T0.getD k undef)=T0) (h0:Φ i0) (M:Mem P w0 X w (L i0))
 (hr:∀i z w K,Φ i->Mem P w0 X w (L i)->(∀i' T' w',S i' (λk=>T'.getD k undef)=T'->Φ i'->μ i'<μ i->Mem P w0 X w' (L i')->K (Act.mk T' D0) w')->c.wp P (Exit.then K Q) ⟨S i z,D0⟩ w):(Code.loop c).wp P Q ⟨T0,D0⟩ w:=by
 let p:Act->World->Nat->Prop:=λa w n=>∃i z,a=⟨S i z,D0⟩/\Φ i/\Mem P w0 X w (L i)/\μ i=n
 have hp:∀a w,(∃n,p a w n)->∃m,p a w m/\∀k,p a w k->m<=k:=λa w ⟨n,h⟩=>aeD n h;obtain⟨f,hf⟩:∃f:Act->World->Nat,∀a w,(∃n,p a w n)->p a w (f a w)/\∀k,p a w k->f a w<=k:=
  ⟨λa w=>Classical.epsilon λm=>p a w m/\∀k,p a w k->m<=k,λa w h=>Classical.epsilon_spec (hp a w h)⟩
 refine wp_loop (λa w=>∃n,p a w n) f ⟨_,i0,_,by rw[hS],h0,M,rfl⟩ λa w hI=>?_;obtain⟨⟨i,z,rfl,h1,h2,h3⟩,_⟩:=hf a w hI;refine hr i z w _ h1 h2 λi' T' w' k1 k2 k3 k4=>?_;have hq:p ⟨T',D0⟩ w' (μ i'):=⟨i',_,by rw[k1],k2,k4,rfl⟩;refine⟨⟨_,hq⟩,?_⟩;have:=(hf _ _ ⟨_,hq⟩).2 _ hq;omega
theorem Y5 {ι:Type} {c:Code} {L0:List As} (_:Mem P w0 X w L0) (S:ι->(Nat->Value)->Array Value) (Φ:ι->Prop) (L:ι->List As)
 (h2:∀K:Act->World->Prop,(∀i T' w',S i (λk=>T'.getD k undef)=T'->Φ i->Mem P w0 X w' (L i)->K (Act.mk T' D0) w')->c.wp P (Exit.then K Q) ⟨T0,D0⟩ w)
 (h1:∀i z w,Φ i->Mem P w0 X w (L i)->Q .normal ⟨S i z,D0⟩ w):c.wp P Q ⟨T0,D0⟩ w:=by
 refine wp_mono (h2 (λa w=>∃i z,a=⟨S i z,D0⟩/\Φ i/\Mem P w0 X w (L i)) λi T' w' k1 k2 k3=>⟨i,_,by rw[k1],k2,k3⟩) ?_;intro e a' w' hq;cases e with
 |normal=>
  obtain⟨i,z,rfl,k2,k3⟩:=hq;exact h1 i z w' k2 k3
 |exit id=>exact hq
 |goto l=>exact hq
 |ret=>exact hq
 |panic ch=>exact hq
 |outgrown=>exact hq
end
def ja (n:Int):Str:=if n=0 then[48] else if n<0 then 45::xM n.natAbs n.natAbs [] else xM n.natAbs n.natAbs []
theorem Bv (d:Nat) (h:d<10):(List.drop d [48,49,50,51,52,53,54,55,56,57]).take 1=[(48:UInt8)+UInt8.ofNat d]:=by have:∀d:Fin 10,(List.drop d.val [48,49,50,51,52,53,54,55,56,57]).take 1=[(48:UInt8)+UInt8.ofNat d.val]:=dQ;exact this ⟨d,h⟩
theorem pj (n:Int) (w:World) (h0: -9223372036854775808<=n) (h1:n<=9223372036854775807):
 Calls prog 192 #[n] w λe w'=>e= .returned (sv (ja n))/\w=w':=by
 go_enter func192,ntmps192;go_wp2;go_loop [3,4] (λv i=>∃(x:Int) (s:Str),i= .int .i64 x/\v=sv s/\x.natAbs+2*s.length<=n.natAbs+1/\(x≠0->x.natAbs+2*s.length<=n.natAbs)/\xM n.natAbs n.natAbs []=xM x.natAbs x.natAbs s/\ -9223372036854775808<=x/\x<=9223372036854775807) (λ_ i=>(intOf i).natAbs)
 case atStart=>exact⟨n,[],rfl,rfl,by simp,by simp,rfl,h0,h1⟩
 case round=>
  obtain⟨x,s,rfl,rfl,hl,hl',Zx,hx0,qM⟩:=hrel;have TB:s.length<=4611686018427387905:=dP;have HD:=aa Zx;clear Zx;by_cases hx:x=0
  ·subst hx;by_cases hn:n=0
   ·subst hn;go_wp2;go_ret;exact⟨rfl,rfl⟩
   ·have hnb:(n==0)=false:=by simpa using hn
    go_wp2
    ·go_ret;exact⟨mK (by rw[ja,aH hn,aN dP,HD.out];rfl),rfl⟩
    ·go_ret;exact⟨mK (by rw[ja,aH hn,aH dP,HD.out];rfl),rfl⟩
  ·have hnb:(x != 0)=true:=oh;have xf:=hl' hx;clear hl';have e1:(x.tmod 10).natAbs=x.natAbs % 10:=by rw[Int.natAbs_tmod];rfl
   have e2:(x.tdiv 10).natAbs=x.natAbs/10:=by rw[Int.natAbs_tdiv];rfl
   have b1: -9<=x.tmod 10:=dP;have b2:x.tmod 10<=9:=dP;have b3: -9223372036854775808<=x.tdiv 10/\x.tdiv 10<=9223372036854775807:=dP;have b4:x.tdiv 10=0->x.natAbs<10:=dP;have HS:=aa (Du x.natAbs s dP);by_cases hneg:x.tmod 10<0
   ·have R_:(List.drop (-x.tmod 10).toNat [48,49,50,51,52,53,54,55,56,57]).take 1=[(48:UInt8)+UInt8.ofNat (x.natAbs % 10)]:=by rw[Bv _ dP];have:(-x.tmod 10).toNat=x.natAbs % 10:=dP;rw[this]
    have E1:=aa e1;have E2:=aa e2;have B4:=aa b4;have HDI:=aa R_;clear e1 e2 b4 R_;go_wp2;have ht:(-x.tmod 10+1).toNat - (-x.tmod 10).toNat=1:=dP;rw[ht,HDI.out];have e2:=E2.out;have b4:=B4.out;clear ht;go_round
    case rel=>exact⟨x.tdiv 10,(48+UInt8.ofNat (x.natAbs % 10))::s,rfl,rfl,by rw[bU];omega,by rw[bU];omega,by rw[HD.out,HS.out,e2],b3.1,b3.2⟩
    case measure=>simp only[intOf];omega
   ·have R_:(List.drop (x.tmod 10).toNat [48,49,50,51,52,53,54,55,56,57]).take 1=[(48:UInt8)+UInt8.ofNat (x.natAbs % 10)]:=by rw[Bv _ dP];have:(x.tmod 10).toNat=x.natAbs % 10:=dP;rw[this]
    have E1:=aa e1;have E2:=aa e2;have B4:=aa b4;have HDI:=aa R_;clear e1 e2 b4 R_;go_wp2;have ht:(x.tmod 10+1).toNat - (x.tmod 10).toNat=1:=dP;rw[ht,HDI.out];have e2:=E2.out;have b4:=B4.out;clear ht;go_round
    case rel=>exact⟨x.tdiv 10,(48+UInt8.ofNat (x.natAbs % 10))::s,rfl,rfl,by rw[bU];omega,by rw[bU];omega,by rw[HD.out,HS.out,e2],b3.1,b3.2⟩
    case measure=>simp only[intOf];omega
theorem oO (b:UInt8):(zq b).length=1:=rfl
theorem Dv (b:UInt8):∀u∈zq b,u.oneCell'=true:=by simp [zq,Value.oneCell']
theorem aaD:(prog.info? 5).map (λi=>(i.zero,i.size,i.bytes))=some (some (.int .u8 0),1,1):=dU
theorem acf:ElemTy prog 22 5 1 1:=by obtain⟨i0,hi,rJ,tW,hz2⟩:=cZ aaD;exact⟨i0,_,underlying22,hi,rJ,tW,hz2,rfl,by omega⟩
theorem VY {B n c g off:Nat} {l:List UInt8} (h:Reads zq 1 w B (some ⟨g,off,none⟩) n l):
 (convert 22 9 (.slice (some ⟨g,off,none⟩) n c)).run prog w= .ok (sv l) w:=by
 have hl:=h.len;subst hl;refine run_convert_bytes_back w _ _ 5 ⟨g,off,none⟩ c l underlying22 underlying5 underlying9 (λj hj=>?_);obtain⟨b,o,x,e,hb,hx,hc⟩:=h.at_ hj;injection e with e;injection e with e1 e2 e3;subst e1 e2
 have:=hc 0 _ rfl;rw[aw hj]at hx;injection hx with hx;subst hx
 by_cases hj0:j=0
 ·subst hj0;simpa [Addr.add]using this
 ·simpa [Addr.add,hj0]using this
theorem Own.frozen {α:Type} {enc:α->List Value} {s:Nat} {e:TypeId} {w:World} {base n c g:Nat} {l:List α} (h:Own enc s e w base (some ⟨g,0,none⟩) n c l) (i:Nat):w.frozen? ⟨g,i,none⟩=false:=h.fil.1.frozen i
theorem Vo (w:World) (b off:Nat) (y:UInt8) (h:w.cell? ⟨b,off,none⟩=some (.int .u8 y.toNat)):∀j u,(zq y)[j]?=some u->w.cell? ⟨b,off+j,none⟩=some u:=by
 intro j u hu
 match j,hu with
 |0,hu=>simp [zq]at hu;subst hu;exact h
 |j+1,hu=>simp [zq]at hu
def zI (L pq:List UInt8) (i j:Nat):Prop:=pq.length=L.length/\∀q,q<L.length->pq[q]?=if q<i\/j<q then L[L.length - 1 - q]? else L[q]?
theorem Ir (L:List UInt8):zI L L 0 (L.length - 1):=⟨rfl,λq hq=>by rw[aH dP]⟩
theorem MV (h:zI L pq i j) (hij:i+j+1=L.length) (hle:j<=i):pq=L.reverse:=by
 apply List.ext_getElem?;intro q;by_cases hq:q<L.length
 ·rw[h.2 q hq,List.getElem?_reverse hq];split
  ·rfl
  ·have:L.length - 1 - q=q:=dP;rw[this]
 ·rw[b_ (by rw[h.1];omega),b_ (by rw[List.length_reverse];omega)]
theorem K8 {x y:UInt8} (h:zI L pq i j) (hij:i+j+1=L.length) (hlt:i<j) (hx:pq[i]?=some x) (hy:pq[j]?=some y):zI L ((pq.set i y).set j x) (i+1) (j - 1):=by
 have hi:=h.2 i dP;have hj:=h.2 j dP;rw[aH dP,hx]at hi;rw[aH dP,hy]at hj;refine⟨by simp [h.1],λq hq=>?_⟩;have hl:=h.1;rw[List.getElem?_set,List.getElem?_set];by_cases e1:j=q
 ·subst e1;have:L.length - 1 - j=i:=dP;rw[aN rfl,aN dS,aN dP,this,hi]
 ·rw[aH e1];by_cases e2:i=q
  ·subst e2;have:L.length - 1 - i=j:=dP;rw[aN rfl,aN dP,aN dP,this,hj]
  ·rw[aH e2,h.2 q hq];by_cases e3:q<i\/j<q
   ·rw[aN e3,aN dP]
   ·rw[aH e3,aH dP]
def fiR (w:World) (n:Int) (v0 v3:Value) (wr:World):Prop:=∃(x:Int) (A:Option Addr) (k c:Nat) (l:List UInt8),v0= .int .i64 x/\v3= .slice A k c/\Own zq 1 5 wr w.heap.size A k c l/\
 xM n.natAbs n.natAbs []=xM x.natAbs x.natAbs l.reverse/\ -9223372036854775808<=x/\x<=9223372036854775807/\Below w.heap.size w wr/\(x≠0->x.natAbs*10 ^ k<=n.natAbs)/\k<=19/\(x=0->0<k)
theorem SV (h:x*10 ^ k<=m) (hx:x≠0) (hm:m<=9223372036854775808):k<=18:=by
 rcases cP k 19 with h1|h1
 ·omega
 ·have:=Nat.pow_le_pow_right (n:=10) dP h1;have h2:10 ^ k<=x*10 ^ k:=Nat.le_mul_of_pos_left _ dP;have h3:(10:Nat) ^ 19=10000000000000000000:=dQ;omega
theorem T7 (d:Nat) (h:d<10):(((48:UInt8)+UInt8.ofNat d).toNat:Int)=48+d:=by have:∀d:Fin 10,(((48:UInt8)+UInt8.ofNat d.val).toNat:Int)=48+(d.val:Int):=dQ;exact this ⟨d,h⟩
theorem NN (h:x*10 ^ k<=m):x/10*10 ^ (k+1)<=m:=by
 have h1:x/10*10<=x:=Nat.div_mul_le_self x 10;have h2:x/10*10 ^ (k+1)=x/10*10*10 ^ k:=by rw[Nat.pow_succ,Nat.mul_assoc,Nat.mul_comm 10]
 rw[h2];exact du (dd _ h1) h
def fiC (w:World) (n:Int) (s3:Value) (wx:World):Prop:=∃(g c m:Nat) (L:List UInt8),s3= .slice (some ⟨g,0,none⟩) m c/\Own zq 1 5 wx w.heap.size (some ⟨g,0,none⟩) m c L/\Below w.heap.size w wx/\L.reverse=ja n/\0<m/\m<=20
theorem oX (n:Int) (w:World) (h0: -9223372036854775808<=n) (h1:n<=9223372036854775807):
 Calls prog 193 #[n] w λe w'=>e= .returned (sv (ja n))/\Below w.heap.size w w':=by
 by_cases WC:n=0
 ·subst WC;go_enter func193,ntmps193;go_wp2;go_ret;exact⟨rfl,Below.refl _ _⟩
 have hnb:(n==0)=false:=by simpa using WC
 go_enter func193,ntmps193;go_wp2;go_loopw [0,3] (λv0 v3 wr=>fiR w n v0 v3 wr) (λv0 _ _=>(intOf v0).natAbs)
 case atStart=>exact⟨n,none,0,0,[],rfl,rfl,Own.nil_,rfl,h0,h1,Below.refl _ _,λ_=>by simp,by omega,λh=>absurd h WC⟩
 case round=>
  obtain⟨x,A,k,c,l,rfl,rfl,ho,Zx,hx0,qM,hb,hpw,hk,XQ⟩:=hrel;have gK:=ho.len;have HD:=aa Zx;clear Zx;by_cases hx:x=0
  ·subst hx;have Sk:=XQ rfl;clear hpw XQ;have hD0:xM n.natAbs n.natAbs []=l.reverse:=HD.out;obtain⟨g,rfl⟩:∃g,A=some ⟨g,0,none⟩:=by
    rcases ho.cases with h|h
    ·omega
    ·exact h
   have H0:=aa hD0;clear HD hD0;go_upto_if 28 with fail
   go_cut [3,4] (λs3 _ wx=>fiC w n s3 wx)
   case first=>
    go_wp2_with (first|(at_builtin;refine v_ zq acf oO Dv rfl _ _ rfl w.heap.size _ k c _ rfl (ho.alloc _) 45 _ 0 1 rfl (Vo _ _ _ _ ?_) ?_ ?_ ?_ ?_;(exact Blk.new'.cell 0);(omega);(unfold maxLen;omega);(have:=hb.size;simp;omega);intro g1 c1 w1 Hz hg1 hb1 adA))
    ·have hneg:n<0:=lg;go_meet;exact⟨g1,c1,k+1,l++[45],rfl,Hz,(hb.alloc hb.size _).trans hb1,by rw[List.reverse_append,<-H0.out,ja,aH WC,aN hneg];rfl,by omega,by omega⟩
    ·have hneg:¬n<0:=dP;go_meet;exact⟨g,c,k,l,rfl,ho,hb,by rw[<-H0.out,ja,aH WC,aH dP],Sk,by omega⟩
   case rest=>
    obtain⟨g2,c2,m,L,rfl,ho2,jS,hL,Pt,DJ⟩:=hcut;obtain⟨W,hW⟩:∃W:World,W=wc:=⟨_,rfl⟩;subst hW;have hm:=ho2.len;go_wp2_with fail;go_loopw [6,7] (λv6 v7 wr=>∃(i j:Nat) (pq:List UInt8),v6= .int .i64 i/\v7= .int .i64 j/\i+j+1=m/\i<=j+1/\Own zq 1 5 wr w.heap.size (some ⟨g2,0,none⟩) m c2 pq/\zI L pq i j/\Below w.heap.size w wr) (λv6 _ _=>m - (intOf v6).toNat)
    case atStart=>
     have TC:=Ir L;rw[hm]at TC;exact⟨0,m - 1,L,rfl,by go_num,by omega,by omega,ho2,TC,jS⟩
    case round=>
     clear ho2 jS ho hb;obtain⟨i,j,pq,rfl,rfl,hij,hle,ho,hhw,hb⟩:=hrel;by_cases hlt:i<j
     ·have K9:=ho.len;obtain⟨x,hx⟩:∃x,pq[i]?=some x:=⟨pq[i]' dP,by simp⟩;obtain⟨y,hy⟩:∃y,pq[j]?=some y:=⟨pq[j]' dP,by simp⟩;obtain⟨b1,o1,x1,ee,hb1,qM,hc1⟩:=(ho.reads oO).at_ (k:=i) dP;injection ee with ee;injection ee with e1 e2 e3;subst e1 e2
      obtain⟨b1,o1,y1,ee,hb1,WF,Jy⟩:=(ho.reads oO).at_ (k:=j) dP;injection ee with ee;injection ee with e1 e2 e3;subst e1 e2
      have k1:=hc1 0 _ rfl;have k2:=Jy 0 _ rfl;simp only[bI,cu,cF]at k1 k2;rw[hx]at qM;injection qM with qM;subst qM
      rw[hy]at WF;injection WF with WF;subst WF
      have him:i<m:=dP;have hjm:j<m:=dP;have hf1:wr.frozen? ⟨g2,i,none⟩=false:=ho.frozen i;have hf2:wr.frozen? ⟨g2,j,none⟩=false:=ho.frozen j;have jC:¬i=j:=dP;have Sl:¬j=i:=dP;clear hc1 Jy;go_upto_region 16 with fail
      go_region;have s1:=ho.set_ oO i 0 x y (.int .u8 y.toNat) hx dP rfl;have s2:=s1.set_ oO j 0 y x (.int .u8 x.toNat) (by rw[List.getElem?_set_ne jC];exact hy) dP rfl;simp only[cu,cF]at s2;have t2:=jR (ie (p:=⟨g2,j,none⟩) (u:= .int .u8 x.toNat) (ie (p:=⟨g2,i,none⟩) (u:= .int .u8 y.toNat) hb ho.lt.1) ho.lt.1);have TC:=K8 hhw dP hlt hx hy;have S2:=aa s2;have HST:=aa TC;clear s1 s2 TC hx hy hhw;go_wp2;refine⟨⟨i+1,j - 1,(pq.set i y).set j x,by go_num,?_,by omega,by omega,S2.out,HST.out,t2⟩,?_⟩
      ·have:((j - 1:Nat):Int)=(j:Int) - 1:=dP;rw[this]
      ·simp only[intOf];omega
     ·have hL2:=MV hhw dP dP;obtain⟨b1,o1,x1,ee,hb1,qM,hc1⟩:=(ho.reads oO).at_ (k:=i) dP;have AA:=λ(c:Nat)=>VY (c:=c) (ho.reads oO);have Ts:=aa hL2;clear hL2 hc1 qM ee;go_wp2;go_ret;exact⟨mK (by rw[Ts.out,hL]),hb⟩
  ·have hnb':(x != 0)=true:=oh;have hp1:=hpw hx;have hk18:=SV hp1 dP dP;clear hpw XQ;have e1:(x.tmod 10).natAbs=x.natAbs % 10:=by rw[Int.natAbs_tmod];rfl
   have e2:(x.tdiv 10).natAbs=x.natAbs/10:=by rw[Int.natAbs_tdiv];rfl
   have b1: -9<=x.tmod 10:=dP;have b2:x.tmod 10<=9:=dP;have b3: -9223372036854775808<=x.tdiv 10/\x.tdiv 10<=9223372036854775807:=dP;have HS:=aa (Du x.natAbs l.reverse dP);have HP:=aa hp1;have E1:=aa e1;have E2:=aa e2;clear hp1 e1 e2;by_cases hneg:x.tmod 10<0
   ·have R_:(48:Int)+ -x.tmod 10=(((48:UInt8)+UInt8.ofNat (x.natAbs % 10)).toNat:Int):=by rw[T7 _ dP];have:=E1.out;omega
    have HDI:=aa R_;clear R_;go_wp2_with (first|(at_builtin;refine v_ zq acf oO Dv rfl _ _ rfl w.heap.size _ k c _ rfl (ho.alloc _) (48+UInt8.ofNat (x.natAbs % 10)) _ 0 1 rfl (Vo _ _ _ _ ?_) ?_ ?_ ?_ ?_;(rw[<-HDI.out];exact Blk.new'.cell 0);(omega);(unfold maxLen;omega);(have:=hb.size;simp;omega);intro g1 c1 w1 Hz hg1 hb1 adA));go_roundw
    case rel=>exact⟨x.tdiv 10,some ⟨g1,0,none⟩,k+1,c1,l++[48+UInt8.ofNat (x.natAbs % 10)],rfl,rfl,Hz,by rw[HD.out,HS.out,List.reverse_append,E2.out];rfl,b3.1,b3.2,(hb.alloc hb.size _).trans hb1,λ_=>by rw[E2.out];exact NN HP.out,by omega,λ_=>by omega⟩
    case measure=>simp only[intOf];have:=E2.out;omega
   ·have R_:(48:Int)+x.tmod 10=(((48:UInt8)+UInt8.ofNat (x.natAbs % 10)).toNat:Int):=by rw[T7 _ dP];have:=E1.out;omega
    have HDI:=aa R_;clear R_;go_wp2_with (first|(at_builtin;refine v_ zq acf oO Dv rfl _ _ rfl w.heap.size _ k c _ rfl (ho.alloc _) (48+UInt8.ofNat (x.natAbs % 10)) _ 0 1 rfl (Vo _ _ _ _ ?_) ?_ ?_ ?_ ?_;(rw[<-HDI.out];exact Blk.new'.cell 0);(omega);(unfold maxLen;omega);(have:=hb.size;simp;omega);intro g1 c1 w1 Hz hg1 hb1 adA));go_roundw
    case rel=>exact⟨x.tdiv 10,some ⟨g1,0,none⟩,k+1,c1,l++[48+UInt8.ofNat (x.natAbs % 10)],rfl,rfl,Hz,by rw[HD.out,HS.out,List.reverse_append,E2.out];rfl,b3.1,b3.2,(hb.alloc hb.size _).trans hb1,λ_=>by rw[E2.out];exact NN HP.out,by omega,λ_=>by omega⟩
    case measure=>simp only[intOf];have:=E2.out;omega
def hx (n:Nat):UInt8:=([48,49,50,51,52,53,54,55,56,57,97,98,99,100,101,102]:List UInt8)[n]?.getD 48
theorem wP (n:Int):(ja n).length<=n.natAbs+1:=by
 have dl:∀(f k:Nat) (s:Str),(xM f k s).length<=f+s.length:=by
  intro f
  induction f with
  |zero=>intro k s;simp [xM]
  |succ f ih=>
   intro k s;rw[xM];split
   ·omega
   ·have:=ih (k/10) ((48+UInt8.ofNat (k % 10))::s);rw[bU]at this;omega
 unfold ja;have:=dl n.natAbs n.natAbs [];simp only[bf]at this;split
 ·simp
 ·split
  ·rw[bU];omega
  ·omega
def qq (x:Item):Str:=if eI x then[78,65] else if nZ x then (if x.den=1 then ja x.num else ja x.num++([47]++ja x.den)) else[]
theorem vw {x:Item} (h:nZ x=true):(1<=x.den/\x.den<=999999999)/\ -999999999<=x.num/\x.num<=999999999:=by simp [nZ]at h;omega
theorem JH (a d:Int) (t:Str):(a=0/\d=0/\t=[])\/(¬a=0/\eI ⟨a,d,t⟩=false)\/(a=0/\¬d=0/\eI ⟨a,d,t⟩=false)\/(a=0/\d=0/\¬t=[]/\eI ⟨a,d,t⟩=false):=by
 by_cases h1:a=0
 ·by_cases h2:d=0
  ·by_cases h3:t=[]
   ·exact .inl ⟨h1,h2,h3⟩
   ·exact .inr (.inr (.inr ⟨h1,h2,h3,by simp [eI,h3]⟩))
  ·exact .inr (.inr (.inl ⟨h1,h2,by simp [eI,h2]⟩))
 ·exact .inr (.inl ⟨h1,by simp [eI,h1]⟩)
theorem vX (x:Item) (w:World):Calls prog 187 #[Me x] w λe w'=>e= .returned (sv (qq x))/\Below w.heap.size w w':=by
 obtain⟨a,d,t⟩:=x;have q0:=(Below.refl w.heap.size w).alloc (af _) (.cells #[a,d,sv t] 135);have HF:=aa (show qq ⟨a,d,t⟩=if eI ⟨a,d,t⟩ then[78,65] else if nZ ⟨a,d,t⟩ then (if d=1 then ja a else ja a++([47]++ja d)) else[] from rfl);have HN:=aa (λh=>vw (x:=⟨a,d,t⟩) h);rcases JH a d t with ⟨rfl,rfl,rfl⟩|⟨ha,hm⟩|⟨rfl,ha,hm⟩|⟨rfl,rfl,ha,hm⟩
 ·go_enter func187,ntmps187;go_wp2_with fail;go_ret;exact⟨mK (by rw[HF.out];rfl),q0⟩
 all_goals
  have HM:=aa hm;clear hm;go_enter func187,ntmps187;go_wp2_with fail;refine(tj ⟨_,_,_⟩ _).mono ?_;rintro e w1 ⟨rfl,hb1⟩;obtain⟨hc1,hf1⟩:=fY hb1;have tW:=hb1.size;simp only[dT]at hc1 hf1 tW;generalize hN:nZ _=b at HF ⊢;have HM:=HM.out;cases b with
  |false=>
   have HN0:=aa hN;clear hN;go_wp2_with fail;go_ret;exact⟨mK (by rw[HF.out,HM];rfl),ij q0 hb1⟩
  |true=>
   obtain⟨⟨d0,d1⟩,n0,n1⟩:=HN.out hN
   (try simp only at d0 d1 n0 n1)
   first
    |(exfalso;omega)
    |skip
   all_goals
    have HN0:=aa hN;clear hN;have HM0:=aa HM;clear HM;have l1:(ja d).length<=1000000000:=by have:=wP d;omega
    first|(have l2:(ja a).length<=1000000000:=by have:=wP a;omega)|(have l2:(ja 0).length<=1000000000:=by have:=wP 0;omega)
    cases hd:(d==1) with
    |true=>
     go_wp2_with (go_at_call 192;((with_reducible refine(pj _ _ dP dP).mono ?_);rintro e w2 ⟨rfl,rfl⟩));go_ret;exact⟨mK B8,ij q0 hb1⟩
    |false=>
     go_upto_region 7 with fail
     first
      |((have i1:¬9223372036854775807<(ja a).length+1:=dP);(have i2:¬9223372036854775807<(ja a).length+((ja d).length+1):=dP);(have i3:¬9223372036854775807<(ja a).length+1+(ja d).length:=dP);(have i4:¬9223372036854775807<(ja a).length+(1+(ja d).length):=dP))
      |((have i1:¬9223372036854775807<(ja 0).length+1:=dP);(have i2:¬9223372036854775807<(ja 0).length+((ja d).length+1):=dP);(have i3:¬9223372036854775807<(ja 0).length+1+(ja d).length:=dP);(have i4:¬9223372036854775807<(ja 0).length+(1+(ja d).length):=dP))
     first
      |(go_region_held3 (λW=>W.cell? ⟨w.heap.size,0,none⟩=some (.int .i64 a)/\W.cell? ⟨w.heap.size,1,none⟩=some (.int .i64 d)) (first|go_keep|(refine⟨?_,?_⟩<;>(first|((try rw[hc2 _ _ dP]);(try rw[hc1 _ _ dP]);go_keep)))) (first|(go_at_call 192;refine(pj _ _ ?_ ?_).mono ?_;(omega);(omega);rintro e w2 ⟨rfl,rfl⟩)))
      |(go_region_held3 (λW=>W.cell? ⟨w.heap.size,0,none⟩=some (.int .i64 0)/\W.cell? ⟨w.heap.size,1,none⟩=some (.int .i64 d)) (first|go_keep|(refine⟨?_,?_⟩<;>(first|((try rw[hc2 _ _ dP]);(try rw[hc1 _ _ dP]);go_keep)))) (first|(go_at_call 192;refine(pj _ _ ?_ ?_).mono ?_;(omega);(omega);rintro e w2 ⟨rfl,rfl⟩)))
     all_goals
      go_wp2_with fail;go_ret;refine⟨mK BR,?_⟩;have q1:=ij q0 hb1
      (repeat'(first|with_reducible assumption|with_reducible exact Below.refl _ _|with_reducible refine jR ?_|with_reducible refine gT ?_ ?_|with_reducible refine ie ?_ ?_|with_reducible refine gR ?_ dY ?_|((try simp only[dW,dT,dX]);omega)))
theorem vr (x:Item) (w:World):Calls prog 191 #[Me x] w λe w'=>e= .returned (sv (qq x))/\Below w.heap.size w w':=by
 obtain⟨a,d,t⟩:=x;have q0:=(Below.refl w.heap.size w).alloc (af _) (.cells #[a,d,sv t] 135);have HF:=aa (show qq ⟨a,d,t⟩=if eI ⟨a,d,t⟩ then[78,65] else if nZ ⟨a,d,t⟩ then (if d=1 then ja a else ja a++([47]++ja d)) else[] from rfl);have HN:=aa (λh=>vw (x:=⟨a,d,t⟩) h);rcases JH a d t with ⟨rfl,rfl,rfl⟩|⟨ha,hm⟩|⟨rfl,ha,hm⟩|⟨rfl,rfl,ha,hm⟩
 ·go_enter func191,ntmps191;go_wp2_with fail;go_ret;exact⟨mK (by rw[HF.out];rfl),q0⟩
 all_goals
  have HM:=aa hm;clear hm;go_enter func191,ntmps191;go_wp2_with fail;refine(pA ⟨_,_,_⟩ _).mono ?_;rintro e w1 ⟨rfl,hb1⟩;obtain⟨hc1,hf1⟩:=fY hb1;have tW:=hb1.size;simp only[dT]at hc1 hf1 tW;generalize hN:nZ _=b at HF ⊢;have HM:=HM.out;cases b with
  |false=>
   have HN0:=aa hN;clear hN;go_wp2_with fail;go_ret;exact⟨mK (by rw[HF.out,HM];rfl),ij q0 hb1⟩
  |true=>
   obtain⟨⟨d0,d1⟩,n0,n1⟩:=HN.out hN
   (try simp only at d0 d1 n0 n1)
   first
    |(exfalso;omega)
    |skip
   all_goals
    have HN0:=aa hN;clear hN;have HM0:=aa HM;clear HM;have l1:(ja d).length<=1000000000:=by have:=wP d;omega
    first|(have l2:(ja a).length<=1000000000:=by have:=wP a;omega)|(have l2:(ja 0).length<=1000000000:=by have:=wP 0;omega)
    cases hd:(d==1) with
    |true=>
     go_wp2_with (go_at_call 193;((with_reducible refine(oX _ _ dP dP).mono ?_);rintro e w2 ⟨rfl,jS⟩));go_ret;exact⟨mK B8,ij (ij q0 hb1) jS⟩
    |false=>
     go_upto_region 7 with fail
     first
      |((have i1:¬9223372036854775807<(ja a).length+1:=dP);(have i2:¬9223372036854775807<(ja a).length+((ja d).length+1):=dP);(have i3:¬9223372036854775807<(ja a).length+1+(ja d).length:=dP);(have i4:¬9223372036854775807<(ja a).length+(1+(ja d).length):=dP))
      |((have i1:¬9223372036854775807<(ja 0).length+1:=dP);(have i2:¬9223372036854775807<(ja 0).length+((ja d).length+1):=dP);(have i3:¬9223372036854775807<(ja 0).length+1+(ja d).length:=dP);(have i4:¬9223372036854775807<(ja 0).length+(1+(ja d).length):=dP))
     first
      |(go_region_held3 (λW=>W.cell? ⟨w.heap.size,0,none⟩=some (.int .i64 a)/\W.cell? ⟨w.heap.size,1,none⟩=some (.int .i64 d)) (first|go_keep|(refine⟨?_,?_⟩<;>(first|((try rw[hc2 _ _ dP]);(try rw[hc1 _ _ dP]);go_keep)))) (first|(go_at_call 193;refine(oX _ _ ?_ ?_).mono ?_;(omega);(omega);rintro e w2 ⟨rfl,jS⟩;obtain⟨hc2,hf2⟩:=fY jS;have hz2:=jS.size;(try simp only[dW]at hc2 hf2 hz2))))
      |(go_region_held3 (λW=>W.cell? ⟨w.heap.size,0,none⟩=some (.int .i64 0)/\W.cell? ⟨w.heap.size,1,none⟩=some (.int .i64 d)) (first|go_keep|(refine⟨?_,?_⟩<;>(first|((try rw[hc2 _ _ dP]);(try rw[hc1 _ _ dP]);go_keep)))) (first|(go_at_call 193;refine(oX _ _ ?_ ?_).mono ?_;(omega);(omega);rintro e w2 ⟨rfl,jS⟩;obtain⟨hc2,hf2⟩:=fY jS;have hz2:=jS.size;(try simp only[dW]at hc2 hf2 hz2))))
     all_goals
      go_wp2_with fail;go_ret;refine⟨mK BR,?_⟩;have q1:=ij q0 hb1
      (repeat'(first|with_reducible assumption|with_reducible exact Below.refl _ _|with_reducible refine jR ?_|with_reducible refine gT ?_ ?_|with_reducible refine ie ?_ ?_|with_reducible refine gR ?_ dY ?_|((try simp only[dW,dT,dX]);omega)))
def ZT (l:List Str) (k:Nat):Str:=(l[k]?).getD []
def sN (s:Str):Item:=⟨0,1,s⟩
def iA (l:List Str):Vec:=⟨3,l.map sN,[],[],[],[],0,0⟩
theorem le:(Lit.int .i64 0).wf=true:=dQ
theorem wf1:(Lit.int .i64 1).wf=true:=dQ
theorem Wa:(Lit.int .i64 3).wf=true:=dQ
theorem pm (s:Str) (w:World):Calls prog 158 #[sv s] w λe w'=>e= .returned (.agg #[.int .i64 0,.int .i64 1,sv s])/\Below w.heap.size w w':=by go_enter func158,ntmps158;go_wp2_with fail;exact bM (v:= .agg #[.int .i64 0,.int .i64 1,sv s]) (by simp [results,results158,go_sem]) rfl ⟨rfl,(Below.refl _ _).alloc (af _) _⟩
theorem t9 (s:Str) (w:World):Calls prog 168 #[sv s] w λe w'=>e= .returned (.agg #[.int .i64 0,.int .i64 1,sv s])/\Below w.heap.size w w':=by go_enter func168,ntmps168;go_wp2_with fail;exact bM (v:= .agg #[.int .i64 0,.int .i64 1,sv s]) (by simp [results,results168,go_sem]) rfl ⟨rfl,(Below.refl _ _).alloc (af _) _⟩
abbrev Bj:List Value:=[.int .i64 0,.slice none 0 0,.slice none 0 0,.slice none 0 0,.slice none 0 0,.slice none 0 0,.int .i64 0,.int .i64 0]
def tvL (l:List Str) (w:World) (n:Nat) (i:Value) (wr:World):Prop:=∃(k:Nat) (Ao:Option Addr) (co:Nat) (FP:List Nat),k<=n/\i= .int .i64 k/\
 Blk wr (w.heap.size+1) 38 [.int .i64 3,.slice Ao k co,(),(),(),(),.int .i64 0,.int .i64 0]/\Blk wr w.heap.size 38 Bj/\
 own prog wr (.sl ((l.take k).map λs=>(sN s).toD)) 35 FP [.slice Ao k co]/\Fresh (w.heap.size+2) FP/\Below w.heap.size w wr
theorem Rd {x:Str} (h:x.length<=60):own prog w (sN x).toD 135 [] [.int .i64 0,.int .i64 1,sv x]:=Ey (sN x) ⟨le,wf1,by unfold maxLen sN;simp only;omega⟩ rfl
theorem xS (l:List Str) (A:Option Addr) (n c:Nat) (w:World) (hr:Reads encS 1 w w.heap.size A n l) (hn:(n:Int)<=40) (hl:∀x∈l,x.length<=60):
 Calls prog 113 #[.slice A n c] w (gM (iA l).toD 38 w):=by
 have acZ:=aa hr.len;have q0:=((Below.refl w.heap.size w).alloc (af _) (.cells Bj.toArray 38)).alloc eA (.cells #[.int .i64 3,(),(),(),(),(),.int .i64 0,.int .i64 0] 38);have k0:Blk (w.alloc (.cells Bj.toArray 38)) w.heap.size 38 Bj:=Blk.new';have k1:Blk ((w.alloc (.cells Bj.toArray 38)).alloc (.cells #[.int .i64 3,(),(),(),(),(),.int .i64 0,.int .i64 0] 38)) (w.heap.size+1) 38 [.int .i64 3,(),(),(),(),(),.int .i64 0,.int .i64 0]:=Gv;have HL:=aa hl;clear hl;go_enter func113,ntmps113;go_wp2_with fail;go_loopw [13] (λi wr=>tvL l w n i wr) (λi _=>n - (intOf i).toNat)
 case atStart=>exact⟨0,none,0,[],by omega,rfl,k1,k0.al,by rw[cL];exact o_ underlying35,Fresh.nil,q0⟩
 case round=>
  clear k0 k1 q0;obtain⟨k,Ao,co,FP,hk,rfl,kg,kz,oP,fr,bb⟩:=hrel;have z0:=kg.lt;by_cases hlt:k<n
  ·obtain⟨b,off,x,rfl,hb,hx,hc⟩:=(hr.below bb).at_ hlt;have h0:=hc 0 _ rfl;simp only[cu,cF]at h0;have abJ:=HL.out x (aA hx);have TD:¬(60:Int)<x.length:=dP;have HX:=aa (eJ hx);clear hc hx;have eg:=kg.cell 1;simp only[ah,ag]at eg;have zf:=kg.frozen 1;have lP:=gC oP;go_upto_region 9 with fail
   go_region_law (first
    |(go_simp;go_at_call 158;refine(pm x _).mono ?_;rintro e w1 ⟨rfl,hb1⟩;obtain⟨hc1,hf1⟩:=fY hb1;have z1:=hb1.size;(try simp only[dW,dT,dX]at hc1 hf1 z1);have yg:w.heap.size+1<w1.heap.size:=by omega)
    |(refine gL (A:=Ao) (n:=k) (c:=co) (b:=w1.heap.size) (m:=1) (xs:=(l.take k).map λs=>(sN s).toD) (F:=FP) (d:=(sN x).toD) (F':=[]) (te:=135) (cs:=[.int .i64 0,.int .i64 1,sv x]) kM ?_ ?_ (.tmp 22) (.tmp 25) ?_ ?_ ?_ ?_ ?_ ?_ ?_ ?_ ?_ ?_ ?_;(kernel_rfl);(rfl);(rfl);(rfl);(focus (repeat'(first|with_reducible assumption|with_reducible refine gX ?_|with_reducible refine fK ?_|with_reducible refine ft ?_ ?_|with_reducible exact fS|with_reducible refine fR ?_ ?_|(with_reducible refine Fresh.notin dY ?_;((try simp only[dW,dT,dX]);omega))|(with_reducible refine Lo.notin dY ?_;((try simp only[dW,dT,dX]);omega))|with_reducible refine em ?_ dY)));(rfl);(focus (repeat'(first|with_reducible assumption|with_reducible exact Blk.new'|with_reducible exact Blk.newd|with_reducible apply Blk.set8|(with_reducible refine Blk.pk ?_ ?_;((try simp only[dW,dT,dX]);omega))|with_reducible refine Blk.dw ?_|with_reducible refine Blk.al ?_|with_reducible refine Blk.next ?_ dY)));(exact Rd abJ);(rfl);(rw[bP];exact fr.1);(unfold maxLen;omega);(omega);intro gg cc w2 Ku TG KD rN;have kg2:=Blk.mod (t:=38) (cs:=[.int .i64 3,.slice Ao k co,.slice none 0 0,.slice none 0 0,.slice none 0 0,.slice none 0 0,.int .i64 0,.int .i64 0]) (g:=w.heap.size+1) (by(repeat'(first|with_reducible assumption|with_reducible exact Blk.new'|with_reducible exact Blk.newd|with_reducible apply Blk.set8|(with_reducible refine Blk.pk ?_ ?_;((try simp only[dW,dT,dX]);omega))|with_reducible refine Blk.dw ?_|with_reducible refine Blk.al ?_|with_reducible refine Blk.next ?_ dY))) rN (fr.notin dP);have eg2:=kg2.cell 1;(simp only[ah,ag]at eg2);have zf2:=kg2.frozen 1))
   all_goals
    go_wp2_with fail;go_roundw
    case rel=>
     have z2:=rN.size;simp only[dW,dT,dX]at z2;have ng:w.heap.size+1 ∉ Ku:=KD.notin (C:=w.heap.size+2) (fr.notin dP) dR dP (by((try simp only[dW,dT,dX]);omega));refine⟨k+1,some ⟨gg,0,none⟩,cc,Ku,by omega,by go_num,kg2.set_ 1 _,?_,?_,?_,?_⟩
     ·exact GY
     ·exact yK
     ·exact Gx
     ·exact Hh
    case measure=>simp [intOf];omega
  ·obtain rfl:k=n:=dP;obtain⟨r0,r1,r2,r3,r4,r5,r6,r7⟩:=kz.c8;have Cz:w.heap.size<wr.heap.size:=dP;obtain⟨e0,e1,e2,e3,e4,e5,e6,e7⟩:=kg.c8;have zr:=λi=>kz.frozen i;have Tq:=zr 0;have zr1:=zr 1;have zr2:=zr 2;have zr3:=zr 3;have zr4:=zr 4;have zr5:=zr 5;have zr6:=zr 6;have zr7:=zr 7;clear zr;go_wp2_with fail;rw[aC su]at oP;refine bM (v:= .agg #[.int .i64 3,.slice Ao k co,(),(),(),(),.int .i64 0,.int .i64 0]) (by simp [results,results113,go_sem,r0,r1,r2,r3,r4,r5,r6,r7,Cz]) rfl ⟨_,FP++([]++([]++([]++([]++[])))),rfl,?_,?_,?_⟩
   ·refine jD (x:=iA l) Wa ?_ (o_ underlying36) (o_ underlying25) (o_ underlying25) (o_ underlying25) le le;have e9:(iA l).items.map Item.toD=l.map λs=>(sN s).toD:=by simp [iA,Function.comp_def]
    rw[e9];have lo:=gC oP;have fn:w.heap.size ∉ FP:=fr.notin dP;repeat'(first|with_reducible assumption|with_reducible refine ft ?_ ?_)
   ·simpa using fr.mono dP
   ·exact mg
def CD (b2 b5 b8 b9 Jc Ht Jd Hu Je Hv Dk:Bool):Array Bool:=#[true,true,b2,true,true,b5,true,true,b8,b9,true,true,Jc,Ht,true,true,Jd,Hu,true,true,Je,true,true,true,true,Hv,Dk]
def lcI (ps:List Vec) (v:Vec) (Ai:Option Addr) (ni ci:Nat) (Ap:Option Addr) (np cp:Nat) (An:Option Addr) (nn cn:Nat) (Ac:Option Addr) (nc cc:Nat) (Al:Option Addr) (nl cl:Nat) (w W0:World) (l:Array Bool) (a:Act) (wx:World):Prop:=∃(b2 b5 b8 b9 Jc Ht Jd Hu Je Hv Dk:Bool) (u5 u8 LP Tl OH Tm OI Tn OJ Qn:Value) (F1 F2 F3 F4 F5:List Nat),
 (l=CD b2 b5 b8 b9 Jc Ht Jd Hu Je Hv Dk/\a=⟨#[av (vc v Ai ni ci Ap np cp An nn cn Ac nc cc Al nl cl),.pointer (some ⟨w.heap.size,0,none⟩),.pointer (some ⟨w.heap.size+1,0,none⟩),.pointer (some ⟨w.heap.size,0,none⟩),.int .i64 v.kind,u5,.pointer (some ⟨w.heap.size,1,none⟩),.slice Ai ni ci,u8,.pointer (some ⟨w.heap.size,2,none⟩),.slice Ap np cp,LP,Tl,.pointer (some ⟨w.heap.size,3,none⟩),.slice An nn cn,OH,Tm,.pointer (some ⟨w.heap.size,4,none⟩),.slice Ac nc cc,OI,Tn,.pointer (some ⟨w.heap.size,5,none⟩),.slice Al nl cl,OJ,.pointer (some ⟨w.heap.size,6,none⟩),.int .i64 v.code,.pointer (some ⟨w.heap.size,7,none⟩),.int .i64 v.env,Qn],[]⟩)/\(Blk wx w.heap.size 38 [v.kind,.slice Ai ni ci,.slice Ap np cp,.slice An nn cn,.slice Ac nc cc,.slice Al nl cl,v.code,v.env]/\Blk wx (w.heap.size+1) 38 (if Dk then[.int .i64 v.kind,u8,LP,OH,OI,OJ,.int .i64 v.code,.int .i64 v.env] else Bj)/\Below w.heap.size w wx/\w.heap.size+2<=wx.heap.size)/\
 (pr prog wx (v.items.map Item.toD) 35 b2 b5 u5 u8 F1/\sg prog wx (.sl (ps.map Vec.toD)) 36 b8 LP F2/\pr prog wx (v.names.map .s) 25 b9 Jc Tl OH F3/\pr prog wx (v.cls.map .s) 25 Ht Jd Tm OI F4/\pr prog wx (v.levels.map .s) 25 Hu Je Tn OJ F5)/\
 (Fresh (w.heap.size+2) (F1++(F2++(F3++(F4++F5))))/\Lo wx.heap.size (F1++(F2++(F3++(F4++F5)))))/\(Hv=true->(b5=true/\b8=true/\Jc=true/\Jd=true/\Je=true)/\Qn= .agg #[v.kind,u8,LP,OH,OI,OJ,v.code,v.env])/\(Dk=true->Hv=true)
theorem Yy {x:Item} (h:itOK x) (w':World):own prog w' x.toD 135 [] (encItem x):=Ey x h rfl
theorem Lx {x:Str} (h:x.length<=maxLen) (w':World):own prog w' (.s x) 9 [] (encS x):=by rw[own];exact⟨rfl,rfl,h⟩
theorem rW {e:TypeId} (ht:prog.underlying t=some (.slice e)):own prog (w.alloc (.cells #[] e)) (.sl []) t [w.heap.size] [.slice (some ⟨w.heap.size,0,none⟩) 0 0]:=by rw[own];refine⟨e,_,0,0,_,[],[],ht,rfl,rfl,by unfold maxLen;omega,?_,rfl,by rw[bL,iv];exact⟨rfl,rfl⟩⟩;exact Own.new_ Row.len w [] #[] rfl rfl eb (dj _) rfl
theorem JN (v:Vec) (ps:List Vec) (hcp:∀A n c w,rep w w.heap.size (.sl (v.parts.map Vec.toD)) [.slice A n c]->Calls prog 127 #[.slice A n c] w (oK (ps.map Vec.toD) 36 w)) (cs:List Value) (w:World) (h:rep w w.heap.size v.toD cs) (hz:szD v.toD<=500000000000):
 Calls prog 56 #[av cs] w (gM ({v with parts:=ps}:Vec).toD 38 w):=by
 obtain⟨Ai,ni,ci,Ap,np,cp,An,nn,cn,Ac,nc,cc,Al,nl,cl,rfl,hv⟩:=iy h;have OD:=go v;simp only[szD,au]at OD;have li:=hv.it.len;have ln:=hv.na.len;have lc:=hv.ca.len;have ll:=hv.la.len;have q0:=((Below.refl w.heap.size w).alloc (af _) (.cells #[v.kind,.slice Ai ni ci,.slice Ap np cp,.slice An nn cn,.slice Ac nc cc,.slice Al nl cl,v.code,v.env] 38)).alloc eA (.cells Bj.toArray 38);have kA:Blk ((w.alloc (.cells #[v.kind,.slice Ai ni ci,.slice Ap np cp,.slice An nn cn,.slice Ac nc cc,.slice Al nl cl,v.code,v.env] 38)).alloc (.cells Bj.toArray 38)) w.heap.size 38 [v.kind,.slice Ai ni ci,.slice Ap np cp,.slice An nn cn,.slice Ac nc cc,.slice Al nl cl,v.code,v.env]:=(Blk.new' (l:=[.int .i64 v.kind,.slice Ai ni ci,.slice Ap np cp,.slice An nn cn,.slice Ac nc cc,.slice Al nl cl,.int .i64 v.code,.int .i64 v.env])).al;have kR:=Blk.new' (w:=w.alloc (.cells #[v.kind,.slice Ai ni ci,.slice Ap np cp,.slice An nn cn,.slice Ac nc cc,.slice Al nl cl,v.code,v.env] 38)) (t:=38) (l:=Bj);simp only[dT]at kR;have s0:w.heap.size+2<=((w.alloc (.cells #[v.kind,.slice Ai ni ci,.slice Ap np cp,.slice An nn cn,.slice Ac nc cc,.slice Al nl cl,v.code,v.env] 38)).alloc (.cells Bj.toArray 38)).heap.size:=eA;have bi:ni<=500000000000:=dP;have bn:nn<=500000000000:=dP;have bc:nc<=500000000000:=dP;have bl:nl<=500000000000:=dP;have HCP:=aa hcp;clear hcp OD li ln lc ll;go_enter func56,ntmps56;go_upto_region 1 with fail
 generalize (w.alloc (.cells #[v.kind,.slice Ai ni ci,.slice Ap np cp,.slice An nn cn,.slice Ac nc cc,.slice Al nl cl,v.code,v.env] 38)).alloc (.cells Bj.toArray 38)=W0 at q0 kA kR s0 ⊢;refine aW (S:=(λW=>W.cell? ⟨w.heap.size,0,none⟩=some (.int .i64 v.kind)/\W.cell? ⟨w.heap.size,1,none⟩=some (.slice Ai ni ci)/\W.cell? ⟨w.heap.size,2,none⟩=some (.slice Ap np cp)/\W.cell? ⟨w.heap.size,3,none⟩=some (.slice An nn cn)/\W.cell? ⟨w.heap.size,4,none⟩=some (.slice Ac nc cc)/\W.cell? ⟨w.heap.size,5,none⟩=some (.slice Al nl cl)/\W.cell? ⟨w.heap.size,6,none⟩=some (.int .i64 v.code)/\W.cell? ⟨w.heap.size,7,none⟩=some (.int .i64 v.env))) dU (show _ from kA.c8) (λhH=>?_);refine k_ 0 ?_;refine k_ 1 ?_;refine k_ 3 ?_;refine k_ 4 ?_;refine k_ 6 ?_;refine k_ 7 ?_;refine k_ 10 ?_;refine k_ 11 ?_;refine k_ 14 ?_;refine k_ 15 ?_;refine k_ 18 ?_;refine k_ 19 ?_;refine k_ 21 ?_;refine k_ 22 ?_;refine k_ 23 ?_;refine k_ 24 ?_;refine Qo (lcI ps v Ai ni ci Ap np cp An nn cn Ac nc cc Al nl cl w W0) ?_ (λl a wx hI=>?_) ?_ dU ?_ _ _ _ _ ?_ ?_
 ·intro l a wx hI;obtain⟨b2,b5,b8,b9,Jc,Ht,Jd,Hu,Je,Hv,Dk,u5,u8,LP,Tl,OH,Tm,OI,Tn,OJ,Qn,F1,F2,F3,F4,F5,⟨rfl,rfl⟩,⟨k1,k2,bb,zx⟩,⟨p1,s2,p3,p4,p5⟩,⟨fr,lo⟩,h25,QM⟩:=hI;rfl
 ·obtain⟨b2,b5,b8,b9,Jc,Ht,Jd,Hu,Je,Hv,Dk,u5,u8,LP,Tl,OH,Tm,OI,Tn,OJ,Qn,F1,F2,F3,F4,F5,⟨rfl,rfl⟩,⟨k1,k2,bb,zx⟩,⟨p1,s2,p3,p4,p5⟩,⟨fr,lo⟩,h25,QM⟩:=hI;exact k1.c8
 ·intro i o l a wx ho hl Iu hI K hK;obtain⟨b2,b5,b8,b9,Jc,Ht,Jd,Hu,Je,Hv,Dk,u5,u8,LP,Tl,OH,Tm,OI,Tn,OJ,Qn,F1,F2,F3,F4,F5,⟨rfl,rfl⟩,⟨k1,k2,bb,zx⟩,⟨p1,s2,p3,p4,p5⟩,⟨fr,lo⟩,h25,QM⟩:=hI;have hi:i<27:=(cN.1 ho).1;have Tx:i=0\/i=1\/i=2\/i=3\/i=4\/i=5\/i=6\/i=7\/i=8\/i=9\/i=10\/i=11\/i=12\/i=13\/i=14\/i=15\/i=16\/i=17\/i=18\/i=19\/i=20\/i=21\/i=22\/i=23\/i=24\/i=25\/i=26:=dP;clear hi;rcases Tx with rfl|rfl|rfl|rfl|rfl|rfl|rfl|rfl|rfl|rfl|rfl|rfl|rfl|rfl|rfl|rfl|rfl|rfl|rfl|rfl|rfl|rfl|rfl|rfl|rfl|rfl|rfl
  ·exact ic
  ·exact ic
  ·simp only[bE,ag,ah,cE]at ho;subst ho;obtain rfl:b2=false:=jk;cases b5 with
   |true=>exact absurd p1 lh
   |false=>
   obtain rfl:Hv=false:=lB;obtain rfl:Dk=false:=lA;have k2:Blk wx (w.heap.size+1) 38 Bj:=k2;obtain rfl:F1=[]:=p1;have fx:Fresh (w.heap.size+2) ([]++([]++(F2++(F3++(F4++F5))))):=kC;have lx:Lo wx.heap.size ([]++([]++(F2++(F3++(F4++F5))))):=ky;have md:Mod [] wx (wx.alloc (.cells #[] 135)):=Mod.of_below ((Below.refl _ _).alloc (af _) _);have f2:=Fresh.mid (Y':=[wx.heap.size]) fx lx zx dR (λx hx=>by simp at hx;right;omega);have l2:=Lo.mid (C':=(wx.alloc (.cells #[] 135)).heap.size) (Y':=[wx.heap.size]) lx eA (Lo.one eA);go_simp;refine hK _ _ ⟨true,false,b8,b9,Jc,Ht,Jd,Hu,Je,false,false,.slice (some ⟨wx.heap.size,0,none⟩) 0 0,u8,LP,Tl,OH,Tm,OI,Tn,OJ,Qn,[wx.heap.size],F2,F3,F4,F5,⟨rfl,rfl⟩,⟨k1.al,k2.al,gT bb dP,by simp only[dT];omega⟩,⟨⟨wx.heap.size,rfl,rW underlying35⟩,vU s2 md dR,iX p3 md dR,iX p4 md dR,iX p5 md dR⟩,⟨by simpa [aS]using f2,by simpa [aS]using l2⟩,?_,QM⟩;exact λMD=>absurd MD dR
  ·exact ic
  ·exact ic
  ·simp only[bE,ag,ah,cE]at ho;subst ho;obtain rfl:b5=false:=jk;obtain rfl:b2=true:=by simpa [CD]using Iu ⟨2,.data⟩ dR rfl
   obtain rfl:Hv=false:=lB;obtain rfl:Dk=false:=lA;have k2:Blk wx (w.heap.size+1) 38 Bj:=k2;obtain⟨g,rfl,op⟩:=p1;have fx:Fresh (w.heap.size+2) ([]++(F1++(F2++(F3++(F4++F5))))):=kC;have lx:Lo wx.heap.size ([]++(F1++(F2++(F3++(F4++F5))))):=ky;have ap:=fx.apart;refine qc (f:=Item.toD) encItem kM dU nW uY rfl (.tmp 5) (.tmp 7) rfl (g:=g) (F:=F1) rfl op Ai ni ci w.heap.size v.items rfl (hv.it.below bb) (λx hx w'=>Yy (hv.ito x hx) w') dP eb ?_;intro A' c' w' F' oN hF md;have f2:=Fresh.mid (Y':=F') fx lx zx hF.1 hF.2;have l2:=Lo.mid (C':=w'.heap.size) (Y':=F') lx md.size (gC oN);have gB:∀x∈F1,w.heap.size+2<=x:=λx hx=>fr.2 x iF;have n1:w.heap.size ∉ F1:=λhx=>by have:=gB _ hx;omega
   have n2:w.heap.size+1 ∉ F1:=λhx=>by have:=gB _ hx;omega
   refine hK _ _ ⟨true,true,b8,b9,Jc,Ht,Jd,Hu,Je,false,false,.slice (some ⟨g,0,none⟩) 0 0,.slice A' ni c',LP,Tl,OH,Tm,OI,Tn,OJ,Qn,F',F2,F3,F4,F5,⟨rfl,rfl⟩,⟨k1.mod md n1,k2.mod md n2,jN bb md (λx hx=>by have:=gB x hx;omega) dP,by have:=md.size;omega⟩,⟨⟨A',_,c',rfl,oN⟩,vU s2 md (λg hg=>ap.2 g fe),iX p3 md (λg hg=>ap.2 g fe),iX p4 md (λg hg=>ap.2 g fe),iX p5 md (λg hg=>ap.2 g fe)⟩,⟨by simpa [aS]using f2,by simpa [aS]using l2⟩,?_,QM⟩;exact λMD=>absurd MD dR
  ·exact ic
  ·exact ic
  ·simp only[bE,ag,ah,cE]at ho;subst ho;obtain rfl:b8=false:=jk;obtain rfl:Hv=false:=lB;obtain rfl:Dk=false:=lA;have k2:Blk wx (w.heap.size+1) 38 Bj:=k2;obtain rfl:F2=[]:=s2;have fx:Fresh (w.heap.size+2) (F1++([]++(F3++(F4++F5)))):=kC;have lx:Lo wx.heap.size (F1++([]++(F3++(F4++F5)))):=ky;go_simp;refine(HCP.out _ _ _ _ (fb hv.pa bb bb.size)).mono ?_;rintro e w' ⟨A',n',c',F',rfl,oN,fN,bN⟩;have md:Mod [] wx w':=Mod.of_below bN;have f2:=Fresh.mid (Y':=F') fx lx zx fN.1 (λx hx=> .inr (fN.2 x hx));have l2:=Lo.mid (C':=w'.heap.size) (Y':=F') lx bN.size (gC oN);refine hK _ _ ⟨b2,b5,true,b9,Jc,Ht,Jd,Hu,Je,false,false,u5,u8,.slice A' n' c',Tl,OH,Tm,OI,Tn,OJ,Qn,F1,F',F3,F4,F5,⟨rfl,rfl⟩,⟨k1.next bN,k2.next bN,gR bb bN dP,by have:=bN.size;omega⟩,⟨iX p1 md dR,oN,iX p3 md dR,iX p4 md dR,iX p5 md dR⟩,⟨by simpa [aS]using f2,by simpa [aS]using l2⟩,?_,QM⟩;exact λMD=>absurd MD dR
  ·simp only[bE,ag,ah,cE]at ho;subst ho;obtain rfl:b9=false:=jk;cases Jc with
   |true=>exact absurd p3 lh
   |false=>
   obtain rfl:Hv=false:=lB;obtain rfl:Dk=false:=lA;have k2:Blk wx (w.heap.size+1) 38 Bj:=k2;obtain rfl:F3=[]:=p3;have fx:Fresh (w.heap.size+2) ((F1++F2)++([]++(F4++F5))):=kC;have lx:Lo wx.heap.size ((F1++F2)++([]++(F4++F5))):=ky;have md:Mod [] wx (wx.alloc (.cells #[] 9)):=Mod.of_below ((Below.refl _ _).alloc (af _) _);have f2:=Fresh.mid (Y':=[wx.heap.size]) fx lx zx dR (λx hx=>by simp at hx;right;omega);have l2:=Lo.mid (C':=(wx.alloc (.cells #[] 9)).heap.size) (Y':=[wx.heap.size]) lx eA (Lo.one eA);go_simp;refine hK _ _ ⟨b2,b5,b8,true,false,Ht,Jd,Hu,Je,false,false,u5,u8,LP,.slice (some ⟨wx.heap.size,0,none⟩) 0 0,OH,Tm,OI,Tn,OJ,Qn,F1,F2,[wx.heap.size],F4,F5,⟨rfl,rfl⟩,⟨k1.al,k2.al,gT bb dP,by simp only[dT];omega⟩,⟨iX p1 md dR,vU s2 md dR,⟨wx.heap.size,rfl,rW underlying25⟩,iX p4 md dR,iX p5 md dR⟩,⟨by simpa [aS]using f2,by simpa [aS]using l2⟩,?_,QM⟩;exact λMD=>absurd MD dR
  ·exact ic
  ·exact ic
  ·simp only[bE,ag,ah,cE]at ho;subst ho;obtain rfl:Jc=false:=jk;obtain rfl:b9=true:=by simpa [CD]using Iu ⟨9,.data⟩ dR rfl
   obtain rfl:Hv=false:=lB;obtain rfl:Dk=false:=lA;have k2:Blk wx (w.heap.size+1) 38 Bj:=k2;obtain⟨g,rfl,op⟩:=p3;have fx:Fresh (w.heap.size+2) ((F1++F2)++(F3++(F4++F5))):=kC;have lx:Lo wx.heap.size ((F1++F2)++(F3++(F4++F5))):=ky;have ap:=fx.apart;refine qc (f:=D.s) encS jm dU gW iK rfl (.tmp 12) (.tmp 14) rfl (g:=g) (F:=F3) rfl op An nn cn w.heap.size v.names rfl (hv.na.below bb) (λx hx w'=>Lx (hv.nao x hx) w') dP eb ?_;intro A' c' w' F' oN hF md;have f2:=Fresh.mid (Y':=F') fx lx zx hF.1 hF.2;have l2:=Lo.mid (C':=w'.heap.size) (Y':=F') lx md.size (gC oN);have gB:∀x∈F3,w.heap.size+2<=x:=λx hx=>fr.2 x iF;have n1:w.heap.size ∉ F3:=λhx=>by have:=gB _ hx;omega
   have n2:w.heap.size+1 ∉ F3:=λhx=>by have:=gB _ hx;omega
   refine hK _ _ ⟨b2,b5,b8,true,true,Ht,Jd,Hu,Je,false,false,u5,u8,LP,.slice (some ⟨g,0,none⟩) 0 0,.slice A' nn c',Tm,OI,Tn,OJ,Qn,F1,F2,F',F4,F5,⟨rfl,rfl⟩,⟨k1.mod md n1,k2.mod md n2,jN bb md (λx hx=>by have:=gB x hx;omega) dP,by have:=md.size;omega⟩,⟨iX p1 md (λg hg=>ap.1 g fe),vU s2 md (λg hg=>ap.1 g fe),⟨A',_,c',rfl,oN⟩,iX p4 md (λg hg=>ap.2 g fe),iX p5 md (λg hg=>ap.2 g fe)⟩,⟨by simpa [aS]using f2,by simpa [aS]using l2⟩,?_,QM⟩;exact λMD=>absurd MD dR
  ·simp only[bE,ag,ah,cE]at ho;subst ho;obtain rfl:Ht=false:=jk;cases Jd with
   |true=>exact absurd p4 lh
   |false=>
   obtain rfl:Hv=false:=lB;obtain rfl:Dk=false:=lA;have k2:Blk wx (w.heap.size+1) 38 Bj:=k2;obtain rfl:F4=[]:=p4;have fx:Fresh (w.heap.size+2) ((F1++(F2++F3))++([]++F5)):=kC;have lx:Lo wx.heap.size ((F1++(F2++F3))++([]++F5)):=ky;have md:Mod [] wx (wx.alloc (.cells #[] 9)):=Mod.of_below ((Below.refl _ _).alloc (af _) _);have f2:=Fresh.mid (Y':=[wx.heap.size]) fx lx zx dR (λx hx=>by simp at hx;right;omega);have l2:=Lo.mid (C':=(wx.alloc (.cells #[] 9)).heap.size) (Y':=[wx.heap.size]) lx eA (Lo.one eA);go_simp;refine hK _ _ ⟨b2,b5,b8,b9,Jc,true,false,Hu,Je,false,false,u5,u8,LP,Tl,OH,.slice (some ⟨wx.heap.size,0,none⟩) 0 0,OI,Tn,OJ,Qn,F1,F2,F3,[wx.heap.size],F5,⟨rfl,rfl⟩,⟨k1.al,k2.al,gT bb dP,by simp only[dT];omega⟩,⟨iX p1 md dR,vU s2 md dR,iX p3 md dR,⟨wx.heap.size,rfl,rW underlying25⟩,iX p5 md dR⟩,⟨by simpa [aS]using f2,by simpa [aS]using l2⟩,?_,QM⟩;exact λMD=>absurd MD dR
  ·exact ic
  ·exact ic
  ·simp only[bE,ag,ah,cE]at ho;subst ho;obtain rfl:Jd=false:=jk;obtain rfl:Ht=true:=by simpa [CD]using Iu ⟨13,.data⟩ dR rfl
   obtain rfl:Hv=false:=lB;obtain rfl:Dk=false:=lA;have k2:Blk wx (w.heap.size+1) 38 Bj:=k2;obtain⟨g,rfl,op⟩:=p4;have fx:Fresh (w.heap.size+2) ((F1++(F2++F3))++(F4++F5)):=kC;have lx:Lo wx.heap.size ((F1++(F2++F3))++(F4++F5)):=ky;have ap:=fx.apart;refine qc (f:=D.s) encS jm dU gW iK rfl (.tmp 16) (.tmp 18) rfl (g:=g) (F:=F4) rfl op Ac nc cc w.heap.size v.cls rfl (hv.ca.below bb) (λx hx w'=>Lx (hv.cao x hx) w') dP eb ?_;intro A' c' w' F' oN hF md;have f2:=Fresh.mid (Y':=F') fx lx zx hF.1 hF.2;have l2:=Lo.mid (C':=w'.heap.size) (Y':=F') lx md.size (gC oN);have gB:∀x∈F4,w.heap.size+2<=x:=λx hx=>fr.2 x iF;have n1:w.heap.size ∉ F4:=λhx=>by have:=gB _ hx;omega
   have n2:w.heap.size+1 ∉ F4:=λhx=>by have:=gB _ hx;omega
   refine hK _ _ ⟨b2,b5,b8,b9,Jc,true,true,Hu,Je,false,false,u5,u8,LP,Tl,OH,.slice (some ⟨g,0,none⟩) 0 0,.slice A' nc c',Tn,OJ,Qn,F1,F2,F3,F',F5,⟨rfl,rfl⟩,⟨k1.mod md n1,k2.mod md n2,jN bb md (λx hx=>by have:=gB x hx;omega) dP,by have:=md.size;omega⟩,⟨iX p1 md (λg hg=>ap.1 g fe),vU s2 md (λg hg=>ap.1 g fe),iX p3 md (λg hg=>ap.1 g fe),⟨A',_,c',rfl,oN⟩,iX p5 md (λg hg=>ap.2 g fe)⟩,⟨by simpa [aS]using f2,by simpa [aS]using l2⟩,?_,QM⟩;exact λMD=>absurd MD dR
  ·simp only[bE,ag,ah,cE]at ho;subst ho;obtain rfl:Hu=false:=jk;cases Je with
   |true=>exact absurd p5 lh
   |false=>
   obtain rfl:Hv=false:=lB;obtain rfl:Dk=false:=lA;have k2:Blk wx (w.heap.size+1) 38 Bj:=k2;obtain rfl:F5=[]:=p5;have fx:Fresh (w.heap.size+2) ((F1++(F2++(F3++F4)))++([]++[])):=kC;have lx:Lo wx.heap.size ((F1++(F2++(F3++F4)))++([]++[])):=ky;have md:Mod [] wx (wx.alloc (.cells #[] 9)):=Mod.of_below ((Below.refl _ _).alloc (af _) _);have f2:=Fresh.mid (Y':=[wx.heap.size]) fx lx zx dR (λx hx=>by simp at hx;right;omega);have l2:=Lo.mid (C':=(wx.alloc (.cells #[] 9)).heap.size) (Y':=[wx.heap.size]) lx eA (Lo.one eA);go_simp;refine hK _ _ ⟨b2,b5,b8,b9,Jc,Ht,Jd,true,false,false,false,u5,u8,LP,Tl,OH,Tm,OI,.slice (some ⟨wx.heap.size,0,none⟩) 0 0,OJ,Qn,F1,F2,F3,F4,[wx.heap.size],⟨rfl,rfl⟩,⟨k1.al,k2.al,gT bb dP,by simp only[dT];omega⟩,⟨iX p1 md dR,vU s2 md dR,iX p3 md dR,iX p4 md dR,⟨wx.heap.size,rfl,rW underlying25⟩⟩,⟨by simpa [aS]using f2,by simpa [aS]using l2⟩,?_,QM⟩;exact λMD=>absurd MD dR
  ·exact ic
  ·exact ic
  ·simp only[bE,ag,ah,cE]at ho;subst ho;obtain rfl:Je=false:=jk;obtain rfl:Hu=true:=by simpa [CD]using Iu ⟨17,.data⟩ dR rfl
   obtain rfl:Hv=false:=lB;obtain rfl:Dk=false:=lA;have k2:Blk wx (w.heap.size+1) 38 Bj:=k2;obtain⟨g,rfl,op⟩:=p5;have fx:Fresh (w.heap.size+2) ((F1++(F2++(F3++F4)))++(F5++[])):=kC;have lx:Lo wx.heap.size ((F1++(F2++(F3++F4)))++(F5++[])):=ky;have ap:=fx.apart;refine qc (f:=D.s) encS jm dU gW iK rfl (.tmp 20) (.tmp 22) rfl (g:=g) (F:=F5) rfl op Al nl cl w.heap.size v.levels rfl (hv.la.below bb) (λx hx w'=>Lx (hv.lao x hx) w') dP eb ?_;intro A' c' w' F' oN hF md;have f2:=Fresh.mid (Y':=F') fx lx zx hF.1 hF.2;have l2:=Lo.mid (C':=w'.heap.size) (Y':=F') lx md.size (gC oN);have gB:∀x∈F5,w.heap.size+2<=x:=λx hx=>fr.2 x iF;have n1:w.heap.size ∉ F5:=λhx=>by have:=gB _ hx;omega
   have n2:w.heap.size+1 ∉ F5:=λhx=>by have:=gB _ hx;omega
   refine hK _ _ ⟨b2,b5,b8,b9,Jc,Ht,Jd,true,true,false,false,u5,u8,LP,Tl,OH,Tm,OI,.slice (some ⟨g,0,none⟩) 0 0,.slice A' nl c',Qn,F1,F2,F3,F4,F',⟨rfl,rfl⟩,⟨k1.mod md n1,k2.mod md n2,jN bb md (λx hx=>by have:=gB x hx;omega) dP,by have:=md.size;omega⟩,⟨iX p1 md (λg hg=>ap.1 g fe),vU s2 md (λg hg=>ap.1 g fe),iX p3 md (λg hg=>ap.1 g fe),iX p4 md (λg hg=>ap.1 g fe),⟨A',_,c',rfl,oN⟩⟩,⟨by simpa [aS]using f2,by simpa [aS]using l2⟩,?_,QM⟩;exact λMD=>absurd MD dR
  ·exact ic
  ·exact ic
  ·exact ic
  ·exact ic
  ·simp only[bE,ag,ah,cE]at ho;subst ho;obtain rfl:Hv=false:=jk;obtain rfl:Dk=false:=by cases Dk with|false=>rfl|true=>exact absurd (QM rfl) dR
   obtain rfl:b5=true:=by simpa [CD]using Iu ⟨5,.data⟩ dR rfl
   obtain rfl:b8=true:=by simpa [CD]using Iu ⟨8,.data⟩ dR rfl
   obtain rfl:Jc=true:=by simpa [CD]using Iu ⟨12,.data⟩ dR rfl
   obtain rfl:Jd=true:=by simpa [CD]using Iu ⟨16,.data⟩ dR rfl
   obtain rfl:Je=true:=by simpa [CD]using Iu ⟨20,.data⟩ dR rfl
   obtain rfl:b2=true:=BW;obtain rfl:b9=true:=BX;obtain rfl:Ht=true:=BZ;obtain rfl:Hu=true:=BJ;have p10:=p1;obtain⟨A0,n0,c0,rfl,_⟩:=p1;have p30:=p3;obtain⟨A2,n2,c2,rfl,_⟩:=p3;have p40:=p4;obtain⟨A3,n3,c3,rfl,_⟩:=p4;have p50:=p5;obtain⟨A4,n4,c4,rfl,_⟩:=p5;obtain⟨A1,n1,c1,he1⟩:=fD (eW _ _ _ _ (show own prog wx (.sl (ps.map Vec.toD)) 36 F2 [LP] from s2));injection he1 with he1;subst he1;go_simp;refine hK _ _ ⟨true,true,true,true,true,true,true,true,true,true,false,_,_,_,_,_,_,_,_,_,_,F1,F2,F3,F4,F5,⟨rfl,rfl⟩,⟨k1,k2,bb,zx⟩,⟨p10,s2,p30,p40,p50⟩,⟨fr,lo⟩,λ_=>⟨⟨rfl,rfl,rfl,rfl,rfl⟩,rfl⟩,λh=>absurd h dR⟩
  ·simp only[bE,ag,ah,cE]at ho;subst ho;obtain rfl:Dk=false:=jk;obtain rfl:Hv=true:=by simpa [CD]using Iu ⟨25,.data⟩ dR rfl
   obtain⟨⟨rfl,rfl,rfl,rfl,rfl⟩,rfl⟩:=h25 rfl;obtain rfl:b2=true:=BW;obtain rfl:b9=true:=BX;obtain rfl:Ht=true:=BZ;obtain rfl:Hu=true:=BJ;obtain⟨A0,n0,c0,rfl,o0⟩:=p1;obtain⟨A2,n2,c2,rfl,o2⟩:=p3;obtain⟨A3,n3,c3,rfl,o3⟩:=p4;obtain⟨A4,n4,c4,rfl,o4⟩:=p5;have o1:own prog wx (.sl (ps.map Vec.toD)) 36 F2 [LP]:=s2;obtain⟨A1,n1,c1,he1⟩:=fD (eW _ _ _ _ o1);injection he1 with he1;subst he1;have k2':Blk wx (w.heap.size+1) 38 Bj:=k2;obtain⟨r0,r1,r2,r3,r4,r5,r6,r7⟩:=k2'.c8;have zr:=λi=>k2'.frozen i;have Tq:=zr 0;have zr1:=zr 1;have zr2:=zr 2;have zr3:=zr 3;have zr4:=zr 4;have zr5:=zr 5;have zr6:=zr 6;have zr7:=zr 7;clear zr;have gB:∀x∈(F1++(F2++(F3++(F4++F5)))),w.heap.size+2<=x:=fr.2;have nf1:w.heap.size+1 ∉ F1:=λhx=>by have:=gB (w.heap.size+1) iF;omega
   have nf2:w.heap.size+1 ∉ F2:=λhx=>by have:=gB (w.heap.size+1) iF;omega
   have nf3:w.heap.size+1 ∉ F3:=λhx=>by have:=gB (w.heap.size+1) iF;omega
   have nf4:w.heap.size+1 ∉ F4:=λhx=>by have:=gB (w.heap.size+1) iF;omega
   have nf5:w.heap.size+1 ∉ F5:=λhx=>by have:=gB (w.heap.size+1) iF;omega
   go_simp;refine hK _ _ ⟨true,true,true,true,true,true,true,true,true,true,true,_,_,_,_,_,_,_,_,_,_,F1,F2,F3,F4,F5,⟨rfl,rfl⟩,⟨?_,k2'.set8,?_,?_⟩,⟨⟨A0,n0,c0,rfl,?_⟩,?_,⟨A2,n2,c2,rfl,?_⟩,⟨A3,n3,c3,rfl,?_⟩,⟨A4,n4,c4,rfl,?_⟩⟩,⟨fr,?_⟩,λ_=>⟨⟨rfl,rfl,rfl,rfl,rfl⟩,rfl⟩,λ_=>rfl⟩
   ·exact uv
   ·exact mg
   ·simp only[dX];exact zx
   ·exact um
   ·show own _ _ _ _ _ _
    (repeat'(first|with_reducible assumption|with_reducible refine ft ?_ ?_))
   ·exact um
   ·exact um
   ·exact um
   ·simp only[dX];exact lo
 ·intro l a wx hI jb;obtain⟨b2,b5,b8,b9,Jc,Ht,Jd,Hu,Je,Hv,Dk,u5,u8,LP,Tl,OH,Tm,OI,Tn,OJ,Qn,F1,F2,F3,F4,F5,⟨rfl,rfl⟩,⟨k1,k2,bb,zx⟩,⟨p1,s2,p3,p4,p5⟩,⟨fr,lo⟩,h25,QM⟩:=hI;obtain rfl:b2=true:=by simpa [CD]using jb 2 dQ
  obtain rfl:b5=true:=by simpa [CD]using jb 5 dQ
  obtain rfl:b8=true:=by simpa [CD]using jb 8 dQ
  obtain rfl:b9=true:=by simpa [CD]using jb 9 dQ
  obtain rfl:Jc=true:=by simpa [CD]using jb 12 dQ
  obtain rfl:Ht=true:=by simpa [CD]using jb 13 dQ
  obtain rfl:Jd=true:=by simpa [CD]using jb 16 dQ
  obtain rfl:Hu=true:=by simpa [CD]using jb 17 dQ
  obtain rfl:Je=true:=by simpa [CD]using jb 20 dQ
  obtain rfl:Hv=true:=by simpa [CD]using jb 25 dQ
  obtain rfl:Dk=true:=by simpa [CD]using jb 26 dQ
  obtain⟨A0,n0,c0,rfl,o0⟩:=p1;obtain⟨A2,n2,c2,rfl,o2⟩:=p3;obtain⟨A3,n3,c3,rfl,o3⟩:=p4;obtain⟨A4,n4,c4,rfl,o4⟩:=p5;have o1:own prog wx (.sl (ps.map Vec.toD)) 36 F2 [LP]:=s2;obtain⟨A1,n1,c1,he1⟩:=fD (eW _ _ _ _ o1);injection he1 with he1;subst he1;have k2':Blk wx (w.heap.size+1) 38 [v.kind,.slice A0 n0 c0,.slice A1 n1 c1,.slice A2 n2 c2,.slice A3 n3 c3,.slice A4 n4 c4,v.code,v.env]:=k2;obtain⟨r0,r1,r2,r3,r4,r5,r6,r7⟩:=k2'.c8;have Cz:w.heap.size+1<wx.heap.size:=dP;go_wp2_with fail;refine bM (v:= .agg #[v.kind,.slice A0 n0 c0,.slice A1 n1 c1,.slice A2 n2 c2,.slice A3 n3 c3,.slice A4 n4 c4,v.code,v.env]) (by simp [results,results56,go_sem,r0,r1,r2,r3,r4,r5,r6,r7]) rfl ⟨_,F1++(F2++(F3++(F4++(F5++[])))),rfl,?_,?_,bb⟩
  ·exact jD (x:={v with parts:=ps}) hv.wk o0 o1 o2 o3 o4 hv.wc hv.we
  ·rw[bP];exact fr.mono dP
 ·decide
 ·refine⟨false,false,false,false,false,false,false,false,false,false,false,undef,undef,undef,undef,undef,undef,undef,undef,undef,undef,[],[],[],[],[],⟨?_,?_⟩,⟨kA.dw,kR.dw,q0.drew,s0⟩,⟨rfl,rfl,rfl,rfl,rfl⟩,⟨Fresh.nil,Lo.nil⟩,λh=>absurd h dR,λh=>absurd h dR⟩
  ·kernel_rfl
  ·kernel_rfl
theorem ru {P:Program} {xs:List D} (h:own P w (.sl xs) t F cs):∃A n c,cs=[.slice A n c]:=fD (eW _ _ _ _ h)
theorem uT {x:Vec} (h:own prog w x.toD 38 F cs):∃(Ai:Option Addr) (ni ci:Nat) (Ap:Option Addr) (np cp:Nat) (An:Option Addr) (nn cn:Nat) (Ac:Option Addr) (nc cc:Nat) (Al:Option Addr) (nl cl:Nat) (F1 F2 F3 F4 F5:List Nat),
 cs=[.int .i64 x.kind,.slice Ai ni ci,.slice Ap np cp,.slice An nn cn,.slice Ac nc cc,.slice Al nl cl,.int .i64 x.code,.int .i64 x.env]/\F=F1++(F2++(F3++(F4++F5)))/\(Lit.int .i64 x.kind).wf=true/\
 own prog w (.sl (x.items.map Item.toD)) 35 F1 [.slice Ai ni ci]/\own prog w (.sl (x.parts.map Vec.toD)) 36 F2 [.slice Ap np cp]/\own prog w (.sl (x.names.map .s)) 25 F3 [.slice An nn cn]/\
 own prog w (.sl (x.cls.map .s)) 25 F4 [.slice Ac nc cc]/\own prog w (.sl (x.levels.map .s)) 25 F5 [.slice Al nl cl]/\(Lit.int .i64 x.code).wf=true/\(Lit.int .i64 x.env).wf=true:=by
 rw[kF,own]at h;obtain⟨KW,css,hu,rfl,h⟩:=h;rw[underlying38]at hu;injection hu with hu;injection hu with hu;subst hu
 rw[iB]at h;obtain⟨t1,t2,G1,H1,c1,d1,ht,rfl,rfl,k1,h⟩:=h;injection ht with e1 e2;subst e1 e2
 rw[iB]at h;obtain⟨t1,t2,G2,H2,c2,d2,ht,rfl,rfl,k2,h⟩:=h;injection ht with e1 e2;subst e1 e2
 rw[iB]at h;obtain⟨t1,t2,G3,H3,c3,d3,ht,rfl,rfl,k3,h⟩:=h;injection ht with e1 e2;subst e1 e2
 rw[iB]at h;obtain⟨t1,t2,G4,H4,c4,d4,ht,rfl,rfl,k4,h⟩:=h;injection ht with e1 e2;subst e1 e2
 rw[iB]at h;obtain⟨t1,t2,G5,H5,c5,d5,ht,rfl,rfl,k5,h⟩:=h;injection ht with e1 e2;subst e1 e2
 rw[iB]at h;obtain⟨t1,t2,G6,H6,c6,d6,ht,rfl,rfl,k6,h⟩:=h;injection ht with e1 e2;subst e1 e2
 rw[iB]at h;obtain⟨t1,t2,G7,H7,c7,d7,ht,rfl,rfl,k7,h⟩:=h;injection ht with e1 e2;subst e1 e2
 rw[iB]at h;obtain⟨t1,t2,G8,H8,c8,d8,ht,rfl,rfl,k8,h⟩:=h;injection ht with e1 e2;subst e1 e2
 rw[iB]at h;obtain⟨_,rfl,rfl⟩:=h;rw[own]at k1 k7 k8;obtain⟨rfl,rfl,w1⟩:=k1;obtain⟨rfl,rfl,w7⟩:=k7;obtain⟨rfl,rfl,w8⟩:=k8;obtain⟨A2,n2,c2',rfl⟩:=ru k2;obtain⟨A3,n3,c3',rfl⟩:=ru k3;obtain⟨A4,n4,c4',rfl⟩:=ru k4;obtain⟨A5,n5,c5',rfl⟩:=ru k5;obtain⟨A6,n6,c6',rfl⟩:=ru k6;exact⟨_,_,_,_,_,_,_,_,_,_,_,_,_,_,_,G2,G3,G4,G5,G6,rfl,by simp,w1,k2,k3,k4,k5,k6,w7,w8⟩
theorem Li (A:Option Addr) (c:Nat) (w:World):Calls prog 127 #[.slice A 0 c] w (oK [] 36 w):=by go_enter func127,ntmps127;go_wp2_with fail;refine aZ 1 ?_;rw[dF];go_wp2_with fail;go_ret;exact⟨_,0,0,[w.heap.size],rfl,rW underlying36,⟨by simp,by simp⟩,(Below.refl _ _).alloc (af _) _⟩
theorem tZ (v:Vec) (hp:v.parts=[]) (cs:List Value) (w:World) (h:rep w w.heap.size v.toD cs) (hz:szD v.toD<=500000000000):Calls prog 56 #[av cs] w (gM v.toD 38 w):=by
 have:=JN v [] (λA n c w hr=>by rw[hp]at hr;have hl:=(ef hr).1;simp at hl;subst hl;exact Li A c w) cs w h hz
 have e:({v with parts:=[]}:Vec)=v:=by cases v;simp only at hp;subst hp;rfl
 rw[e]at this;exact this
end Go.Proofs.YtekcpadlmfaihaaGreat
