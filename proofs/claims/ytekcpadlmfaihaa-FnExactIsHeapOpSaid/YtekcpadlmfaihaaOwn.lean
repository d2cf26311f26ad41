/- Data in memory of the call's own: which blocks it takes, and what leaves it as it is. -/
import Derived.Test.YtekcpadlmfaihaaDat
namespace Go.Proofs.Ytekcpadlmfaihaa
open Go.RowKit
def ablk (A : Option Addr) : List Nat := match A with
  | none => []
  | some a => [a.block]
mutual
/-- The cells cs hold the datum of type t, in blocks of its own: those of the list F, each once. -/
def own (P : Program) (w : World) : D → TypeId → List Nat → List Value → Prop
  | .i k n, _, F, cs => F = [] ∧ cs = [.int k n] ∧ (Lit.int k n).wf = true
  | .b x, _, F, cs => F = [] ∧ cs = [.bool x]
  | .s x, _, F, cs => F = [] ∧ cs = [sv x] ∧ x.length ≤ maxLen
  | .st fs, t, F, cs => ∃ (fds : Array Field) (css : List (List Value)), P.underlying t = some (.struct fds) ∧ cs = css.flatten ∧ ownL P w fs (fds.toList.map Field.type) F css
  | .sl xs, t, F, cs => ∃ (e : TypeId) (A : Option Addr) (n c s : Nat) (rows : List (Row s)) (F2 : List Nat), P.underlying t = some (.slice e) ∧ P.cellsOf e = s ∧ cs = [.slice A n c] ∧ c ≤ maxLen ∧ Own Row.v s e w 0 A n c rows ∧ F = ablk A ++ F2 ∧ ownA P w xs e F2 (rows.map Row.v)
def ownL (P : Program) (w : World) : List D → List TypeId → List Nat → List (List Value) → Prop
  | [], ts, F, css => ts = [] ∧ F = [] ∧ css = []
  | x :: t, ts, F, css => ∃ t1 t2 F1 F2 c1 c2, ts = t1 :: t2 ∧ F = F1 ++ F2 ∧ css = c1 :: c2 ∧ own P w x t1 F1 c1 ∧ ownL P w t t2 F2 c2
def ownA (P : Program) (w : World) : List D → TypeId → List Nat → List (List Value) → Prop
  | [], _, F, css => F = [] ∧ css = []
  | x :: t, e, F, css => ∃ F1 F2 c1 c2, F = F1 ++ F2 ∧ css = c1 :: c2 ∧ own P w x e F1 c1 ∧ ownA P w t e F2 c2
end
section
variable {P : Program} {w w' : World}
theorem Own.same {α : Type} {enc : α → List Value} {s : Nat} {e : TypeId} {base n c : Nat} {A : Option Addr} {l : List α} (h : Own enc s e w base A n c l) (hk : ∀ g ∈ ablk A, w'.heap[g]? = w.heap[g]?) : Own enc s e w' base A n c l := by
  refine ⟨h.1, h.2.1, ?_⟩
  rcases h.2.2 with h0 | ⟨g, cap, cur, h0, hg, hh, hr⟩
  · exact .inl h0
  · refine .inr ⟨g, cap, cur, h0, hg, ?_, hr⟩
    injection h0 with h0
    subst h0
    rw [hk g (by simp [ablk])]; exact hh
theorem Own.lt' {α : Type} {enc : α → List Value} {s : Nat} {e : TypeId} {base n c : Nat} {A : Option Addr} {l : List α} (h : Own enc s e w base A n c l) : ∀ g ∈ ablk A, base ≤ g ∧ g < w.heap.size := by
  intro g hg
  cases A with
  | none => simp [ablk] at hg
  | some a => simp [ablk] at hg; subst hg; exact h.lt
mutual
theorem own_same : ∀ (d : D) (t : TypeId) (F : List Nat) (cs : List Value), (∀ g ∈ F, w'.heap[g]? = w.heap[g]?) → own P w d t F cs → own P w' d t F cs
  | .i _ _, _, _, _, _, h => by rw [own] at h ⊢; exact h
  | .b _, _, _, _, _, h => by rw [own] at h ⊢; exact h
  | .s _, _, _, _, _, h => by rw [own] at h ⊢; exact h
  | .st fs, _, _, _, hk, h => by
    rw [own] at h ⊢
    obtain ⟨fds, css, h1, h2, h3⟩ := h
    exact ⟨fds, css, h1, h2, ownL_same fs _ _ css hk h3⟩
  | .sl xs, _, _, _, hk, h => by
    rw [own] at h ⊢
    obtain ⟨e, A, n, c, s, rows, F2, h1, h2, h3, hm, h4, rfl, h6⟩ := h
    exact ⟨e, A, n, c, s, rows, F2, h1, h2, h3, hm, h4.same (fun g hg => hk g (List.mem_append_left _ hg)), rfl, ownA_same xs e F2 _ (fun g hg => hk g (List.mem_append_right _ hg)) h6⟩
theorem ownL_same : ∀ (l : List D) (ts : List TypeId) (F : List Nat) (css : List (List Value)), (∀ g ∈ F, w'.heap[g]? = w.heap[g]?) → ownL P w l ts F css → ownL P w' l ts F css
  | [], _, _, _, _, h => by rw [ownL] at h ⊢; exact h
  | x :: t, _, _, _, hk, h => by
    rw [ownL] at h ⊢
    obtain ⟨t1, t2, F1, F2, c1, c2, h1, rfl, h3, h4, h5⟩ := h
    exact ⟨t1, t2, F1, F2, c1, c2, h1, rfl, h3, own_same x t1 F1 c1 (fun g hg => hk g (List.mem_append_left _ hg)) h4, ownL_same t t2 F2 c2 (fun g hg => hk g (List.mem_append_right _ hg)) h5⟩
theorem ownA_same : ∀ (l : List D) (e : TypeId) (F : List Nat) (css : List (List Value)), (∀ g ∈ F, w'.heap[g]? = w.heap[g]?) → ownA P w l e F css → ownA P w' l e F css
  | [], _, _, _, _, h => by rw [ownA] at h ⊢; exact h
  | x :: t, e, _, _, hk, h => by
    rw [ownA] at h ⊢
    obtain ⟨F1, F2, c1, c2, rfl, h3, h4, h5⟩ := h
    exact ⟨F1, F2, c1, c2, rfl, h3, own_same x e F1 c1 (fun g hg => hk g (List.mem_append_left _ hg)) h4, ownA_same t e F2 c2 (fun g hg => hk g (List.mem_append_right _ hg)) h5⟩
end
mutual
theorem own_lt : ∀ (d : D) (t : TypeId) (F : List Nat) (cs : List Value), own P w d t F cs → ∀ g ∈ F, g < w.heap.size
  | .i _ _, _, _, _, h => by rw [own] at h; rw [h.1]; simp
  | .b _, _, _, _, h => by rw [own] at h; rw [h.1]; simp
  | .s _, _, _, _, h => by rw [own] at h; rw [h.1]; simp
  | .st fs, _, _, _, h => by
    rw [own] at h
    obtain ⟨fds, css, h1, h2, h3⟩ := h
    exact ownL_lt fs _ _ css h3
  | .sl xs, _, _, _, h => by
    rw [own] at h
    obtain ⟨e, A, n, c, s, rows, F2, h1, h2, h3, hm, h4, rfl, h6⟩ := h
    intro g hg
    rcases List.mem_append.1 hg with hg | hg
    · exact (h4.lt' g hg).2
    · exact ownA_lt xs e F2 _ h6 g hg
theorem ownL_lt : ∀ (l : List D) (ts : List TypeId) (F : List Nat) (css : List (List Value)), ownL P w l ts F css → ∀ g ∈ F, g < w.heap.size
  | [], _, _, _, h => by rw [ownL] at h; rw [h.2.1]; simp
  | x :: t, _, _, _, h => by
    rw [ownL] at h
    obtain ⟨t1, t2, F1, F2, c1, c2, h1, rfl, h3, h4, h5⟩ := h
    intro g hg
    rcases List.mem_append.1 hg with hg | hg
    · exact own_lt x t1 F1 c1 h4 g hg
    · exact ownL_lt t t2 F2 c2 h5 g hg
theorem ownA_lt : ∀ (l : List D) (e : TypeId) (F : List Nat) (css : List (List Value)), ownA P w l e F css → ∀ g ∈ F, g < w.heap.size
  | [], _, _, _, h => by rw [ownA] at h; rw [h.1]; simp
  | x :: t, e, _, _, h => by
    rw [ownA] at h
    obtain ⟨F1, F2, c1, c2, rfl, h3, h4, h5⟩ := h
    intro g hg
    rcases List.mem_append.1 hg with hg | hg
    · exact own_lt x e F1 c1 h4 g hg
    · exact ownA_lt t e F2 c2 h5 g hg
end
mutual
theorem own_rep : ∀ (d : D) (t : TypeId) (F : List Nat) (cs : List Value), own P w d t F cs → rep w w.heap.size d cs
  | .i _ _, _, _, _, h => by rw [own] at h; rw [rep]; exact h.2
  | .b _, _, _, _, h => by rw [own] at h; rw [rep]; exact h.2
  | .s _, _, _, _, h => by rw [own] at h; rw [rep]; exact h.2
  | .st fs, _, _, _, h => by
    rw [own] at h
    obtain ⟨fds, css, h1, h2, h3⟩ := h
    rw [rep]; exact ⟨css, h2, ownL_rep fs _ _ css h3⟩
  | .sl xs, _, _, _, h => by
    rw [own] at h
    obtain ⟨e, A, n, c, s, rows, F2, h1, h2, h3, hm, h4, rfl, h6⟩ := h
    rw [rep]; exact ⟨A, n, c, s, rows, h3, h4.cap, hm, h4.reads Row.len, ownA_rep xs e F2 _ h6⟩
theorem ownL_rep : ∀ (l : List D) (ts : List TypeId) (F : List Nat) (css : List (List Value)), ownL P w l ts F css → repL w w.heap.size l css
  | [], _, _, _, h => by rw [ownL] at h; rw [repL]; exact h.2.2
  | x :: t, _, _, _, h => by
    rw [ownL] at h
    obtain ⟨t1, t2, F1, F2, c1, c2, h1, rfl, h3, h4, h5⟩ := h
    rw [repL]; exact ⟨c1, c2, h3, own_rep x t1 F1 c1 h4, ownL_rep t t2 F2 c2 h5⟩
theorem ownA_rep : ∀ (l : List D) (e : TypeId) (F : List Nat) (css : List (List Value)), ownA P w l e F css → repL w w.heap.size l css
  | [], _, _, _, h => by rw [ownA] at h; rw [repL]; exact h.2
  | x :: t, e, _, _, h => by
    rw [ownA] at h
    obtain ⟨F1, F2, c1, c2, rfl, h3, h4, h5⟩ := h
    rw [repL]; exact ⟨c1, c2, h3, own_rep x e F1 c1 h4, ownA_rep t e F2 c2 h5⟩
end
theorem own_below {d : D} {t : TypeId} {F : List Nat} {cs : List Value} (h : own P w d t F cs) (hb : Below w.heap.size w w') : own P w' d t F cs :=
  own_same d t F cs (fun g hg => hb.block g (own_lt d t F cs h g hg)) h
theorem own_poke {d : D} {t : TypeId} {F : List Nat} {cs : List Value} (h : own P w d t F cs) {p : Addr} (hp : p.block ∉ F) (u : Value) : own P (w.setCell p u) d t F cs :=
  own_same d t F cs (fun g hg => Below.heap_setCell w p u g (by rintro rfl; exact hp hg)) h
theorem ownA_below {l : List D} {e : TypeId} {F : List Nat} {css : List (List Value)} (h : ownA P w l e F css) (hb : Below w.heap.size w w') : ownA P w' l e F css :=
  ownA_same l e F css (fun g hg => hb.block g (ownA_lt l e F css h g hg)) h
theorem ownA_snoc : ∀ {l : List D} {e : TypeId} {F F' : List Nat} {css : List (List Value)} {d : D} {cs : List Value}, ownA P w l e F css → own P w d e F' cs → ownA P w (l ++ [d]) e (F ++ F') (css ++ [cs])
  | [], e, F, F', css, d, cs, h, h' => by
    rw [ownA] at h
    obtain ⟨rfl, rfl⟩ := h
    rw [List.nil_append, ownA]
    exact ⟨F', [], cs, [], by simp, rfl, h', by rw [ownA]; exact ⟨rfl, rfl⟩⟩
  | x :: t, e, F, F', css, d, cs, h, h' => by
    rw [ownA] at h
    obtain ⟨F1, F2, c1, c2, rfl, rfl, h4, h5⟩ := h
    rw [List.cons_append, ownA]
    exact ⟨F1, F2 ++ F', c1, c2 ++ [cs], by simp, rfl, h4, ownA_snoc h5 h'⟩
theorem ownL_nil : ownL P w [] [] [] [] := by rw [ownL]; exact ⟨rfl, rfl, rfl⟩
theorem ownL_cons {x : D} {l : List D} {t1 : TypeId} {t2 : List TypeId} {F1 F2 : List Nat} {c1 : List Value} {c2 : List (List Value)} (h : own P w x t1 F1 c1) (h' : ownL P w l t2 F2 c2) : ownL P w (x :: l) (t1 :: t2) (F1 ++ F2) (c1 :: c2) := by
  rw [ownL]; exact ⟨t1, t2, F1, F2, c1, c2, rfl, rfl, rfl, h, h'⟩
theorem pk {w : World} {p : Addr} {u : Value} {g : Nat} {o : Option Obj} (h : g ≠ p.block) (h' : w.heap[g]? = o) : (w.setCell p u).heap[g]? = o := (Below.heap_setCell w p u g h).trans h'
/-- New blocks, each once. -/
def Fresh (B : Nat) (F : List Nat) : Prop := F.Nodup ∧ ∀ g ∈ F, B ≤ g
theorem Fresh.nil {B : Nat} : Fresh B [] := ⟨List.nodup_nil, by simp⟩
theorem Fresh.app {B B' : Nat} {F F' : List Nat} (h : Fresh B F) (hl : ∀ g ∈ F, g < B') (h' : Fresh B' F') (hB : B ≤ B') : Fresh B (F ++ F') :=
  ⟨List.nodup_append.2 ⟨h.1, h'.1, fun a ha b hb e => by have := hl a ha; have := h'.2 b hb; omega⟩, fun g hg => by
    rcases List.mem_append.1 hg with hg | hg
    · exact h.2 g hg
    · have := h'.2 g hg; omega⟩
theorem Fresh.mono {B B' : Nat} {F : List Nat} (h : Fresh B F) (hB : B' ≤ B) : Fresh B' F := ⟨h.1, fun g hg => Nat.le_trans hB (h.2 g hg)⟩
theorem Fresh.notin {B : Nat} {F : List Nat} (h : Fresh B F) {g : Nat} (hg : g < B) : g ∉ F := fun hm => by have := h.2 g hm; omega
theorem Fresh.one {B : Nat} {A : Option Addr} (h : ∀ g ∈ ablk A, B ≤ g) : Fresh B (ablk A) := ⟨by cases A <;> simp [ablk], h⟩
end
end Go.Proofs.Ytekcpadlmfaihaa
