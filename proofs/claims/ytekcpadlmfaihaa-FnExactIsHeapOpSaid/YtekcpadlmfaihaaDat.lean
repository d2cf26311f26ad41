/- Data as trees, and what it is for cells of memory to hold such data. -/
import Derived.Test.YtekcpadlmfaihaaBas3
namespace Go.Proofs.Ytekcpadlmfaihaa
open Go.RowKit
/-- The cells of one element: s of them. -/
abbrev Row (s : Nat) := {cs : List Value // cs.length = s}
abbrev Row.v {s : Nat} (r : Row s) : List Value := r.val
theorem Row.len {s : Nat} (r : Row s) : r.v.length = s := r.property
inductive D where
  | i (k : IntKind) (n : Int)
  | b (x : Bool)
  | s (x : Str)
  | st (fs : List D)
  | sl (xs : List D)
mutual
/-- The cells cs hold the datum, all memory that they lead to lies below block B. -/
def rep (w : World) (B : Nat) : D → List Value → Prop
  | .i k n, cs => cs = [.int k n] ∧ (Lit.int k n).wf = true
  | .b x, cs => cs = [.bool x]
  | .s x, cs => cs = [sv x] ∧ x.length ≤ maxLen
  | .st fs, cs => ∃ css, cs = css.flatten ∧ repL w B fs css
  | .sl xs, cs => ∃ (A : Option Addr) (n c s : Nat) (rows : List (Row s)), cs = [.slice A n c] ∧ n ≤ c ∧ c ≤ maxLen ∧ Reads Row.v s w B A n rows ∧ repL w B xs (rows.map Row.v)
def repL (w : World) (B : Nat) : List D → List (List Value) → Prop
  | [], css => css = []
  | x :: t, css => ∃ c1 c2, css = c1 :: c2 ∧ rep w B x c1 ∧ repL w B t c2
end
mutual
theorem rep_keep {w w' : World} {B B' : Nat} (hB : B ≤ B') (hk : ∀ p : Addr, p.block < B → w'.cell? p = w.cell? p) : ∀ (d : D) (cs : List Value), rep w B d cs → rep w' B' d cs
  | .i _ _, _, h => by rw [rep] at h ⊢; exact h
  | .b _, _, h => by rw [rep] at h ⊢; exact h
  | .s _, _, h => by rw [rep] at h ⊢; exact h
  | .st fs, _, h => by
    rw [rep] at h ⊢
    obtain ⟨css, h1, h2⟩ := h
    exact ⟨css, h1, repL_keep hB hk fs css h2⟩
  | .sl xs, _, h => by
    rw [rep] at h ⊢
    obtain ⟨A, n, c, s, rows, h1, h2, h3, h4, h5⟩ := h
    exact ⟨A, n, c, s, rows, h1, h2, h3, (h4.keep hk).more hB, repL_keep hB hk xs _ h5⟩
theorem repL_keep {w w' : World} {B B' : Nat} (hB : B ≤ B') (hk : ∀ p : Addr, p.block < B → w'.cell? p = w.cell? p) : ∀ (l : List D) (css : List (List Value)), repL w B l css → repL w' B' l css
  | [], _, h => by rw [repL] at h ⊢; exact h
  | x :: t, _, h => by
    rw [repL] at h ⊢
    obtain ⟨c1, c2, h1, h2, h3⟩ := h
    exact ⟨c1, c2, h1, rep_keep hB hk x c1 h2, repL_keep hB hk t c2 h3⟩
end
theorem rep_below {w w' : World} {B : Nat} {d : D} {cs : List Value} (h : rep w B d cs) (hb : Below B w w') : rep w' B d cs := rep_keep (Nat.le_refl _) (fun _ hp => hb.cell hp) d cs h
theorem rep_more {w : World} {B B' : Nat} {d : D} {cs : List Value} (h : rep w B d cs) (hB : B ≤ B') : rep w B' d cs := rep_keep hB (fun _ _ => rfl) d cs h
theorem rep_next {w w' : World} {d : D} {cs : List Value} (h : rep w w.heap.size d cs) (hb : Below w.heap.size w w') : rep w' w'.heap.size d cs := rep_more (rep_below h hb) hb.size
/-- What lies below B in the world at the call's start, in a world of the call. -/
theorem rep_in {w w' : World} {B : Nat} {d : D} {cs : List Value} (h : rep w B d cs) (hb : Below B w w') (hB : B ≤ w'.heap.size) : rep w' w'.heap.size d cs := rep_more (rep_below h hb) hB
theorem rep_drew {w : World} {B : Nat} {d : D} {cs : List Value} (h : rep w B d cs) : rep w.drew B d cs := rep_keep (w := w) (Nat.le_refl _) (fun p _ => by rfl) d cs h
theorem rep_drewN {w : World} {B : Nat} {d : D} {cs : List Value} (h : rep w B d cs) (n : Nat) : rep (w.drewN n) B d cs := rep_keep (w := w) (Nat.le_refl _) (fun p _ => by rfl) d cs h
theorem repL_len {w : World} {B : Nat} : ∀ {l : List D} {css : List (List Value)}, repL w B l css → l.length = css.length
  | [], _, h => by rw [repL] at h; rw [h]; rfl
  | x :: t, _, h => by
    rw [repL] at h
    obtain ⟨c1, c2, rfl, _, h3⟩ := h
    simp [repL_len h3]
theorem repL_at {w : World} {B : Nat} : ∀ {l : List D} {css : List (List Value)} {k : Nat} {d : D} {cs : List Value}, repL w B l css → l[k]? = some d → css[k]? = some cs → rep w B d cs
  | [], _, _, _, _, _, h', _ => by simp at h'
  | x :: t, _, k, d, cs, h, h', h'' => by
    rw [repL] at h
    obtain ⟨c1, c2, rfl, h2, h3⟩ := h
    cases k with
    | zero => simp at h' h''; subst h' h''; exact h2
    | succ k => simp at h' h''; exact repL_at h3 h' h''
theorem repL_mk {w : World} {B : Nat} : ∀ {l : List D} {css : List (List Value)}, l.length = css.length → (∀ (k : Nat) d cs, l[k]? = some d → css[k]? = some cs → rep w B d cs) → repL w B l css
  | [], css, hl, _ => by rw [repL]; exact List.length_eq_zero_iff.1 hl.symm
  | x :: t, css, hl, h => by
    cases css with
    | nil => simp at hl
    | cons c1 c2 => rw [repL]; exact ⟨c1, c2, rfl, h 0 x c1 rfl rfl, repL_mk (by simpa using hl) (fun k d cs h1 h2 => h (k + 1) d cs h1 h2)⟩
/-- A slice of data that are flat: each is its own cells. -/
theorem rep_flat {α : Type} {f : α → D} {enc : α → List Value} {ok : α → Prop} {s : Nat} {w : World} {B : Nat} (hf : ∀ x cs, rep w B (f x) cs ↔ cs = enc x ∧ ok x) (henc : ∀ x, (enc x).length = s) (l : List α) (cs : List Value) :
    rep w B (.sl (l.map f)) cs ↔ ∃ (A : Option Addr) (n c : Nat), cs = [.slice A n c] ∧ n ≤ c ∧ c ≤ maxLen ∧ Reads enc s w B A n l ∧ ∀ x ∈ l, ok x := by
  rw [rep]
  constructor
  · rintro ⟨A, n, c, s', rows, h1, h2, h3, h4, h5⟩
    have hl := repL_len h5
    simp only [List.length_map] at hl
    have hat : ∀ (k : Nat) (x : α) (r : Row s'), l[k]? = some x → rows[k]? = some r → r.v = enc x ∧ ok x := fun k x r hx hr => (hf x _).1 (repL_at h5 (k := k) (by simp [hx]) (by simp [hr]))
    refine ⟨A, n, c, h1, h2, h3, ⟨by rw [hl]; exact h4.len, fun hn => ?_⟩, fun x hx => ?_⟩
    · obtain ⟨b, off, e, hb, hc⟩ := h4.2 hn
      refine ⟨b, off, e, hb, fun k x j u hx hu => ?_⟩
      have hk : k < rows.length := by rw [← hl]; exact (List.getElem?_eq_some_iff.1 hx).1
      have hr : rows[k]? = some rows[k] := List.getElem?_eq_getElem hk
      have h6 := (hat k x _ hx hr).1
      have hs : s' = s := by rw [← henc x, ← h6]; exact (Row.len _).symm
      have := hc k _ j u hr (by rw [h6]; exact hu)
      rw [hs] at this; exact this
    · obtain ⟨k, hk, rfl⟩ := List.getElem_of_mem hx
      exact (hat k _ (rows[k]'(by omega)) (List.getElem?_eq_getElem hk) (List.getElem?_eq_getElem _)).2
  · rintro ⟨A, n, c, h1, h2, h3, h4, h5⟩
    refine ⟨A, n, c, s, l.map (fun x => ⟨enc x, henc x⟩), h1, h2, h3, ⟨by simpa using h4.len, fun hn => ?_⟩, repL_mk (by simp) fun k d cs hd hc => ?_⟩
    · obtain ⟨b, off, e, hb, hc⟩ := h4.2 hn
      refine ⟨b, off, e, hb, fun k x j u hx hu => ?_⟩
      rw [List.getElem?_map] at hx
      cases hk : l[k]? with
      | none => simp [hk] at hx
      | some y => simp [hk] at hx; subst hx; exact hc k y j u hk hu
    · simp only [List.map_map, List.getElem?_map] at hd hc
      cases hk : l[k]? with
      | none => simp [hk] at hd
      | some y =>
        simp [hk] at hd hc
        subst hd hc
        exact (hf y _).2 ⟨rfl, h5 y (List.mem_of_getElem? hk)⟩
/-- Structs. -/
theorem rep_st1 {w : World} {B : Nat} {d : D} {cs : List Value} : repL w B [d] [cs] ↔ rep w B d cs := by simp [repL]
theorem repL_cons {w : World} {B : Nat} {d : D} {t : List D} {c : List Value} {u : List (List Value)} : repL w B (d :: t) (c :: u) ↔ rep w B d c ∧ repL w B t u := by
  constructor
  · intro h; rw [repL] at h; obtain ⟨c1, c2, he, h1, h2⟩ := h; injection he with he1 he2; subst he1 he2; exact ⟨h1, h2⟩
  · rintro ⟨h1, h2⟩; rw [repL]; exact ⟨c, u, rfl, h1, h2⟩
theorem repL_nil {w : World} {B : Nat} : repL w B [] [] := by rw [repL]
end Go.Proofs.Ytekcpadlmfaihaa
