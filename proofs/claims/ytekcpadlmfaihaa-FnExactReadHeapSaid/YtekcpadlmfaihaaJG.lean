/- Heaps: what is right, in plain words. Facts carried over draws, allocations and calls, in the form that a search uses. append onto an owned slice of whatever data; what turns only some blocks. append of one element in a region that draws its order; blocks behind an append. Vectors that are zero: what isZeroVector and l4Same with the zero vector return. Cells of a heap that fit: what cellFits returns. -/
import Derived.Test.YtekcpadlmfaihaaJE
import Derived.Test.YtekcpadlmfaihaaJF
import Derived.Test.YtekcpadlmfaihaaJA
import Derived.Test.YtekcpadlmfaihaaJB
import Derived.Deep.RegionLaw
import Derived.Deep.DeepCutAuto
set_option linter.unusedSimpArgs false
set_option linter.unusedVariables false
namespace Go.Proofs.Ytekcpadlmfaihaa
open Go.RowKit
def zeroV : Vec := ⟨0, [], [], [], [], [], 0, 0⟩
def isZ (v : Vec) : Bool := decide (v.kind = 0 ∧ v.code = 0 ∧ v.env = 0 ∧ v.names.length = 0 ∧ v.cls.length = 0 ∧ v.levels.length = 0 ∧ v.items.length = 0 ∧ v.parts.length = 0)
/-- The cell of an index; beyond the heap a free one. -/
def celD (h : Hp) (k : Int) : Cel := if 0 ≤ k then (h.cells[k.toNat]?).getD ⟨0, zeroV, []⟩ else ⟨0, zeroV, []⟩
theorem celD_at {h : Hp} {k : Nat} {c : Cel} (hk : h.cells[k]? = some c) : celD h k = c := by simp [celD, hk]
def inR (h : Hp) (k : Int) : Bool := decide (0 ≤ k ∧ k < h.cells.length)
theorem celD_in {h : Hp} {k : Int} (hk : 0 < (celD h k).count) : inR h k = true := by
  unfold celD at hk
  split at hk
  · next h0 =>
    cases hc : h.cells[k.toNat]? with
    | none => rw [hc] at hk; simp at hk
    | some c =>
      have := (List.getElem?_eq_some_iff.1 hc).1
      simp [inR]; omega
  · simp at hk
theorem inR_at {h : Hp} {k : Int} (hk : inR h k = true) : ∃ (i : Nat) (c : Cel), k = i ∧ i < h.cells.length ∧ h.cells[i]? = some c ∧ celD h k = c := by
  simp [inR] at hk
  have hi : k.toNat < h.cells.length := by omega
  refine ⟨k.toNat, h.cells[k.toNat], by omega, hi, by simp [hi], ?_⟩
  unfold celD
  rw [if_pos hk.1]
  simp [hi]
/-- A cell without its parts fits at a depth. -/
def fitL (d : Nat) (c : Cel) : Bool := decide (0 < c.count) && (decide (c.parts.length = 0) || (decide (c.value.kind = 4) && decide (c.parts.length ≤ 40) && decide (d ≠ 0)))
def fitsD (h : Hp) : Nat → Int → Bool
  | 0, k => fitL 0 (celD h k)
  | d + 1, k => fitL (d + 1) (celD h k) && (celD h k).parts.all (fitsD h d)
def depD (h : Hp) : Nat → Int → Bool
  | 0, k => fitL 0 (celD h k) && decide ((celD h k).value.parts.length = 0)
  | d + 1, k => fitL (d + 1) (celD h k) && (celD h k).parts.all (depD h d) && decide ((celD h k).value.parts.length = 0)
/-- The vector of a cell. -/
def asm (h : Hp) : Nat → Int → Vec
  | 0, k => (celD h k).value
  | d + 1, k => { (celD h k).value with parts := (celD h k).parts.map (asm h d) }
theorem fitL_zero {c : Cel} (h : fitL 0 c = true) : c.parts = [] := by
  simp [fitL] at h; exact h.2
theorem depD_eq {h : Hp} (hp : ∀ c ∈ h.cells, c.value.parts.length = 0) (d : Nat) (k : Int) : depD h d k = fitsD h d k := by
  have hc : ∀ k, (celD h k).value.parts.length = 0 := by
    intro k
    unfold celD
    split
    · cases hc : h.cells[k.toNat]? with
      | none => rfl
      | some c => exact hp c (List.mem_of_getElem? hc)
    · rfl
  induction d generalizing k with
  | zero => simp [depD, fitsD, hc]
  | succ d ih =>
    rw [depD, fitsD, hc]
    have : depD h d = fitsD h d := funext ih
    rw [this]; simp
theorem depD_pos {h : Hp} {d : Nat} {k : Int} (hd : depD h d k = true) : 0 < (celD h k).count := by
  cases d <;> (rw [depD] at hd; simp [fitL] at hd; omega)
/-! The counts. -/
def refs (h : Hp) : List Int := h.slots ++ h.cells.flatMap (·.parts)
/-- How often each index below n stands in a list. -/
def cnts (n : Nat) (l : List Int) : List Int := (List.range n).map fun (i : Nat) => ((l.count (i : Int) : Nat) : Int)
theorem cnts_len (n : Nat) (l : List Int) : (cnts n l).length = n := by simp [cnts]
theorem cnts_at {n i : Nat} (l : List Int) (hi : i < n) : (cnts n l)[i]? = some ((l.count (i : Int) : Nat) : Int) := by
  simp [cnts, hi]
theorem cnts_nil (n : Nat) : cnts n [] = List.replicate n 0 := by
  unfold cnts
  simp [List.map_const']
theorem cnts_snoc {n i : Nat} (l : List Int) (hi : i < n) : (cnts n l).set i (((l.count (i : Int) : Nat) : Int) + 1) = cnts n (l ++ [(i : Int)]) := by
  apply List.ext_getElem?
  intro j
  by_cases hj : j < n
  · rw [cnts_at _ hj, List.getElem?_set]
    by_cases hij : i = j
    · subst hij; simp [cnts_len, hi, List.count_append]
    · rw [if_neg hij, cnts_at _ hj]
      have : ¬ ((i : Int) = (j : Int)) := by omega
      simp [List.count_append, List.count_singleton, this]
  · have h1 : n ≤ j := by omega
    rw [List.getElem?_eq_none (by simp [cnts_len, h1]), List.getElem?_eq_none (by simp [cnts_len, h1])]
/-! What is right. -/
def celOK (n : List Int) (i : Nat) (c : Cel) : Bool := decide (n[i]? = some c.count) && decide (c.value.parts.length = 0) && (decide (c.count ≠ 0) || (decide (c.parts.length = 0) && isZ c.value))
def celS (h : Hp) (c : Cel) : Bool := c.parts.all (inR h) && decide (c.value.parts.length = 0) && (decide (c.count ≠ 0) || (decide (c.parts.length = 0) && isZ c.value))
def namOK (h : Hp) (i : Nat) (s : Str) (k : Int) : Bool := isNm s && !((h.names.take i).contains s) && fitsD h 3 k && isVec (asm h 3 k)
def namS (h : Hp) (i : Nat) (s : Str) (k : Int) : Bool := isNm s && !((h.names.take i).contains s) && depD h 3 k && isVec (asm h 3 k)
/-- From k on, all elements answer. -/
def allFrom {α : Type} (f : Nat → α → Bool) (l : List α) : Bool := (List.range l.length).all fun i => match l[i]? with
  | some x => f i x
  | none => true
theorem allFrom_iff {α : Type} {f : Nat → α → Bool} {l : List α} : allFrom f l = true ↔ ∀ i x, l[i]? = some x → f i x = true := by
  unfold allFrom
  rw [List.all_eq_true]
  constructor
  · intro h i x hx
    have := h i (List.mem_range.2 (List.getElem?_eq_some_iff.1 hx).1)
    rw [hx] at this; exact this
  · intro h i hi
    cases hx : l[i]? with
    | none => rfl
    | some x => exact h i x hx
def heapOK (h : Hp) : Bool := decide (h.names.length = h.slots.length) && decide (0 ≤ h.copies) && (refs h).all (inR h) && allFrom (celOK (cnts h.cells.length (refs h))) h.cells && allFrom (fun i s => namOK h i s ((h.slots[i]?).getD 0)) h.names
def heapS (h : Hp) : Bool := decide (h.names.length = h.slots.length) && decide (0 ≤ h.copies) && allFrom (fun i s => namS h i s ((h.slots[i]?).getD 0)) h.names && h.cells.all (celS h) && allFrom (fun i c => decide ((cnts h.cells.length (refs h))[i]? = some c.count)) h.cells
theorem heapS_eq (h : Hp) : heapS h = heapOK h := by
  rw [Bool.eq_iff_iff]
  unfold heapS heapOK
  simp only [Bool.and_eq_true, decide_eq_true_eq, allFrom_iff, List.all_eq_true]
  constructor
  · rintro ⟨⟨⟨⟨h1, h2⟩, h3⟩, h4⟩, h5⟩
    have hp : ∀ c ∈ h.cells, c.value.parts.length = 0 := fun c hc => by
      have := h4 c hc
      simp [celS] at this
      simp [this.1.2]
    refine ⟨⟨⟨⟨h1, h2⟩, fun k hk => ?_⟩, fun i c hc => ?_⟩, fun i s hs => ?_⟩
    · rcases List.mem_append.1 hk with hk | hk
      · obtain ⟨i, hi⟩ := List.mem_iff_getElem?.1 hk
        have hl := (List.getElem?_eq_some_iff.1 hi).1
        obtain ⟨s, hs⟩ : ∃ s, h.names[i]? = some s := ⟨h.names[i]'(by omega), by simp⟩
        have := h3 i s hs
        rw [hi] at this
        simp only [namS, Bool.and_eq_true, Option.getD_some] at this
        exact celD_in (depD_pos this.1.2)
      · obtain ⟨c, hc, hk⟩ := List.mem_flatMap.1 hk
        have := h4 c hc
        simp only [celS, Bool.and_eq_true, List.all_eq_true] at this
        exact this.1.1 k hk
    · have a := h4 c (List.mem_of_getElem? hc)
      have b := h5 i c hc
      simp only [celS, Bool.and_eq_true] at a
      simp only [celOK, Bool.and_eq_true]
      exact ⟨⟨by simpa using b, a.1.2⟩, a.2⟩
    · have a := h3 i s hs
      unfold namS at a
      rw [depD_eq hp] at a
      exact a
  · rintro ⟨⟨⟨⟨h1, h2⟩, h3⟩, h4⟩, h5⟩
    have hp : ∀ c ∈ h.cells, c.value.parts.length = 0 := fun c hc => by
      obtain ⟨i, hi⟩ := List.mem_iff_getElem?.1 hc
      have := h4 i c hi
      simp only [celOK, Bool.and_eq_true, decide_eq_true_eq] at this
      exact this.1.2
    refine ⟨⟨⟨⟨h1, h2⟩, fun i s hs => ?_⟩, fun c hc => ?_⟩, fun i c hc => ?_⟩
    · have a := h5 i s hs
      unfold namS
      rw [depD_eq hp]
      exact a
    · obtain ⟨i, hi⟩ := List.mem_iff_getElem?.1 hc
      have a := h4 i c hi
      simp only [celOK, Bool.and_eq_true] at a
      simp only [celS, Bool.and_eq_true, List.all_eq_true]
      exact ⟨⟨fun k hk => h3 k (List.mem_append_right _ (List.mem_flatMap.2 ⟨c, hc, hk⟩)), a.1.2⟩, a.2⟩
    · have a := h4 i c hc
      simp only [celOK, Bool.and_eq_true, decide_eq_true_eq] at a
      exact a.1.1
/-! Sizes. -/
theorem szDs_mul {l : List D} {B : Nat} (h : ∀ d ∈ l, szD d ≤ B) : szDs l ≤ l.length * B := by
  induction l with
  | nil => simp [szDs]
  | cons x t ih =>
    rw [szDs]
    have a := h x List.mem_cons_self
    have b := ih fun d hd => h d (List.mem_cons_of_mem _ hd)
    rw [List.length_cons, Nat.add_mul]
    omega
theorem celD_sz (h : Hp) (k : Int) : szD (celD h k).value.toD + (celD h k).parts.length ≤ szD h.toD := by
  have hz : szD zeroV.toD = 0 := by rw [Vector_sz]; simp [zeroV, szD, szDs]
  unfold celD
  split
  · cases hc : h.cells[k.toNat]? with
    | none => simp [hz]
    | some c =>
      have h1 := szDs_mem (List.mem_map_of_mem (f := Cel.toD) (List.mem_of_getElem? hc))
      have h2 := Cell_sz c
      have h3 := Heap_sz h
      simp only [szD, List.length_map] at h2 h3
      simp only [Option.getD_some]
      omega
  · simp [hz]
theorem asm_sz {h : Hp} (hz : szD h.toD ≤ 1048576) (d : Nat) (k : Int) (hd : depD h d k = true) : szD (asm h d k).toD + 1048617 ≤ 1048617 * 41 ^ (d + 1) := by
  induction d generalizing k with
  | zero =>
    have := celD_sz h k
    rw [asm]; omega
  | succ d ih =>
    have h1 := celD_sz h k
    rw [depD] at hd
    simp only [Bool.and_eq_true, decide_eq_true_eq, List.all_eq_true, fitL] at hd
    obtain ⟨⟨⟨_, hl⟩, ha⟩, hv⟩ := hd
    have hl : (celD h k).parts.length ≤ 40 := by
      simp only [Bool.or_eq_true, Bool.and_eq_true, decide_eq_true_eq] at hl
      omega
    have e1 := Vector_sz (celD h k).value
    have e2 := Vector_sz (asm h (d + 1) k)
    have hx : szDs ((celD h k).parts.map fun p => (asm h d p).toD) ≤ 40 * (1048617 * 41 ^ (d + 1) - 1048617) := by
      refine Nat.le_trans (szDs_mul (B := 1048617 * 41 ^ (d + 1) - 1048617) fun x hx => ?_) ?_
      · obtain ⟨p, hp, rfl⟩ := List.mem_map.1 hx
        have := ih p (ha p hp); omega
      · rw [List.length_map]; exact Nat.mul_le_mul_right _ hl
    have e3 : (asm h (d + 1) k).parts = (celD h k).parts.map (asm h d) := by rw [asm]
    have e4 : (asm h (d + 1) k).items = (celD h k).value.items := by rw [asm]
    have e5 : (asm h (d + 1) k).names = (celD h k).value.names := by rw [asm]
    have e6 : (asm h (d + 1) k).cls = (celD h k).value.cls := by rw [asm]
    have e7 : (asm h (d + 1) k).levels = (celD h k).value.levels := by rw [asm]
    rw [e3, e4, e5, e6, e7] at e2
    simp only [szD, List.length_map, List.map_map] at e1 e2
    have e8 : (Vec.toD ∘ asm h d) = fun p => (asm h d p).toD := rfl
    rw [e8] at e2
    have hp : 41 ^ (d + 1 + 1) = 41 * 41 ^ (d + 1) := by rw [Nat.pow_succ]; omega
    rw [hp]
    have : 1 ≤ 41 ^ (d + 1) := Nat.one_le_iff_ne_zero.2 (by simp)
    generalize 41 ^ (d + 1) = M at *
    omega
end Go.Proofs.Ytekcpadlmfaihaa
namespace Go.Proofs.Ytekcpadlmfaihaa
open Go.RowKit
theorem wsize_drew (w : World) : w.drew.heap.size = w.heap.size := rfl
theorem rep_dw {w : World} {d : D} {cs : List Value} (h : rep w w.heap.size d cs) : rep w.drew w.drew.heap.size d cs := rep_drew h
theorem rep_al {w : World} {d : D} {cs : List Value} {o : Obj} (h : rep w w.heap.size d cs) : rep (w.alloc o) (w.alloc o).heap.size d cs := rep_next h ((Below.refl _ _).alloc (Nat.le_refl _) _)
theorem Blk.dw {w : World} {g : Nat} {t : TypeId} {cs : List Value} (h : Blk w g t cs) : Blk w.drew g t cs := h
theorem Blk.al {w : World} {g : Nat} {t : TypeId} {cs : List Value} {o : Obj} (h : Blk w g t cs) : Blk (w.alloc o) g t cs := h.next ((Below.refl _ _).alloc (Nat.le_refl _) _)
theorem own_dw {P : Program} {w : World} {d : D} {t : TypeId} {F : List Nat} {cs : List Value} (h : own P w d t F cs) : own P w.drew d t F cs := own_same (w := w) d t F cs (fun _ _ => rfl) h
theorem own_al {P : Program} {w : World} {d : D} {t : TypeId} {F : List Nat} {cs : List Value} {o : Obj} (h : own P w d t F cs) : own P (w.alloc o) d t F cs := own_below h ((Below.refl _ _).alloc (Nat.le_refl _) _)
theorem bel_dw {B : Nat} {a w : World} (h : Below B a w) : Below B a w.drew := h.drew
theorem Blk.pk {w : World} {g : Nat} {t : TypeId} {cs : List Value} {p : Addr} {u : Value} (hp : p.block ≠ g) (h : Blk w g t cs) : Blk (w.setCell p u) g t cs := (Below.heap_setCell w p u g (Ne.symm hp)).trans h
theorem Blk.new' {w : World} {t : TypeId} {l : List Value} : Blk (w.alloc (.cells l.toArray t)) w.heap.size t l := by simpa using Blk.new_ w t l.toArray
theorem Blk.newd {w : World} {t : TypeId} {l : List Value} : Blk (w.drew.alloc (.cells l.toArray t)) w.heap.size t l := Blk.new' (w := w.drew)
theorem Blk.c8 {w : World} {g : Nat} {t : TypeId} {a b c d e f h i : Value} (q : Blk w g t [a, b, c, d, e, f, h, i]) : w.cell? ⟨g, 0, none⟩ = some a ∧ w.cell? ⟨g, 1, none⟩ = some b ∧ w.cell? ⟨g, 2, none⟩ = some c ∧ w.cell? ⟨g, 3, none⟩ = some d ∧ w.cell? ⟨g, 4, none⟩ = some e ∧ w.cell? ⟨g, 5, none⟩ = some f ∧ w.cell? ⟨g, 6, none⟩ = some h ∧ w.cell? ⟨g, 7, none⟩ = some i :=
  ⟨q.cell 0, q.cell 1, q.cell 2, q.cell 3, q.cell 4, q.cell 5, q.cell 6, q.cell 7⟩
theorem Blk.set8 {w : World} {g : Nat} {t : TypeId} {a b c d e f h i a' b' c' d' e' f' h' i' : Value} (q : Blk w g t [a, b, c, d, e, f, h, i]) : Blk ((((((((w.setCell ⟨g, 0, none⟩ a').setCell ⟨g, 1, none⟩ b').setCell ⟨g, 2, none⟩ c').setCell ⟨g, 3, none⟩ d').setCell ⟨g, 4, none⟩ e').setCell ⟨g, 5, none⟩ f').setCell ⟨g, 6, none⟩ h').setCell ⟨g, 7, none⟩ i') g t [a', b', c', d', e', f', h', i'] :=
  (((((((q.set_ 0 _).set_ 1 _).set_ 2 _).set_ 3 _).set_ 4 _).set_ 5 _).set_ 6 _).set_ 7 _
theorem own_pk {P : Program} {w : World} {d : D} {t : TypeId} {F : List Nat} {cs : List Value} {p : Addr} {u : Value} (h : own P w d t F cs) (hp : p.block ∉ F) : own P (w.setCell p u) d t F cs := own_poke h hp u
/-- Lists of blocks that lie below a bound. -/
def Lo (B : Nat) (F : List Nat) : Prop := ∀ g ∈ F, g < B
theorem own_lo {P : Program} {w : World} {d : D} {t : TypeId} {F : List Nat} {cs : List Value} (h : own P w d t F cs) : Lo w.heap.size F := own_lt d t F cs h
theorem Lo.notin {B : Nat} {F : List Nat} (h : Lo B F) {g : Nat} (hg : B ≤ g) : g ∉ F := fun hm => by have := h g hm; omega
theorem Lo.mono {B B' : Nat} {F : List Nat} (h : Lo B F) (hB : B ≤ B') : Lo B' F := fun g hg => Nat.lt_of_lt_of_le (h g hg) hB
theorem Lo.app {B : Nat} {F F' : List Nat} (h : Lo B F) (h' : Lo B F') : Lo B (F ++ F') := fun g hg => by
  rcases List.mem_append.1 hg with hg | hg
  · exact h g hg
  · exact h' g hg
theorem Lo.cons {B g : Nat} {F : List Nat} (hg : g < B) (h : Lo B F) : Lo B (g :: F) := fun x hx => by
  rcases List.mem_cons.1 hx with rfl | hx
  · exact hg
  · exact h x hx
theorem Lo.nil {B : Nat} : Lo B [] := fun g hg => by simp at hg
theorem notin_app {g : Nat} {F F' : List Nat} (h : g ∉ F) (h' : g ∉ F') : g ∉ F ++ F' := by simp [h, h']
theorem notin_nil {g : Nat} : g ∉ ([] : List Nat) := by simp
theorem notin_cons {g x : Nat} {F : List Nat} (h : g ≠ x) (h' : g ∉ F) : g ∉ x :: F := by simp [h, h']
theorem Fresh.cons {B g : Nat} {F : List Nat} (h : g ∉ F) (hB : B ≤ g) (hf : Fresh B F) : Fresh B (g :: F) := ⟨List.nodup_cons.2 ⟨h, hf.1⟩, fun x hx => by
  rcases List.mem_cons.1 hx with rfl | hx
  · exact hB
  · exact hf.2 x hx⟩
theorem Fresh.app' {B : Nat} (C : Nat) {F F' : List Nat} (h : Fresh B F) (h' : Fresh C F') (hl : Lo C F) (hB : B ≤ C) : Fresh B (F ++ F') := h.app hl h' hB
theorem Fresh.app2 {B C : Nat} {F F' : List Nat} (hl : Lo C F) (h : Fresh B F) (h' : Fresh C F') (hB : B ≤ C) : Fresh B (F ++ F') := h.app hl h' hB
theorem bel_call {B : Nat} {a w w' : World} (h : Below B a w) (hb : Below w.heap.size w w') (hB : B ≤ w.heap.size) : Below B a w' := h.trans (hb.mono hB)
theorem bel_al {B : Nat} {a w : World} {o : Obj} (h : Below B a w) (hB : B ≤ w.heap.size) : Below B a (w.alloc o) := h.alloc hB o
theorem bel_set {B : Nat} {a w : World} {p : Addr} {u : Value} (h : Below B a w) (hB : B ≤ p.block) : Below B a (w.setCell p u) := h.setCell hB u
end Go.Proofs.Ytekcpadlmfaihaa
namespace Go.Proofs.Ytekcpadlmfaihaa
open Go.RowKit
/-- Nothing but the blocks of F, and what is new, has turned. -/
def Mod (F : List Nat) (w w' : World) : Prop := (w'.os = w.os ∧ w'.tape = w.tape ∧ w'.output = w.output) ∧ w.heap.size ≤ w'.heap.size ∧ ∀ g, g < w.heap.size → g ∉ F → w'.heap[g]? = w.heap[g]?
section
variable {P : Program} {w w' : World} {F G : List Nat} {B : Nat}
theorem Mod.size (h : Mod F w w') : w.heap.size ≤ w'.heap.size := h.2.1
theorem Mod.below (h : Mod F w w') (hF : ∀ g ∈ F, B ≤ g) (hB : B ≤ w.heap.size) : Below B w w' :=
  ⟨h.1.1, h.1.2.1, h.1.2.2, h.2.1, fun k hk => h.2.2 k (by omega) (fun hm => by have := hF k hm; omega)⟩
theorem Mod.of_below (h : Below w.heap.size w w') : Mod F w w' := ⟨⟨h.os, h.tape, h.output⟩, h.size, fun k hk _ => h.block k hk⟩
theorem Mod.mono (h : Mod F w w') (hF : ∀ g ∈ F, g ∈ G) : Mod G w w' := ⟨h.1, h.2.1, fun k hk hn => h.2.2 k hk (fun hm => hn (hF k hm))⟩
theorem Mod.trans {w2 : World} (h : Mod F w w') (k : Mod G w' w2) (hG : ∀ g ∈ G, g ∈ F ∨ w.heap.size ≤ g) : Mod F w w2 :=
  ⟨⟨k.1.1.trans h.1.1, k.1.2.1.trans h.1.2.1, k.1.2.2.trans h.1.2.2⟩, Nat.le_trans h.2.1 k.2.1, fun g hg hn => (k.2.2 g (Nat.lt_of_lt_of_le hg h.2.1) (fun hm => by rcases hG g hm with h1 | h1; exact hn h1; omega)).trans (h.2.2 g hg hn)⟩
theorem Mod.refl : Mod F w w := ⟨⟨rfl, rfl, rfl⟩, Nat.le_refl _, fun _ _ _ => rfl⟩
theorem own_mod {d : D} {t : TypeId} {cs : List Value} (h : own P w d t G cs) (hm : Mod F w w') (hd : ∀ g ∈ G, g ∉ F) : own P w' d t G cs :=
  own_same d t G cs (fun g hg => hm.2.2 g (own_lt d t G cs h g hg) (hd g hg)) h
theorem ownA_mod {l : List D} {e : TypeId} {css : List (List Value)} (h : ownA P w l e G css) (hm : Mod F w w') (hd : ∀ g ∈ G, g ∉ F) : ownA P w' l e G css :=
  ownA_same l e G css (fun g hg => hm.2.2 g (ownA_lt l e G css h g hg) (hd g hg)) h
theorem Blk.mod {g : Nat} {t : TypeId} {cs : List Value} (h : Blk w g t cs) (hm : Mod F w w') (hd : g ∉ F) : Blk w' g t cs := (hm.2.2 g h.lt hd).trans h
theorem bel_mod {a : World} (h : Below B a w) (hm : Mod F w w') (hF : ∀ g ∈ F, B ≤ g) (hB : B ≤ w.heap.size) : Below B a w' := h.trans (hm.below hF hB)
mutual
theorem rep_one : ∀ (d : D) (cs : List Value), rep w B d cs → ∀ u ∈ cs, u.oneCell' = true
  | .i _ _, cs, h => by rw [rep] at h; rw [h.1]; simp [Value.oneCell']
  | .b _, cs, h => by rw [rep] at h; rw [h]; simp [Value.oneCell']
  | .s _, cs, h => by rw [rep] at h; rw [h.1]; simp [Value.oneCell']
  | .st fs, cs, h => by
    rw [rep] at h
    obtain ⟨css, rfl, h2⟩ := h
    intro u hu
    obtain ⟨c1, hc, hu⟩ := List.mem_flatten.1 hu
    exact repL_one fs css h2 c1 hc u hu
  | .sl xs, cs, h => by
    rw [rep] at h
    obtain ⟨A, n, c, s, rows, rfl, _⟩ := h
    simp [Value.oneCell']
theorem repL_one : ∀ (l : List D) (css : List (List Value)), repL w B l css → ∀ c ∈ css, ∀ u ∈ c, u.oneCell' = true
  | [], css, h => by rw [repL] at h; rw [h]; simp
  | x :: t, css, h => by
    rw [repL] at h
    obtain ⟨c1, c2, rfl, h1, h2⟩ := h
    intro c hc
    rcases List.mem_cons.1 hc with rfl | hc
    · exact rep_one x _ h1
    · exact repL_one t c2 h2 c hc
end
theorem own_one {d : D} {t : TypeId} {cs : List Value} (h : own P w d t F cs) : ∀ u ∈ cs, u.oneCell' = true := rep_one d cs (own_rep d t F cs h)
end
/-- The blocks of a slice behind an append. -/
def AppF (H : Nat) (F F' F'' : List Nat) : Prop := F''.Nodup ∧ ∀ x ∈ F'', x ∈ F ∨ x ∈ F' ∨ x = H
theorem appD_core {P : Program} {w w' : World} {t e : TypeId} {xs : List D} {A : Option Addr} {n c s g c' : Nat} {F F2 F' : List Nat} {d : D} {cs : List Value} {rows : List (Row s)} (h1 : P.underlying t = some (.slice e)) (h2 : P.cellsOf e = s)
    (hO : Own Row.v s e w 0 A n c rows) (hF : F = ablk A ++ F2) (hA : ownA P w xs e F2 (rows.map Row.v)) (hd : own P w d e F' cs) (hl : cs.length = s) (hnd : (F ++ F').Nodup)
    (k1 : w'.ownsRow 0 e s (.slice (some ⟨g, 0, none⟩) (n + 1) c') (n + 1) (rows.flatMap Row.v ++ cs)) (k2 : w.grownBy w' (Value.slice A n c).ownBlock) (k3 : (Value.slice A n c).ownBlock = some g ∨ g = w.heap.size) :
    ∃ F'', own P w' (.sl (xs ++ [d])) t F'' [.slice (some ⟨g, 0, none⟩) (n + 1) c'] ∧ AppF w.heap.size F F' F'' ∧ Mod F w w' := by
  subst hF
  have hob : ∀ x, (Value.slice A n c).ownBlock = some x → x ∈ ablk A := by
    intro x hx
    cases A with
    | none => simp [Value.ownBlock] at hx
    | some a => simp [Value.ownBlock] at hx; simp [ablk, hx]
  have hown : Own Row.v s e w' 0 (some ⟨g, 0, none⟩) (n + 1) c' (rows ++ [⟨cs, hl⟩]) := ⟨by simp [hO.1], by simpa [List.flatMap_append] using k1⟩
  have hnd2 := hnd
  rw [List.append_assoc] at hnd2
  obtain ⟨n1, n2, n3⟩ := List.nodup_append.1 hnd2
  have hm : Mod (ablk A) w w' := ⟨⟨k2.os, k2.tape, k2.output⟩, k2.size, fun i hi hn => k2.block i hi (fun e => hn (hob i e.symm))⟩
  have hlt : ∀ x ∈ F2 ++ F', x < w.heap.size := fun x hx => by
    rcases List.mem_append.1 hx with hx | hx
    · exact ownA_lt _ _ _ _ hA x hx
    · exact own_lt _ _ _ _ hd x hx
  have hgn : g ∉ F2 ++ F' := fun hx => by
    rcases k3 with k3 | k3
    · exact n3 g (hob g k3) g hx rfl
    · have := hlt g hx; omega
  refine ⟨g :: (F2 ++ F'), ?_, ⟨List.nodup_cons.2 ⟨hgn, n2⟩, fun x hx => ?_⟩, hm.mono fun g hg => List.mem_append_left _ hg⟩
  · rw [own]
    refine ⟨e, _, _, _, s, rows ++ [⟨cs, hl⟩], F2 ++ F', h1, h2, rfl, ?_, hown, rfl, ?_⟩
    · exact hown.fil.2
    · rw [List.map_append]
      exact ownA_snoc (ownA_mod hA hm fun x hx hn => n3 x hn x (List.mem_append_left _ hx) rfl) (own_mod hd hm fun x hx hn => n3 x hn x (List.mem_append_right _ hx) rfl)
  · rcases List.mem_cons.1 hx with rfl | hx
    · rcases k3 with k3 | k3
      · exact .inl (List.mem_append_left _ (hob _ k3))
      · exact .inr (.inr k3)
    · rcases List.mem_append.1 hx with hx | hx
      · exact .inl (List.mem_append_right _ hx)
      · exact .inr (.inl hx)
section
variable {P : Program} {size bytes : Nat} {t e : TypeId} {ops : Array Oper} {o : Oper} {a : Act} {Q : Exit → Act → World → Prop} {w : World} {xs : List D} {A : Option Addr} {n c : Nat} {F F' : List Nat} {d : D} {cs : List Value} {b m : Nat} {te : TypeId}
/-- append of one datum onto an owned slice, in a region that draws its order. -/
theorem step_appD {K : Act → World → Prop} {E : Prop} (hT : ElemTy P t e size bytes) (hsz : P.cellsOf e = size) (hgd : o.guard = none) (sl x : Operand)
    (ho : o.op = .call { callee := .builtin .append, args := #[sl, x], argTypes := #[t, t] }) (hs : a.eval sl = .slice A n c) (hown : own P w (.sl xs) t F [.slice A n c])
    (hx : a.eval x = .slice (some ⟨b, 0, none⟩) 1 m) (hb : Blk w b te cs) (hd : own P w d e F' cs) (hl : cs.length = size) (hnd : (F ++ F').Nodup) (hn : n + 1 ≤ maxLen) (h63 : (n + 1) * bytes ≤ 140737488355328)
    (h : ∀ g c' w' F'', own P w' (.sl (xs ++ [d])) t F'' [.slice (some ⟨g, 0, none⟩) (n + 1) c'] → AppF w.heap.size F F' F'' → Mod F w w' → K (a.put o.dst (.slice (some ⟨g, 0, none⟩) (n + 1) c')) w') :
    if Region.wanted o (yielded ops a.tmps) = true then Oper.wp P o a w K Q else E := by
  obtain ⟨i, z, ht, hi, hz, i1, i2, i3, i4⟩ := hT.ok
  have hown' := hown
  rw [own] at hown'
  obtain ⟨e', A', n', c', s, rows, F2, h1, h2, he, hm, hO, hF, hA⟩ := hown'
  injection he with he; injection he with e1 e2 e3; subst e1 e2 e3
  rw [ht] at h1; injection h1 with h1; injection h1 with h1; subst h1
  rw [hsz] at h2; subst h2
  refine step_append_lies w hgd sl x t ho 0 e i z size bytes ht hi hz i1 i2 i3 i4 _ n _ hs hO.2 ⟨b, 0, none⟩ 1 m cs hx (by rw [hl, Nat.one_mul]) (World.news_of_block (cs := cs.toArray) hb) (own_one hd) (by omega) hn h63 (Nat.zero_le _) _ rfl ?_
  intro g cap w' k1 k2 k3 k4
  obtain ⟨F'', p1, p2, p3⟩ := appD_core ht hsz hO hF hA hd hl hnd k1 k2 k3
  exact h g cap w' F'' p1 p2 p3
/-- append of one datum onto an owned slice. -/
theorem wpList_appD {rest : List Oper} (hT : ElemTy P t e size bytes) (hsz : P.cellsOf e = size) (hgd : o.guard = none) (sl x : Operand)
    (ho : o.op = .call { callee := .builtin .append, args := #[sl, x], argTypes := #[t, t] }) (hs : a.eval sl = .slice A n c) (hown : own P w (.sl xs) t F [.slice A n c])
    (hx : a.eval x = .slice (some ⟨b, 0, none⟩) 1 m) (hb : Blk w b te cs) (hd : own P w d e F' cs) (hl : cs.length = size) (hnd : (F ++ F').Nodup) (hn : n + 1 ≤ maxLen) (h63 : (n + 1) * bytes ≤ 140737488355328)
    (h : ∀ g c' w' F'', own P w' (.sl (xs ++ [d])) t F'' [.slice (some ⟨g, 0, none⟩) (n + 1) c'] → AppF w.heap.size F F' F'' → Mod F w w' → wpList P ops Q rest (a.put o.dst (.slice (some ⟨g, 0, none⟩) (n + 1) c')) w') :
    wpList P ops Q (o :: rest) a w := by
  obtain ⟨i, z, ht, hi, hz, i1, i2, i3, i4⟩ := hT.ok
  have hown' := hown
  rw [own] at hown'
  obtain ⟨e', A', n', c', s, rows, F2, h1, h2, he, hm, hO, hF, hA⟩ := hown'
  injection he with he; injection he with e1 e2 e3; subst e1 e2 e3
  rw [ht] at h1; injection h1 with h1; injection h1 with h1; subst h1
  rw [hsz] at h2; subst h2
  refine wpList_append_lies w hgd sl x t ho 0 e i z size bytes ht hi hz i1 i2 i3 i4 _ n _ hs hO.2 ⟨b, 0, none⟩ 1 m cs hx (by rw [hl, Nat.one_mul]) (World.news_of_block (cs := cs.toArray) hb) (own_one hd) (by omega) hn h63 (Nat.zero_le _) _ rfl ?_
  intro g cap w' k1 k2 k3 k4
  obtain ⟨F'', p1, p2, p3⟩ := appD_core ht hsz hO hF hA hd hl hnd k1 k2 k3
  exact h g cap w' F'' p1 p2 p3
end
/-! Lists of blocks. -/
theorem Fresh.repl {B C : Nat} {Y Y' Z F' : List Nat} (h : Fresh B (Y ++ Z)) (hl : Lo C (Y ++ Z)) (hB : B ≤ C) (hF : ∀ x ∈ F', C ≤ x) {H : Nat} (hH : C ≤ H) (ha : AppF H Y F' Y') : Fresh B (Y' ++ Z) := by
  obtain ⟨n1, n2, n3⟩ := List.nodup_append.1 h.1
  have key : ∀ x ∈ Y', x ∈ Y ∨ C ≤ x := fun x hx => by
    rcases ha.2 x hx with h1 | h1 | h1
    · exact .inl h1
    · exact .inr (hF x h1)
    · exact .inr (by omega)
  refine ⟨List.nodup_append.2 ⟨ha.1, n2, fun x hx y hy hxy => ?_⟩, fun x hx => ?_⟩
  · subst hxy
    rcases key x hx with h1 | h1
    · exact n3 x h1 x hy rfl
    · have := hl x (List.mem_append_right _ hy); omega
  · rcases List.mem_append.1 hx with hx | hx
    · rcases key x hx with h1 | h1
      · exact h.2 x (List.mem_append_left _ h1)
      · omega
    · exact h.2 x (List.mem_append_right _ hx)
theorem AppF.notin {H C g : Nat} {F F' F'' : List Nat} (ha : AppF H F F' F'') (h1 : g ∉ F) (h2 : ∀ x ∈ F', C ≤ x) (h3 : g < C) (h4 : g < H) : g ∉ F'' := fun hm => by
  rcases ha.2 g hm with h | h | h
  · exact h1 h
  · have := h2 g h; omega
  · omega
theorem Fresh.sub {B : Nat} {F G : List Nat} (h : Fresh B F) (hs : G.Sublist F) : Fresh B G := ⟨h.1.sublist hs, fun x hx => h.2 x (hs.subset hx)⟩
theorem Fresh.perm {B : Nat} {F G : List Nat} (h : Fresh B F) (hp : F.Perm G) : Fresh B G := ⟨hp.nodup h.1, fun x hx => h.2 x (hp.mem_iff.2 hx)⟩
theorem Fresh.tail {B g : Nat} {F : List Nat} (h : Fresh B (g :: F)) : Fresh B F := ⟨(List.nodup_cons.1 h.1).2, fun x hx => h.2 x (List.mem_cons_of_mem _ hx)⟩
theorem Fresh.right {B : Nat} {F G : List Nat} (h : Fresh B (F ++ G)) : Fresh B G := ⟨(List.nodup_append.1 h.1).2.1, fun x hx => h.2 x (List.mem_append_right _ hx)⟩
theorem Fresh.left {B : Nat} {F G : List Nat} (h : Fresh B (F ++ G)) : Fresh B F := ⟨(List.nodup_append.1 h.1).1, fun x hx => h.2 x (List.mem_append_left _ hx)⟩
theorem Fresh.dis {B : Nat} {F G : List Nat} (h : Fresh B (F ++ G)) : ∀ g ∈ G, g ∉ F := fun g hg hf => (List.nodup_append.1 h.1).2.2 g hf g hg rfl
end Go.Proofs.Ytekcpadlmfaihaa
namespace Go.Proofs.Ytekcpadlmfaihaa
open Go.RowKit
theorem Blk.c3 {w : World} {g : Nat} {t : TypeId} {a b c : Value} (q : Blk w g t [a, b, c]) : w.cell? ⟨g, 0, none⟩ = some a ∧ w.cell? ⟨g, 1, none⟩ = some b ∧ w.cell? ⟨g, 2, none⟩ = some c := ⟨q.cell 0, q.cell 1, q.cell 2⟩
theorem Blk.grown {w w' : World} {g : Nat} {t : TypeId} {cs : List Value} {row : Option Nat} (h : Blk w g t cs) (hg : w.grownBy w' row) (hr : row ≠ some g) : Blk w' g t cs := (hg.block g h.lt (Ne.symm hr)).trans h
theorem Own.ne {α : Type} {enc : α → List Value} {s : Nat} {e : TypeId} {w : World} {base n c : Nat} {A : Option Addr} {l : List α} (h : Own enc s e w base A n c l) {g : Nat} (hg : g < base ∨ w.heap.size ≤ g) : (Value.slice A n c).ownBlock ≠ some g := by
  intro he
  have := h.row g he
  omega
theorem Own.dw {α : Type} {enc : α → List Value} {s : Nat} {e : TypeId} {w : World} {base n c : Nat} {A : Option Addr} {l : List α} (h : Own enc s e w base A n c l) : Own enc s e w.drew base A n c l := h.kept (only_drew (only_refl _ none)) (by cases A with | none => exact .inl rfl | some b => exact .inr (by simp [Value.ownBlock]))
theorem Own.al {α : Type} {enc : α → List Value} {s : Nat} {e : TypeId} {w : World} {base n c : Nat} {A : Option Addr} {l : List α} {o : Obj} (h : Own enc s e w base A n c l) : Own enc s e (w.alloc o) base A n c l := h.alloc o
/-- append of one element onto a row of the call's own, in a region that draws its order. -/
theorem step_app1 {P : Program} {α : Type} (enc : α → List Value) {size bytes : Nat} {t e : TypeId} (hT : ElemTy P t e size bytes) (henc : ∀ x, (enc x).length = size) (hone : ∀ x, ∀ u ∈ enc x, u.oneCell' = true)
    {ops : Array Oper} {o : Oper} {a : Act} {Q : Exit → Act → World → Prop} {K : Act → World → Prop} {E : Prop} {w : World} (hgd : o.guard = none) (sl x : Operand)
    (ho : o.op = .call { callee := .builtin .append, args := #[sl, x], argTypes := #[t, t] })
    (base : Nat) (A : Option Addr) (n c : Nat) (l : List α) (hs : a.eval sl = .slice A n c) (hown : Own enc size e w base A n c l)
    (y : α) (b m : Nat) (hx : a.eval x = .slice (some ⟨b, 0, none⟩) 1 m) {te : TypeId} (hb : Blk w b te (enc y))
    (h63 : (n + 1) * bytes ≤ 140737488355328) (hn : n + 1 ≤ maxLen) (hbase : base ≤ w.heap.size)
    (h : ∀ g c' w', Own enc size e w' base (some ⟨g, 0, none⟩) (n + 1) c' (l ++ [y]) → w.grownBy w' (Value.slice A n c).ownBlock → Below base w w' → K (a.put o.dst (.slice (some ⟨g, 0, none⟩) (n + 1) c')) w') :
    if Region.wanted o (yielded ops a.tmps) = true then Oper.wp P o a w K Q else E := by
  obtain ⟨i, z, ht, hi, hz, h1, h2, h3, h4⟩ := hT.ok
  have hlt := hown.2.lt
  refine step_append_lies w hgd sl x t ho base e i z size bytes ht hi hz h1 h2 h3 h4 _ n _ hs hown.2 ⟨b, 0, none⟩ 1 m (enc y) hx (by rw [henc, Nat.one_mul]) (World.news_of_block (cs := (enc y).toArray) hb) (hone y) (by omega) hn h63 hbase _ rfl ?_
  intro g cap w' k1 k2 k3 k4
  refine h g cap w' ⟨by simp [hown.1], ?_⟩ k2 ((Below.refl _ _).grown k2 hbase (fun k hk => (hlt k hk).1))
  rw [List.flatMap_append]; simpa using k1
end Go.Proofs.Ytekcpadlmfaihaa
namespace Go.Proofs.Ytekcpadlmfaihaa
open Go.RowKit
theorem sameTextsZ_any (A : Option Addr) (n c : Nat) (w : World) : Calls Try.prog 102 #[.slice A n c, .slice none 0 0] w fun e w' => e = .returned (.bool (decide (n = 0))) ∧ w = w' := by
  by_cases hn : n = 0
  · obtain rfl := hn
    go_enter Try.func102, Try.ntmps102
    go_wp2
    refine wp_loop_rounds 1 ?_
    rw [rounds_succ]
    go_wp2
    go_ret
    exact ⟨rfl, rfl⟩
  · have hb : ((n : Int) != 0) = true := by simp; omega
    have HD := Lib.hid (show decide (n = 0) = false by simpa using hn)
    go_enter Try.func102, Try.ntmps102
    go_wp2
    go_ret
    exact ⟨ret_bool HD.out.symm, rfl⟩
theorem l4StringsZ_any (A : Option Addr) (n c : Nat) (w : World) : Calls Try.prog 81 #[.slice A n c, .slice none 0 0] w fun e w' => e = .returned (.bool (decide (n = 0))) ∧ w = w' := by
  by_cases hn : n = 0
  · obtain rfl := hn
    go_enter Try.func81, Try.ntmps81
    go_wp2
    refine wp_loop_rounds 1 ?_
    rw [rounds_succ]
    go_wp2
    go_ret
    exact ⟨rfl, rfl⟩
  · have hb : ((n : Int) != 0) = true := by simp; omega
    have HD := Lib.hid (show decide (n = 0) = false by simpa using hn)
    go_enter Try.func81, Try.ntmps81
    go_wp2
    go_ret
    exact ⟨ret_bool HD.out.symm, rfl⟩
abbrev zvA : Value := .agg #[.int .i64 0, .slice none 0 0, .slice none 0 0, .slice none 0 0, .slice none 0 0, .slice none 0 0, .int .i64 0, .int .i64 0]
theorem isZ_no {v : Vec} (h : ¬ (v.kind = 0 ∧ v.code = 0 ∧ v.env = 0 ∧ v.names.length = 0 ∧ v.cls.length = 0 ∧ v.levels.length = 0 ∧ v.items.length = 0 ∧ v.parts.length = 0)) : isZ v = false := by
  unfold isZ; simpa using h
set_option maxRecDepth 100000 in
set_option maxHeartbeats 8000000 in
theorem equalZ_any (v : Vec) (cs : List Value) (w : World) (h : rep w w.heap.size v.toD cs) :
    Calls Try.prog 83 #[av cs, zvA] w fun e w' => e = .returned (.bool (isZ v)) ∧ Below w.heap.size w w' := by
  obtain ⟨Ai, ni, ci, Ap, np, cp, An, nn, cn, Ac, nc, cc, Al, nl, cl, rfl, hv⟩ := vec_open h
  have q0 := ((Below.refl w.heap.size w).alloc (Nat.le_refl _) (.cells (vc v Ai ni ci Ap np cp An nn cn Ac nc cc Al nl cl).toArray 34)).alloc (by simp only [wsize_alloc]; omega) (.cells #[.int .i64 0, .slice none 0 0, .slice none 0 0, .slice none 0 0, .slice none 0 0, .slice none 0 0, .int .i64 0, .int .i64 0] 34)
  have li := hv.it.len
  have lp := hv.pab.2.2
  have ln := hv.na.len
  have lc := hv.ca.len
  have ll := hv.la.len
  by_cases h0 : v.kind = 0
  rotate_left
  · have HZ := Lib.hid (isZ_no (v := v) (by omega))
    have b0 : ((v.kind : Int) != 0) = true := by simp; omega
    clear h0 li lp ln lc ll
    go_enter Try.func83, Try.ntmps83
    go_wp2_with (go_at_call 102; ((with_reducible refine (sameTextsZ_any _ _ _ _).mono ?_); rintro e w1 ⟨rfl, rfl⟩))
    go_ret
    exact ⟨ret_bool HZ.out.symm, q0⟩
  by_cases h1 : v.code = 0
  rotate_left
  · have HZ := Lib.hid (isZ_no (v := v) (by omega))
    have b0 : ((v.kind : Int) != 0) = false := by simp; omega
    have b1 : ((v.code : Int) != 0) = true := by simp; omega
    clear h0 h1 li lp ln lc ll
    go_enter Try.func83, Try.ntmps83
    go_wp2_with (go_at_call 102; ((with_reducible refine (sameTextsZ_any _ _ _ _).mono ?_); rintro e w1 ⟨rfl, rfl⟩))
    go_ret
    exact ⟨ret_bool HZ.out.symm, q0⟩
  by_cases h2 : v.env = 0
  rotate_left
  · have HZ := Lib.hid (isZ_no (v := v) (by omega))
    have b0 : ((v.kind : Int) != 0) = false := by simp; omega
    have b1 : ((v.code : Int) != 0) = false := by simp; omega
    have b2 : ((v.env : Int) != 0) = true := by simp; omega
    clear h0 h1 h2 li lp ln lc ll
    go_enter Try.func83, Try.ntmps83
    go_wp2_with (go_at_call 102; ((with_reducible refine (sameTextsZ_any _ _ _ _).mono ?_); rintro e w1 ⟨rfl, rfl⟩))
    go_ret
    exact ⟨ret_bool HZ.out.symm, q0⟩
  by_cases h3 : nn = 0
  rotate_left
  · have HZ := Lib.hid (isZ_no (v := v) (by omega))
    have b0 : ((v.kind : Int) != 0) = false := by simp; omega
    have b1 : ((v.code : Int) != 0) = false := by simp; omega
    have b2 : ((v.env : Int) != 0) = false := by simp; omega
    have b3 : ((nn : Int) != 0) = true := by simp; omega
    have d3 : decide (nn = 0) = false := by simp; omega
    clear h0 h1 h2 h3 li lp ln lc ll
    go_enter Try.func83, Try.ntmps83
    go_wp2_with (go_at_call 102; ((with_reducible refine (sameTextsZ_any _ _ _ _).mono ?_); rintro e w1 ⟨rfl, rfl⟩))
    go_ret
    exact ⟨ret_bool HZ.out.symm, q0⟩
  by_cases h4 : nc = 0
  rotate_left
  · have HZ := Lib.hid (isZ_no (v := v) (by omega))
    have b0 : ((v.kind : Int) != 0) = false := by simp; omega
    have b1 : ((v.code : Int) != 0) = false := by simp; omega
    have b2 : ((v.env : Int) != 0) = false := by simp; omega
    have b3 : ((nn : Int) != 0) = false := by simp; omega
    have d3 : decide (nn = 0) = true := by simp; omega
    have b4 : ((nc : Int) != 0) = true := by simp; omega
    have d4 : decide (nc = 0) = false := by simp; omega
    clear h0 h1 h2 h3 h4 li lp ln lc ll
    go_enter Try.func83, Try.ntmps83
    go_wp2_with (go_at_call 102; ((with_reducible refine (sameTextsZ_any _ _ _ _).mono ?_); rintro e w1 ⟨rfl, rfl⟩))
    go_ret
    exact ⟨ret_bool HZ.out.symm, q0⟩
  by_cases h5 : nl = 0
  rotate_left
  · have HZ := Lib.hid (isZ_no (v := v) (by omega))
    have b0 : ((v.kind : Int) != 0) = false := by simp; omega
    have b1 : ((v.code : Int) != 0) = false := by simp; omega
    have b2 : ((v.env : Int) != 0) = false := by simp; omega
    have b3 : ((nn : Int) != 0) = false := by simp; omega
    have d3 : decide (nn = 0) = true := by simp; omega
    have b4 : ((nc : Int) != 0) = false := by simp; omega
    have d4 : decide (nc = 0) = true := by simp; omega
    have b5 : ((nl : Int) != 0) = true := by simp; omega
    have d5 : decide (nl = 0) = false := by simp; omega
    clear h0 h1 h2 h3 h4 h5 li lp ln lc ll
    go_enter Try.func83, Try.ntmps83
    go_wp2_with (go_at_call 102; ((with_reducible refine (sameTextsZ_any _ _ _ _).mono ?_); rintro e w1 ⟨rfl, rfl⟩))
    go_ret
    exact ⟨ret_bool HZ.out.symm, q0⟩
  by_cases h6 : ni = 0
  rotate_left
  · have HZ := Lib.hid (isZ_no (v := v) (by omega))
    have b0 : ((v.kind : Int) != 0) = false := by simp; omega
    have b1 : ((v.code : Int) != 0) = false := by simp; omega
    have b2 : ((v.env : Int) != 0) = false := by simp; omega
    have b3 : ((nn : Int) != 0) = false := by simp; omega
    have d3 : decide (nn = 0) = true := by simp; omega
    have b4 : ((nc : Int) != 0) = false := by simp; omega
    have d4 : decide (nc = 0) = true := by simp; omega
    have b5 : ((nl : Int) != 0) = false := by simp; omega
    have d5 : decide (nl = 0) = true := by simp; omega
    have b6 : ((ni : Int) != 0) = true := by simp; omega
    clear h0 h1 h2 h3 h4 h5 h6 li lp ln lc ll
    go_enter Try.func83, Try.ntmps83
    go_wp2_with (go_at_call 102; ((with_reducible refine (sameTextsZ_any _ _ _ _).mono ?_); rintro e w1 ⟨rfl, rfl⟩))
    go_ret
    exact ⟨ret_bool HZ.out.symm, q0⟩
  by_cases h7 : np = 0
  rotate_left
  · have HZ := Lib.hid (isZ_no (v := v) (by omega))
    have b0 : ((v.kind : Int) != 0) = false := by simp; omega
    have b1 : ((v.code : Int) != 0) = false := by simp; omega
    have b2 : ((v.env : Int) != 0) = false := by simp; omega
    have b3 : ((nn : Int) != 0) = false := by simp; omega
    have d3 : decide (nn = 0) = true := by simp; omega
    have b4 : ((nc : Int) != 0) = false := by simp; omega
    have d4 : decide (nc = 0) = true := by simp; omega
    have b5 : ((nl : Int) != 0) = false := by simp; omega
    have d5 : decide (nl = 0) = true := by simp; omega
    have b6 : ((ni : Int) != 0) = false := by simp; omega
    have b7 : ((np : Int) != 0) = true := by simp; omega
    clear h0 h1 h2 h3 h4 h5 h6 h7 li lp ln lc ll
    go_enter Try.func83, Try.ntmps83
    go_wp2_with (go_at_call 102; ((with_reducible refine (sameTextsZ_any _ _ _ _).mono ?_); rintro e w1 ⟨rfl, rfl⟩))
    go_ret
    exact ⟨ret_bool HZ.out.symm, q0⟩
  have HZ := Lib.hid (show isZ v = true by unfold isZ; exact decide_eq_true (by omega))
  have b0 : ((v.kind : Int) != 0) = false := by simp; omega
  have b1 : ((v.code : Int) != 0) = false := by simp; omega
  have b2 : ((v.env : Int) != 0) = false := by simp; omega
  obtain rfl : ni = 0 := by omega
  obtain rfl : np = 0 := by omega
  obtain rfl : nn = 0 := by omega
  obtain rfl : nc = 0 := by omega
  obtain rfl : nl = 0 := by omega
  clear li lp ln lc ll
  clear h0 h1 h2 h3 h4 h5 h6 h7
  go_enter Try.func83, Try.ntmps83
  go_wp2_with (go_at_call 102; ((with_reducible refine (sameTextsZ_any _ _ _ _).mono ?_); rintro e w1 ⟨rfl, rfl⟩))
  refine wp_loop_rounds 1 ?_
  rw [rounds_succ]
  go_wp2_with fail
  refine wp_loop_rounds 1 ?_
  rw [rounds_succ]
  go_wp2_with fail
  go_ret
  exact ⟨ret_bool HZ.out.symm, q0⟩
set_option maxRecDepth 100000 in
set_option maxHeartbeats 8000000 in
theorem l4SameZ_any (v : Vec) (cs : List Value) (w : World) (h : rep w w.heap.size v.toD cs) :
    Calls Try.prog 41 #[av cs, zvA] w fun e w' => e = .returned (.bool (isZ v)) ∧ Below w.heap.size w w' := by
  obtain ⟨Ai, ni, ci, Ap, np, cp, An, nn, cn, Ac, nc, cc, Al, nl, cl, rfl, hv⟩ := vec_open h
  have q0 := ((Below.refl w.heap.size w).alloc (Nat.le_refl _) (.cells (vc v Ai ni ci Ap np cp An nn cn Ac nc cc Al nl cl).toArray 34)).alloc (by simp only [wsize_alloc]; omega) (.cells #[.int .i64 0, .slice none 0 0, .slice none 0 0, .slice none 0 0, .slice none 0 0, .slice none 0 0, .int .i64 0, .int .i64 0] 34)
  have li := hv.it.len
  have lp := hv.pab.2.2
  have ln := hv.na.len
  have lc := hv.ca.len
  have ll := hv.la.len
  by_cases h0 : v.kind = 0
  rotate_left
  · have HZ := Lib.hid (isZ_no (v := v) (by omega))
    have b0 : ((v.kind : Int) != 0) = true := by simp; omega
    clear h0 li lp ln lc ll
    go_enter Try.func41, Try.ntmps41
    go_wp2_with (go_at_call 81; ((with_reducible refine (l4StringsZ_any _ _ _ _).mono ?_); rintro e w1 ⟨rfl, rfl⟩))
    go_ret
    exact ⟨ret_bool HZ.out.symm, q0⟩
  by_cases h1 : ni = 0
  rotate_left
  · have HZ := Lib.hid (isZ_no (v := v) (by omega))
    have b0 : ((v.kind : Int) != 0) = false := by simp; omega
    have b1 : ((ni : Int) != 0) = true := by simp; omega
    clear h0 h1 li lp ln lc ll
    go_enter Try.func41, Try.ntmps41
    go_wp2_with (go_at_call 81; ((with_reducible refine (l4StringsZ_any _ _ _ _).mono ?_); rintro e w1 ⟨rfl, rfl⟩))
    go_ret
    exact ⟨ret_bool HZ.out.symm, q0⟩
  by_cases h2 : np = 0
  rotate_left
  · have HZ := Lib.hid (isZ_no (v := v) (by omega))
    have b0 : ((v.kind : Int) != 0) = false := by simp; omega
    have b1 : ((ni : Int) != 0) = false := by simp; omega
    have b2 : ((np : Int) != 0) = true := by simp; omega
    clear h0 h1 h2 li lp ln lc ll
    go_enter Try.func41, Try.ntmps41
    go_wp2_with (go_at_call 81; ((with_reducible refine (l4StringsZ_any _ _ _ _).mono ?_); rintro e w1 ⟨rfl, rfl⟩))
    go_ret
    exact ⟨ret_bool HZ.out.symm, q0⟩
  by_cases h3 : v.code = 0
  rotate_left
  · have HZ := Lib.hid (isZ_no (v := v) (by omega))
    have b0 : ((v.kind : Int) != 0) = false := by simp; omega
    have b1 : ((ni : Int) != 0) = false := by simp; omega
    have b2 : ((np : Int) != 0) = false := by simp; omega
    have b3 : ((v.code : Int) != 0) = true := by simp; omega
    clear h0 h1 h2 h3 li lp ln lc ll
    go_enter Try.func41, Try.ntmps41
    go_wp2_with (go_at_call 81; ((with_reducible refine (l4StringsZ_any _ _ _ _).mono ?_); rintro e w1 ⟨rfl, rfl⟩))
    go_ret
    exact ⟨ret_bool HZ.out.symm, q0⟩
  by_cases h4 : v.env = 0
  rotate_left
  · have HZ := Lib.hid (isZ_no (v := v) (by omega))
    have b0 : ((v.kind : Int) != 0) = false := by simp; omega
    have b1 : ((ni : Int) != 0) = false := by simp; omega
    have b2 : ((np : Int) != 0) = false := by simp; omega
    have b3 : ((v.code : Int) != 0) = false := by simp; omega
    have b4 : ((v.env : Int) != 0) = true := by simp; omega
    clear h0 h1 h2 h3 h4 li lp ln lc ll
    go_enter Try.func41, Try.ntmps41
    go_wp2_with (go_at_call 81; ((with_reducible refine (l4StringsZ_any _ _ _ _).mono ?_); rintro e w1 ⟨rfl, rfl⟩))
    go_ret
    exact ⟨ret_bool HZ.out.symm, q0⟩
  by_cases h5 : nn = 0
  rotate_left
  · have HZ := Lib.hid (isZ_no (v := v) (by omega))
    have b0 : ((v.kind : Int) != 0) = false := by simp; omega
    have b1 : ((ni : Int) != 0) = false := by simp; omega
    have b2 : ((np : Int) != 0) = false := by simp; omega
    have b3 : ((v.code : Int) != 0) = false := by simp; omega
    have b4 : ((v.env : Int) != 0) = false := by simp; omega
    have b5 : ((nn : Int) != 0) = true := by simp; omega
    have d5 : decide (nn = 0) = false := by simp; omega
    clear h0 h1 h2 h3 h4 h5 li lp ln lc ll
    go_enter Try.func41, Try.ntmps41
    go_wp2_with (go_at_call 81; ((with_reducible refine (l4StringsZ_any _ _ _ _).mono ?_); rintro e w1 ⟨rfl, rfl⟩))
    go_ret
    exact ⟨ret_bool HZ.out.symm, q0⟩
  by_cases h6 : nc = 0
  rotate_left
  · have HZ := Lib.hid (isZ_no (v := v) (by omega))
    have b0 : ((v.kind : Int) != 0) = false := by simp; omega
    have b1 : ((ni : Int) != 0) = false := by simp; omega
    have b2 : ((np : Int) != 0) = false := by simp; omega
    have b3 : ((v.code : Int) != 0) = false := by simp; omega
    have b4 : ((v.env : Int) != 0) = false := by simp; omega
    have b5 : ((nn : Int) != 0) = false := by simp; omega
    have d5 : decide (nn = 0) = true := by simp; omega
    have b6 : ((nc : Int) != 0) = true := by simp; omega
    have d6 : decide (nc = 0) = false := by simp; omega
    clear h0 h1 h2 h3 h4 h5 h6 li lp ln lc ll
    go_enter Try.func41, Try.ntmps41
    go_wp2_with (go_at_call 81; ((with_reducible refine (l4StringsZ_any _ _ _ _).mono ?_); rintro e w1 ⟨rfl, rfl⟩))
    go_ret
    exact ⟨ret_bool HZ.out.symm, q0⟩
  by_cases h7 : nl = 0
  rotate_left
  · have HZ := Lib.hid (isZ_no (v := v) (by omega))
    have b0 : ((v.kind : Int) != 0) = false := by simp; omega
    have b1 : ((ni : Int) != 0) = false := by simp; omega
    have b2 : ((np : Int) != 0) = false := by simp; omega
    have b3 : ((v.code : Int) != 0) = false := by simp; omega
    have b4 : ((v.env : Int) != 0) = false := by simp; omega
    have b5 : ((nn : Int) != 0) = false := by simp; omega
    have d5 : decide (nn = 0) = true := by simp; omega
    have b6 : ((nc : Int) != 0) = false := by simp; omega
    have d6 : decide (nc = 0) = true := by simp; omega
    have b7 : ((nl : Int) != 0) = true := by simp; omega
    have d7 : decide (nl = 0) = false := by simp; omega
    clear h0 h1 h2 h3 h4 h5 h6 h7 li lp ln lc ll
    go_enter Try.func41, Try.ntmps41
    go_wp2_with (go_at_call 81; ((with_reducible refine (l4StringsZ_any _ _ _ _).mono ?_); rintro e w1 ⟨rfl, rfl⟩))
    go_ret
    exact ⟨ret_bool HZ.out.symm, q0⟩
  have HZ := Lib.hid (show isZ v = true by unfold isZ; exact decide_eq_true (by omega))
  have b0 : ((v.kind : Int) != 0) = false := by simp; omega
  have b3 : ((v.code : Int) != 0) = false := by simp; omega
  have b4 : ((v.env : Int) != 0) = false := by simp; omega
  obtain rfl : ni = 0 := by omega
  obtain rfl : np = 0 := by omega
  obtain rfl : nn = 0 := by omega
  obtain rfl : nc = 0 := by omega
  obtain rfl : nl = 0 := by omega
  clear li lp ln lc ll
  clear h0 h1 h2 h3 h4 h5 h6 h7
  go_enter Try.func41, Try.ntmps41
  go_wp2_with (go_at_call 81; ((with_reducible refine (l4StringsZ_any _ _ _ _).mono ?_); rintro e w1 ⟨rfl, rfl⟩))
  refine wp_loop_rounds 1 ?_
  rw [rounds_succ]
  go_wp2_with fail
  refine wp_loop_rounds 1 ?_
  rw [rounds_succ]
  go_wp2_with fail
  go_ret
  exact ⟨ret_bool HZ.out.symm, q0⟩
set_option maxHeartbeats 2000000 in
theorem isZeroVector_any (v : Vec) (cs : List Value) (w : World) (h : rep w w.heap.size v.toD cs) : Calls Try.prog 46 #[av cs] w fun e w' => e = .returned (.bool (isZ v)) ∧ Below w.heap.size w w' := by
  obtain ⟨Ai, ni, ci, Ap, np, cp, An, nn, cn, Ac, nc, cc, Al, nl, cl, rfl, hv⟩ := vec_open h
  have q0 := (Below.refl w.heap.size w).alloc (Nat.le_refl _) (.cells (vc v Ai ni ci Ap np cp An nn cn Ac nc cc Al nl cl).toArray 34)
  go_enter Try.func46, Try.ntmps46
  go_wp2_with fail
  refine (equalZ_any v _ _ (rep_next h q0)).mono ?_
  rintro e w1 ⟨rfl, hb1⟩
  go_wp2_with fail
  go_ret
  exact ⟨rfl, bth q0 hb1⟩
end Go.Proofs.Ytekcpadlmfaihaa
namespace Go.Proofs.Ytekcpadlmfaihaa
open Go.RowKit
def cfP (h : Hp) (d : Nat) : Prop := ∀ (k : Int) (cs : List Value) (w : World), rep w w.heap.size h.toD cs → Calls Try.prog 48 #[av cs, .int .i64 k, .int .i64 d] w fun e w' => e = .returned (.bool (fitsD h d k)) ∧ Below w.heap.size w w'
theorem fitsD_no {h : Hp} {d : Nat} {k : Int} (hf : fitL d (celD h k) = false) : fitsD h d k = false := by
  cases d <;> (rw [fitsD, hf]; try rfl)
theorem celD_out {h : Hp} {k : Int} (hk : k < 0 ∨ (h.cells.length : Int) ≤ k) : (celD h k).count = 0 := by
  unfold celD
  split
  · rw [List.getElem?_eq_none (by omega)]; rfl
  · rfl
theorem fitsD_parts {h : Hp} {d : Nat} {k : Int} (hf : fitL d (celD h k) = true) : fitsD h d k = (celD h k).parts.all (fitsD h (d - 1)) := by
  cases d with
  | zero => rw [fitsD, hf, fitL_zero hf]; rfl
  | succ d => rw [fitsD, hf]; rfl
set_option maxRecDepth 100000 in
set_option maxHeartbeats 8000000 in
theorem cellFits_of (h : Hp) (d : Nat) (hd : (d : Int) ≤ 100) (hc : (h.cells.length : Int) ≤ 1048576) (ih : ∀ d', d = d' + 1 → cfP h d') : cfP h d := by
  intro k cs w hr
  obtain ⟨A, n, c, Am, nm, cm, As, ns, ca, rfl, rc, rn, rs, wc⟩ := Heap_open hr
  have hl := (rep_sl_len rc).1
  rw [List.length_map] at hl
  have q0 := (Below.refl w.heap.size w).alloc (Nat.le_refl _) (.cells #[.slice A n c, .slice Am nm cm, .slice As ns ca, .int .i64 h.copies] 48)
  by_cases k0 : k < 0
  · have HZ := Lib.hid (fitsD_no (d := d) (h := h) (k := k) (by simp [fitL, celD_out (h := h) (k := k) (.inl k0)]))
    clear hl
    go_enter Try.func48, Try.ntmps48
    go_wp2_with fail
    go_ret
    exact ⟨ret_bool HZ.out.symm, q0⟩
  by_cases kn : (n : Int) ≤ k
  · have HZ := Lib.hid (fitsD_no (d := d) (h := h) (k := k) (by simp [fitL, celD_out (h := h) (k := k) (.inr (by omega))]))
    clear hl
    go_enter Try.func48, Try.ntmps48
    go_wp2_with fail
    go_ret
    exact ⟨ret_bool HZ.out.symm, q0⟩
  obtain ⟨j, rfl⟩ : ∃ j : Nat, k = j := ⟨k.toNat, by omega⟩
  have hj : j < n := by omega
  obtain ⟨b, off, x, Ai, ni, ci, Ap, np, cp, An, nn, cn, Ac, nc, cc, Al, nl, cl, Aq, nq, cq, rfl, hbl, hx, hrx, e0, e1, e2, e3, e4, e5, e6, e7, e8, e9⟩ := Cell_at rc hj
  have HX := Lib.hid (celD_at (h := h) hx)
  obtain ⟨_, _, _, _, _, _, _, _, _, _, _, _, _, _, _, Aq', nq', cq', hcs, wcn, rv, rq⟩ := Cell_open hrx
  have e9' := congrArg (fun l : List Value => l[9]?) hcs
  simp only [List.getElem?_cons_succ, List.getElem?_cons_zero, Option.some.injEq, Value.slice.injEq] at e9'
  obtain ⟨rfl, rfl, rfl⟩ := e9'
  obtain ⟨Aq', nq', cq', he, _, _, hq, _⟩ := (repI _ _ _ _).1 rq
  injection he with he; injection he with f1 f2 f3; subst f1 f2 f3
  have HQ := Lib.hid hq.len
  have bj : (j : Int) < (n : Int) := by omega
  have yb : b < w.heap.size := hbl
  have q1 := q0.alloc (by simp only [wsize_alloc]; omega) (.cells #[.int .i64 x.count, .int .i64 x.value.kind, .slice Ai ni ci, .slice Ap np cp, .slice An nn cn, .slice Ac nc cc, .slice Al nl cl, .int .i64 x.value.code, .int .i64 x.value.env, .slice Aq nq cq] 71)
  clear hl hx hcs rv rq
  by_cases hcn : x.count ≤ 0
  · have HZ := Lib.hid (fitsD_no (d := d) (h := h) (k := (j : Int)) (by rw [HX.out]; simp [fitL]; omega))
    go_enter Try.func48, Try.ntmps48
    go_wp2_with fail
    go_ret
    exact ⟨ret_bool HZ.out.symm, q0⟩
  by_cases hz : nq = 0
  · have hf : fitL d (celD h (j : Int)) = true := by
      rw [HX.out]; simp only [fitL, HQ.out, hz]; simp; omega
    have HZ : Hid (fitsD h d (j : Int) = true) := Lib.hid (by rw [fitsD_parts hf, HX.out, List.length_eq_zero_iff.1 (HQ.out.trans hz)]; rfl)
    obtain rfl := hz
    clear hf
    go_enter Try.func48, Try.ntmps48
    go_wp2_with fail
    refine wp_loop_rounds 1 ?_
    rw [rounds_succ]
    go_wp2_with fail
    go_ret
    exact ⟨ret_bool HZ.out.symm, q1⟩
  have hzp : 0 < nq := by omega
  by_cases hbad : x.value.kind ≠ 4 ∨ 40 < nq ∨ d = 0
  · have HZ := Lib.hid (fitsD_no (d := d) (h := h) (k := (j : Int)) (by rw [HX.out]; simp only [fitL, HQ.out]; simp; omega))
    rcases (show (x.value.kind != 4) = true ∨ ((x.value.kind != 4) = false ∧ (40 : Int) < nq) ∨ ((x.value.kind != 4) = false ∧ ¬ (40 : Int) < nq ∧ ((d : Int) == 0) = true) by
      by_cases a4 : x.value.kind = 4
      · right
        by_cases a40 : 40 < nq
        · left; exact ⟨by simpa using a4, by omega⟩
        · right; exact ⟨by simpa using a4, by omega, by simp; omega⟩
      · left; simpa using a4) with t4 | ⟨t4, t40⟩ | ⟨t4, t40, td⟩
    all_goals
      clear hbad hz
      go_enter Try.func48, Try.ntmps48
      go_wp2_with fail
      go_ret
      exact ⟨ret_bool HZ.out.symm, q1⟩
  obtain ⟨d', rfl⟩ : ∃ d', d = d' + 1 := ⟨d - 1, by omega⟩
  have t4 : (x.value.kind != 4) = false := by simp; omega
  have t40 : ¬ (40 : Int) < nq := by omega
  have td : (((d' + 1 : Nat) : Int) == 0) = false := by simp; omega
  have hf : fitL (d' + 1) (celD h (j : Int)) = true := by
    rw [HX.out]; simp only [fitL, HQ.out]; simp; omega
  have HR := Lib.hid (show fitsD h (d' + 1) (j : Int) = x.parts.all (fitsD h d') by rw [fitsD_parts hf, HX.out]; rfl)
  have HIH := Lib.hid (ih d' rfl)
  have kh : Blk ((w.alloc (.cells #[.slice (some ⟨b, off, none⟩) n c, .slice Am nm cm, .slice As ns ca, .int .i64 h.copies] 48)).alloc (.cells #[.int .i64 x.count, .int .i64 x.value.kind, .slice Ai ni ci, .slice Ap np cp, .slice An nn cn, .slice Ac nc cc, .slice Al nl cl, .int .i64 x.value.code, .int .i64 x.value.env, .slice Aq nq cq] 71)) w.heap.size 48 [.slice (some ⟨b, off, none⟩) n c, .slice Am nm cm, .slice As ns ca, .int .i64 h.copies] := (Blk.new' (l := [.slice (some ⟨b, off, none⟩) n c, .slice Am nm cm, .slice As ns ca, .int .i64 h.copies])).al
  clear hf ih hbad hz
  go_enter Try.func48, Try.ntmps48
  go_wp2_with fail
  go_loopw [56] (fun v56 wr => ∃ m : Nat, m ≤ nq ∧ v56 = .int .i64 m ∧ (x.parts.take m).all (fitsD h d') = true ∧ Blk wr w.heap.size 48 [.slice (some ⟨b, off, none⟩) n c, .slice Am nm cm, .slice As ns ca, .int .i64 h.copies] ∧ Below w.heap.size w wr) (fun v56 _ => nq - (intOf v56).toNat)
  case atStart => exact ⟨0, by omega, rfl, by simp, kh, q1⟩
  case round =>
    clear kh q1
    obtain ⟨m, hm, rfl, hall, kh, bb⟩ := hrel
    obtain ⟨g0, g1, g2, g3⟩ := kh.c4
    have HAL := Lib.hid hall
    clear hall
    by_cases hlt : m < nq
    · obtain ⟨b2, o2, y, rfl, hb2, hy, hc2⟩ := (hq.below bb).at_ hlt
      have c2 := hc2 0 _ rfl
      simp only [Nat.mul_one, Nat.add_zero] at c2
      have HY := Lib.hid hy
      clear hc2 hy
      have Hr := Lib.hid hr
      clear hr
      go_wp2_with fail
      refine (HIH.out y _ _ (rep_in Hr.out bb bb.size)).mono ?_
      rintro e w3 ⟨rfl, hb3⟩
      obtain ⟨hc3, hf3⟩ := bcell hb3; have z3 := hb3.size; (try simp only [wsize_drew, wsize_alloc, wsize_set] at hc3 hf3 z3)
      cases hfy : fitsD h d' y
      · have HF := Lib.hid hfy
        clear hfy
        go_wp2_with fail
        go_ret
        exact ⟨ret_bool (by rw [HR.out]; exact (all_bad HY.out HF.out).symm), bth bb hb3⟩
      · have HF := Lib.hid hfy
        clear hfy
        go_wp2_with fail
        go_roundw
        case rel => exact ⟨m + 1, by omega, by go_num, all_snoc HY.out HAL.out HF.out, kh.next hb3, bth bb hb3⟩
        case measure => simp [intOf]; omega
    · obtain rfl : m = nq := by omega
      go_wp2_with fail
      go_ret
      exact ⟨ret_bool (by rw [HR.out, ← HAL.out, List.take_of_length_le (by rw [HQ.out]; omega)]), bb⟩
theorem cellFits_any (h : Hp) (hc : (h.cells.length : Int) ≤ 1048576) : ∀ d : Nat, (d : Int) ≤ 100 → cfP h d
  | 0, hd => cellFits_of h 0 hd hc (fun d' e => by omega)
  | d + 1, hd => cellFits_of h (d + 1) hd hc (fun d' e => by
      obtain rfl : d = d' := by omega
      exact cellFits_any h hc d (by omega))
end Go.Proofs.Ytekcpadlmfaihaa
