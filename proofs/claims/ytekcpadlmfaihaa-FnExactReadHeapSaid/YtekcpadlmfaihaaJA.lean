/- Words for memory that the walks of this family share: a slice that reads as a list of data, each datum some cells; strings as lists of bytes. No conditions. More words for memory: a store into a row of the call's own. What a call leaves as it was, in the form that the walk uses. Data as trees, and what it is for cells of memory to hold such data. Data in memory of the call's own: which blocks it takes, and what leaves it as it is. The cursor from which the laws draw their inputs: what each drawing function may return. Texts: names, finding a text in a list, lines: what the functions of the program and of the reference return. -/
import Derived.Test.YtekcpadlmfaihaaRows
import Derived.WalkKit
import Derived.WalkSpells
import Derived.WalkLawsBesides
import Derived.Lib.Hide
import Derived.Lib.Strings
import Derived.Below
import Derived.Laws.OwnMore
import Derived.Deep.AppendLies
import Derived.Deep.Draws
import Derived.Deep.QuietTactic
import Derived.BigQuiet
import Derived.Laws.MakeOwn
import Derived.Maps.AppendAt
import Derived.Deep.RegionHeld3
import Derived.Deep.LoopGhost
import Derived.StillTailTactics
import Derived.IntWalk
import Derived.Laws.BitsAllLaws
set_option linter.unusedSimpArgs false
set_option linter.unusedVariables false
namespace Go.Proofs.Ytekcpadlmfaihaa
open Go.RowKit

/-! Strings are lists of bytes. -/
abbrev Str := List UInt8
abbrev sv (s : Str) : Value := .string ⟨s.toArray⟩
@[go_sem] theorem str_extract (s : List UInt8) (a b : Nat) : (⟨s.toArray⟩ : ByteArray).extract a b = ⟨((s.drop a).take (b - a)).toArray⟩ := by
  rw [Lib.extract_eq]
@[go_sem] theorem str_append (a b : List UInt8) : (⟨a.toArray⟩ : ByteArray) ++ ⟨b.toArray⟩ = ⟨(a ++ b).toArray⟩ := ByteArray.mk_append_mk a b
@[go_sem] theorem str_get (s : List UInt8) (i : Nat) (h : i < (⟨s.toArray⟩ : ByteArray).size) : (⟨s.toArray⟩ : ByteArray)[i] = s[i]'h := rfl
theorem str_eta (b : ByteArray) : ∃ s : Str, b = ⟨s.toArray⟩ := ⟨b.data.toList, by cases b; simp⟩

theorem ret_int {k : IntKind} {a b : Int} (h : a = b) : Ending.returned (.int k a) = .returned (.int k b) := by rw [h]
theorem ret_bool {a b : Bool} (h : a = b) : Ending.returned (.bool a) = .returned (.bool b) := by rw [h]
theorem ret_str {a b : Str} (h : a = b) : Ending.returned (sv a) = .returned (sv b) := by rw [h]

theorem below_drewN {B : Nat} {a w : World} (h : Below B a w) (n : Nat) : Below B a (w.drewN n) := ⟨h.os, h.tape, h.output, h.size, h.block⟩
/-- A call inside a call: what it leaves is below the outer start. -/
theorem bth {a b c : World} (h : Below a.heap.size a b) (k : Below b.heap.size b c) : Below a.heap.size a c := h.trans (k.mono h.size)

section
variable {α : Type} {enc : α → List Value} {s : Nat} {w w' : World} {B B' n : Nat} {A : Option Addr} {l : List α}

/-- The slice value '.slice A n c' holds the data l, each as the cells 'enc x' (s cells an element), below block B. -/
def Reads (enc : α → List Value) (s : Nat) (w : World) (B : Nat) (A : Option Addr) (n : Nat) (l : List α) : Prop :=
  l.length = n ∧ (0 < n → ∃ b off, A = some ⟨b, off, none⟩ ∧ b < B ∧ ∀ k x j u, l[k]? = some x → (enc x)[j]? = some u → w.cell? ⟨b, off + k * s + j, none⟩ = some u)

theorem Reads.len (h : Reads enc s w B A n l) : l.length = n := h.1
theorem Reads.nil_ : Reads enc s w B A 0 ([] : List α) := ⟨rfl, fun h => absurd h (by omega)⟩
theorem Reads.keep (h : Reads enc s w B A n l) (hk : ∀ p : Addr, p.block < B → w'.cell? p = w.cell? p) : Reads enc s w' B A n l :=
  ⟨h.1, fun hn => by
    obtain ⟨b, off, e, hb, hc⟩ := h.2 hn
    exact ⟨b, off, e, hb, fun k x j u hx hu => (hk _ hb).trans (hc k x j u hx hu)⟩⟩
theorem Reads.more (h : Reads enc s w B A n l) (hB : B ≤ B') : Reads enc s w B' A n l :=
  ⟨h.1, fun hn => by
    obtain ⟨b, off, e, hb, hc⟩ := h.2 hn
    exact ⟨b, off, e, by omega, hc⟩⟩
theorem Reads.below (h : Reads enc s w B A n l) (hb : Below B w w') : Reads enc s w' B A n l := h.keep fun _ hp => hb.cell hp
theorem Reads.next (h : Reads enc s w w.heap.size A n l) (hb : Below w.heap.size w w') : Reads enc s w' w'.heap.size A n l := (h.below hb).more hb.size
theorem Reads.at_ {k : Nat} (h : Reads enc s w B A n l) (hk : k < n) :
    ∃ b off x, A = some ⟨b, off, none⟩ ∧ b < B ∧ l[k]? = some x ∧ ∀ j u, (enc x)[j]? = some u → w.cell? ⟨b, off + k * s + j, none⟩ = some u := by
  obtain ⟨b, off, e, hb, hc⟩ := h.2 (by omega)
  have hl : k < l.length := by rw [h.1]; exact hk
  have hx : l[k]? = some l[k] := List.getElem?_eq_getElem hl
  exact ⟨b, off, l[k], e, hb, hx, fun j u hu => hc k _ j u hx hu⟩
end

/-- Pairs of strings. -/
abbrev Pair := Str × Str
def enc2 (e : Pair) : List Value := [sv e.1, sv e.2]
theorem Reads.at2 {w : World} {B n k : Nat} {A : Option Addr} {l : List Pair} (h : Reads enc2 2 w B A n l) (hk : k < n) :
    ∃ b off, ∃ x y : Str, A = some ⟨b, off, none⟩ ∧ b < B ∧ l[k]? = some (x, y) ∧ w.cell? ⟨b, off + k * 2, none⟩ = some (sv x) ∧ w.cell? ⟨b, off + k * 2 + 1, none⟩ = some (sv y) := by
  obtain ⟨b, off, x, e, hb, hx, hc⟩ := h.at_ hk
  exact ⟨b, off, x.1, x.2, e, hb, hx, hc 0 _ rfl, hc 1 _ rfl⟩

/-! A block that is known whole. -/
def Blk (w : World) (g : Nat) (t : TypeId) (cs : List Value) : Prop := w.heap[g]? = some (.cells cs.toArray t (0, 0))
section
variable {w w' : World} {g : Nat} {t : TypeId} {cs : List Value}
theorem Blk.lt (h : Blk w g t cs) : g < w.heap.size := by
  rcases Nat.lt_or_ge g w.heap.size with hlt | hge
  · exact hlt
  · unfold Blk at h; rw [Array.getElem?_eq_none hge] at h; cases h
theorem Blk.cell (h : Blk w g t cs) (i : Nat) : w.cell? ⟨g, i, none⟩ = cs[i]? := by
  have := cell_of_row w g i cs.toArray t (0, 0) h
  simpa using this
theorem Blk.frozen (h : Blk w g t cs) (i : Nat) : w.frozen? ⟨g, i, none⟩ = false := by
  unfold Blk at h
  simp [World.frozen?, h]
theorem Blk.set_ (h : Blk w g t cs) (i : Nat) (u : Value) : Blk (w.setCell ⟨g, i, none⟩ u) g t (cs.set i u) := by
  unfold Blk at h ⊢
  simp [World.setCell, Array.getElem?_modify, h]
theorem Blk.below {B : Nat} (h : Blk w g t cs) (hb : Below B w w') (hg : g < B) : Blk w' g t cs := (hb.block g hg).trans h
end
theorem flat_at {α : Type} {enc : α → List Value} {s : Nat} (hs : ∀ x, (enc x).length = s) (l : List α) (k j : Nat) (x : α) (u : Value) (h : l[k]? = some x) (hu : (enc x)[j]? = some u) : (l.flatMap enc)[k * s + j]? = some u := by
  induction l generalizing k with
  | nil => simp at h
  | cons a t ih =>
    cases k with
    | zero =>
      simp at h; subst h
      have hj : j < (enc a).length := (List.getElem?_eq_some_iff.1 hu).1
      simpa [List.getElem?_append_left hj] using hu
    | succ k =>
      simp at h
      have e1 : (k + 1) * s + j = (enc a).length + (k * s + j) := by rw [hs, Nat.succ_mul]; omega
      rw [List.flatMap_cons, e1, List.getElem?_append_right (by omega), Nat.add_sub_cancel_left]
      exact ih k h
theorem flat_length {α : Type} {enc : α → List Value} {s : Nat} (hs : ∀ x, (enc x).length = s) (l : List α) : (l.flatMap enc).length = l.length * s := by
  induction l with
  | nil => simp
  | cons a t ih => rw [List.flatMap_cons, List.length_append, hs, ih, List.length_cons, Nat.succ_mul]; omega
theorem Blk.reads {α : Type} {enc : α → List Value} {s : Nat} (hs : ∀ x, (enc x).length = s) {w : World} {g : Nat} {t : TypeId} {l : List α} {B : Nat} (h : Blk w g t (l.flatMap enc)) (hB : g < B) : Reads enc s w B (some ⟨g, 0, none⟩) l.length l :=
  ⟨rfl, fun _ => ⟨g, 0, rfl, hB, fun k x j u hx hu => by rw [h.cell, Nat.zero_add]; exact flat_at hs l k j x u hx hu⟩⟩
theorem enc2_len (e : Pair) : (enc2 e).length = 2 := rfl

/-! Facts that a test leaves, as plain equations. -/
theorem of_beq {α : Type} [BEq α] [LawfulBEq α] {a b : α} (h : (a == b) = true) : a = b := by simpa using h
theorem of_nbeq {α : Type} [BEq α] [LawfulBEq α] {a b : α} (h : (a == b) = false) : ¬ a = b := by simpa using h
theorem of_bne {α : Type} [BEq α] [LawfulBEq α] {a b : α} (h : (!a == b) = true) : ¬ a = b := by simpa using h
theorem of_nbne {α : Type} [BEq α] [LawfulBEq α] {a b : α} (h : (!a == b) = false) : a = b := by simpa using h

/-! Two lists side by side. -/
theorem take_snoc' {α : Type} {l : List α} {k : Nat} {x : α} (h : l[k]? = some x) : l.take (k + 1) = l.take k ++ [x] := by
  obtain ⟨hk, he⟩ := List.getElem?_eq_some_iff.1 h
  rw [List.take_succ_eq_append_getElem hk, he]
theorem ne_at {α : Type} [BEq α] [LawfulBEq α] {l l' : List α} {k : Nat} {x y : α} (h : l[k]? = some x) (h' : l'[k]? = some y) (hne : ¬ x = y) : (l == l') = false := by
  rw [beq_eq_false_iff_ne]
  rintro rfl
  rw [h] at h'
  exact hne (by injection h')
theorem eq_of_takes {α : Type} [BEq α] [LawfulBEq α] {l l' : List α} {n : Nat} (h : l.take n = l'.take n) (hl : l.length = n) (hl' : l'.length = n) : (l == l') = true := by
  rw [List.take_of_length_le (by omega), List.take_of_length_le (by omega)] at h
  simpa using h
theorem ne_of_len {α : Type} [BEq α] [LawfulBEq α] {l l' : List α} (h : ¬ l.length = l'.length) : (l == l') = false := by
  rw [beq_eq_false_iff_ne]
  rintro rfl
  exact h rfl

/-! make of elements of several cells; a block that is filled from its head. -/
theorem run_make_rowN {P : Program} (t e : TypeId) (i : TypeInfo) (z : Value) (ht : P.underlying t = some (.slice e)) (hi : P.info? e = some i) (hz : i.zero = some z)
    (kl kc : IntKind) (n c : Nat) (hnc : n ≤ c) (hbytes : i.bytes * c ≤ 281474976710656) (h63 : c ≤ 9223372036854775807) (w : World) :
    (Instr.makeSlice t (.int kl (n : Int)) (.int kc (c : Int))).run P w = .ok (.slice (some ⟨w.heap.size, 0, none⟩) n c) (w.alloc (.cells (madeCells z.cells (c * i.size)) e)) := by
  have hb : (i.bytes : Int) * (c : Int) ≤ 281474976710656 := by
    have h : ((i.bytes * c : Nat) : Int) ≤ 281474976710656 := by omega
    rwa [Int.natCast_mul] at h
  have hr := run_make (P := P) w t e i z ht hi hz kl kc n c (by omega) (by omega) hb (by omega)
  simp only [Int.toNat_natCast] at hr
  exact hr
theorem Blk.new_ (w : World) (t : TypeId) (cs : Array Value) : Blk (w.alloc (.cells cs t)) w.heap.size t cs.toList := by
  unfold Blk; simpa using heap_alloc_new w (.cells cs t)
/-- A block of N cells whose first m cells are xs. -/
def Fil (w : World) (g : Nat) (t : TypeId) (N m : Nat) (xs : List Value) : Prop := ∃ cs, Blk w g t cs ∧ cs.length = N ∧ m ≤ N ∧ cs.take m = xs
section
variable {w w' : World} {g : Nat} {t : TypeId} {N m : Nat} {xs : List Value}
theorem Fil.cell (h : Fil w g t N m xs) (i : Nat) (hi : i < N) : ∃ u, w.cell? ⟨g, i, none⟩ = some u := by
  obtain ⟨cs, hb, hl, _⟩ := h
  exact ⟨cs[i], by rw [hb.cell, List.getElem?_eq_getElem]⟩
theorem Fil.frozen (h : Fil w g t N m xs) (i : Nat) : w.frozen? ⟨g, i, none⟩ = false := by
  obtain ⟨cs, hb, _⟩ := h
  exact hb.frozen i
theorem Fil.lt (h : Fil w g t N m xs) : g < w.heap.size := by
  obtain ⟨cs, h1, h2⟩ := h
  exact h1.lt
theorem Fil.below {B : Nat} (h : Fil w g t N m xs) (hb : Below B w w') (hg : g < B) : Fil w' g t N m xs := by
  obtain ⟨cs, h1, h2⟩ := h
  exact ⟨cs, h1.below hb hg, h2⟩
theorem Fil.next (h : Fil w g t N m xs) (hb : Below w.heap.size w w') : Fil w' g t N m xs := h.below hb h.lt
theorem Fil.put (h : Fil w g t N m xs) (hm : m < N) (u : Value) : Fil (w.setCell ⟨g, m, none⟩ u) g t N (m + 1) (xs ++ [u]) := by
  obtain ⟨cs, h1, h2, h3, h4⟩ := h
  refine ⟨_, h1.set_ _ _, by simp [h2], by omega, ?_⟩
  rw [List.take_succ_eq_append_getElem (by simp; omega), List.take_set_of_le (by omega), h4]
  simp
theorem Fil.start (w : World) (t : TypeId) (cs : Array Value) (N : Nat) (h : cs.size = N) : Fil (w.alloc (.cells cs t)) w.heap.size t N 0 [] :=
  ⟨cs.toList, Blk.new_ w t cs, by simpa using h, by omega, by simp⟩
theorem Fil.zero (h : Fil w g t N m xs) : Fil w g t N 0 [] := by
  obtain ⟨cs, h1, h2, h3, h4⟩ := h
  exact ⟨cs, h1, h2, by omega, by simp⟩
end

/-! Rows of the call's own: data in new memory; append. -/
/-- What append asks of a slice's type: t is a slice of e, an element has so many cells and bytes. -/
structure ElemTy (P : Program) (t e : TypeId) (size bytes : Nat) : Prop where
  ok : ∃ i z, P.underlying t = some (.slice e) ∧ P.info? e = some i ∧ i.zero = some z ∧ i.size = size ∧ i.bytes = bytes ∧ z.cells.size = size ∧ 0 < size
/-- The slice '.slice A n c' is the call's own (its block is not below base) and holds the data l. -/
def Own {α : Type} (enc : α → List Value) (s : Nat) (e : TypeId) (w : World) (base : Nat) (A : Option Addr) (n c : Nat) (l : List α) : Prop :=
  l.length = n ∧ w.ownsRow base e s (.slice A n c) n (l.flatMap enc)
section
variable {α : Type} {enc : α → List Value} {s : Nat} {e : TypeId} {w w' : World} {base n c : Nat} {A : Option Addr} {l : List α}
theorem Own.len (h : Own enc s e w base A n c l) : l.length = n := h.1
theorem Own.cap (h : Own enc s e w base A n c l) : n ≤ c := by
  rcases h.2.2 with ⟨h0, h1⟩ | ⟨g, cap, cur, h0, _, _, h1, _⟩
  · omega
  · injection h0 with _ _ h0; omega
theorem Own.lt {b : Addr} (h : Own enc s e w base (some b) n c l) : base ≤ b.block ∧ b.block < w.heap.size := h.2.lt b.block rfl
theorem Own.plain {b : Addr} (h : Own enc s e w base (some b) n c l) : b = ⟨b.block, 0, none⟩ := by
  rcases h.2.2 with ⟨h0, h1⟩ | ⟨g, cap, cur, h0, _, _, h1, _⟩
  · cases h0
  · injection h0 with h0; injection h0 with h0; subst h0; rfl
theorem Own.reads (henc : ∀ x, (enc x).length = s) (h : Own enc s e w base A n c l) : Reads enc s w w.heap.size A n l := by
  refine ⟨h.1, fun hn => ?_⟩
  rcases h.2.2 with ⟨h0, h1⟩ | ⟨g, cap, cur, h0, hg, hh, hc, _, _, hx⟩
  · omega
  · injection h0 with h0; subst h0
    refine ⟨g, 0, rfl, h.lt.2, fun k x j u hk hu => ?_⟩
    have := h.2.cells (g := g) rfl _ _ (flat_at henc l k j x u hk hu)
    rw [show (⟨g, 0, none⟩ : Addr).add (k * s + j) = ⟨g, 0 + k * s + j, none⟩ from by unfold Addr.add; split <;> simp_all] at this
    exact this
theorem Own.kept {row : Option Nat} (h : Own enc s e w base A n c l) (hg : w.grownBy w' row) (hne : A = none ∨ (Value.slice A n c).ownBlock ≠ row) : Own enc s e w' base A n c l :=
  ⟨h.1, h.2.kept hg (by rcases hne with rfl | hne; exact .inl rfl; exact .inr hne)⟩
theorem Own.below (h : Own enc s e w base A n c l) (hb : Below w.heap.size w w') : Own enc s e w' base A n c l := by
  refine h.kept (row := none) ⟨hb.os, hb.tape, hb.output, hb.size, fun k hk _ => hb.block k hk⟩ ?_
  cases A with
  | none => exact .inl rfl
  | some b => exact .inr (by simp [Value.ownBlock])
theorem Own.alloc (h : Own enc s e w base A n c l) (o : Obj) : Own enc s e (w.alloc o) base A n c l := ⟨h.1, h.2.alloc o⟩
theorem Own.mono {base' : Nat} (h : Own enc s e w base A n c l) (hb : base' ≤ base) : Own enc s e w base' A n c l := by
  refine ⟨h.1, h.2.1, ?_⟩
  rcases h.2.2 with h0 | ⟨g, cap, cur, h0, hg, hr⟩
  · exact .inl h0
  · exact .inr ⟨g, cap, cur, h0, by omega, hr⟩
theorem Own.nil_ : Own enc s e w base none 0 0 ([] : List α) := ⟨rfl, World.ownsRow_nil w base e s⟩
/-- The first k of them. -/
theorem Own.take (henc : ∀ x, (enc x).length = s) (h : Own enc s e w base A n c l) {k : Nat} (hk : k ≤ n) (hA : A ≠ none) : Own enc s e w base A k c (l.take k) := by
  have hl : (l.take k).length = k := by have := h.1; simp; omega
  refine ⟨hl, by rw [flat_length henc, hl], ?_⟩
  rcases h.2.2 with ⟨h0, h1⟩ | ⟨g, cap, cur, h0, hg, hh, hc, hm, hz, hx⟩
  · injection h0 with h0; exact absurd h0 hA
  · injection h0 with h0 _ h3; subst h0 h3
    refine .inr ⟨g, c, cur, rfl, hg, hh, by omega, hm, hz, ?_⟩
    have h2 : cur.toList.take (k * s) = (cur.toList.take (n * s)).take (k * s) := by rw [List.take_take, Nat.min_eq_left (Nat.mul_le_mul_right _ hk)]
    rw [h2, hx]
    have h4 : l.flatMap enc = (l.take k).flatMap enc ++ (l.drop k).flatMap enc := by rw [← List.flatMap_append, List.take_append_drop]
    rw [h4, List.take_append_of_le_length (by rw [flat_length henc, hl]; omega), List.take_of_length_le (by rw [flat_length henc, hl]; omega)]
/-- A new block whose cells are the data. -/
theorem Own.new_ (henc : ∀ x, (enc x).length = s) (w : World) (l : List α) (cs : Array Value) {g : Nat} (hc : cs.toList = l.flatMap enc) (hn : l.length = n) (hm : n ≤ maxLen) (hb : base ≤ w.heap.size) (hg : w.heap.size = g) :
    Own enc s e (w.alloc (.cells cs e)) base (some ⟨g, 0, none⟩) n n l := by
  subst hg
  have hz : cs.size = n * s := by rw [← Array.length_toList, hc, flat_length henc, hn]
  exact ⟨hn, by rw [flat_length henc, hn], .inr ⟨w.heap.size, n, cs, rfl, hb, heap_alloc_new w _, Nat.le_refl _, hm, hz, by rw [hc, List.take_of_length_le (by rw [flat_length henc, hn]; omega)]⟩⟩
/-- A block that has been filled. -/
theorem Fil.own (henc : ∀ x, (enc x).length = s) {g : Nat} (h : Fil w g e (c * s) (n * s) (l.flatMap enc)) (hn : l.length = n) (hnc : n ≤ c) (hm : c ≤ maxLen) (hb : base ≤ g) : Own enc s e w base (some ⟨g, 0, none⟩) n c l := by
  obtain ⟨cs, h1, h2, h3, h4⟩ := h
  exact ⟨hn, by rw [flat_length henc, hn], .inr ⟨g, c, cs.toArray, rfl, hb, h1, hnc, hm, by simpa using h2, by simpa using h4⟩⟩
theorem Own.fil {g : Nat} (h : Own enc s e w base (some ⟨g, 0, none⟩) n c l) : Fil w g e (c * s) 0 [] ∧ c ≤ maxLen := by
  rcases h.2.2 with ⟨h0, h1⟩ | ⟨g', cap, cur, h0, hg, hh, hc, hm, hz, hx⟩
  · cases h0
  · injection h0 with h0 _ h3; injection h0 with h0; injection h0 with h0; subst h0 h3
    exact ⟨⟨cur.toList, by unfold Blk; simpa using hh, by simpa using hz, by omega, by simp⟩, hm⟩
theorem Own.cases (h : Own enc s e w base A n c l) : (A = none ∧ n = 0 ∧ c = 0 ∧ l = []) ∨ ∃ g, A = some ⟨g, 0, none⟩ := by
  rcases h.2.2 with ⟨h0, h1⟩ | ⟨g', cap, cur, h0, _⟩
  · injection h0 with h0 h2 h3
    have := h.1
    exact .inl ⟨h0, h1, h3, List.length_eq_zero_iff.1 (by omega)⟩
  · injection h0 with h0; exact .inr ⟨g', h0⟩
end
/-! Only one block, and what is new, has turned. -/
theorem only_refl (w : World) (row : Option Nat) : w.grownBy w row := ⟨rfl, rfl, rfl, Nat.le_refl _, fun _ _ _ => rfl⟩
theorem only_below {a w w' : World} {row : Option Nat} (h : a.grownBy w row) (hb : Below w.heap.size w w') : a.grownBy w' row :=
  ⟨hb.os.trans h.os, hb.tape.trans h.tape, hb.output.trans h.output, Nat.le_trans h.size hb.size, fun i hi hn => (hb.block i (Nat.lt_of_lt_of_le hi h.size)).trans (h.block i hi hn)⟩
theorem only_trans {a b c : World} {row : Option Nat} (h : a.grownBy b row) (k : b.grownBy c row) : a.grownBy c row :=
  ⟨k.os.trans h.os, k.tape.trans h.tape, k.output.trans h.output, Nat.le_trans h.size k.size, fun i hi hn => (k.block i (Nat.lt_of_lt_of_le hi h.size) hn).trans (h.block i hi hn)⟩
theorem only_of_below {a w : World} {row : Option Nat} (h : Below a.heap.size a w) : a.grownBy w row := ⟨h.os, h.tape, h.output, h.size, fun i hi _ => h.block i hi⟩
/-- Inside a call that began at a: what it did to its own blocks does not count. -/
theorem only_own {a b c : World} {row : Option Nat} (h : a.grownBy b row) (k : Below a.heap.size b c) : a.grownBy c row :=
  ⟨k.os.trans h.os, k.tape.trans h.tape, k.output.trans h.output, Nat.le_trans h.size k.size, fun i hi hn => (k.block i hi).trans (h.block i hi hn)⟩
theorem only_drew {a w : World} {row : Option Nat} (h : a.grownBy w row) : a.grownBy w.drew row := ⟨h.os, h.tape, h.output, h.size, h.block⟩
theorem only_setCell {a w : World} {g : Nat} (h : a.grownBy w (some g)) {p : Addr} (hp : p.block = g ∨ a.heap.size ≤ p.block) (u : Value) : a.grownBy (w.setCell p u) (some g) :=
  ⟨h.os, h.tape, h.output, by simpa [World.setCell] using h.size, fun i hi hne => (Below.heap_setCell w p u i (by
    rintro rfl
    rcases hp with hp | hp
    · exact hne (by rw [hp])
    · omega)).trans (h.block i hi hne)⟩
theorem only_below' {a w : World} {B : Nat} {row : Option Nat} (h : a.grownBy w row) (hB : B ≤ a.heap.size) (hr : ∀ g, row = some g → B ≤ g) : Below B a w :=
  ⟨h.os, h.tape, h.output, h.size, fun i hi => h.block i (by omega) (fun e => by have := hr i e.symm; omega)⟩
/-- append of one element onto a row of the call's own. -/
theorem wpList_app1 {P : Program} {α : Type} (enc : α → List Value) {size bytes : Nat} {t e : TypeId} (hT : ElemTy P t e size bytes) (henc : ∀ x, (enc x).length = size) (hone : ∀ x, ∀ u ∈ enc x, u.oneCell' = true)
    {ops : Array Oper} {rest : List Oper} {o : Oper} {a : Act} {Q : Exit → Act → World → Prop} {w : World} (hgd : o.guard = none) (sl x : Operand)
    (ho : o.op = .call { callee := .builtin .append, args := #[sl, x], argTypes := #[t, t] })
    (base : Nat) (A : Option Addr) (n c : Nat) (l : List α) (hs : a.eval sl = .slice A n c) (hown : Own enc size e w base A n c l)
    (y : α) (b off m : Nat) (hx : a.eval x = .slice (some ⟨b, off, none⟩) 1 m) (hnews : ∀ j u, (enc y)[j]? = some u → w.cell? ⟨b, off + j, none⟩ = some u)
    (h63 : (n + 1) * bytes ≤ 140737488355328) (hn : n + 1 ≤ maxLen) (hbase : base ≤ w.heap.size)
    (h : ∀ g c' w', Own enc size e w' base (some ⟨g, 0, none⟩) (n + 1) c' (l ++ [y]) → w.grownBy w' (Value.slice A n c).ownBlock → Below base w w' → ((Value.slice A n c).ownBlock = some g ∨ g = w.heap.size) →
      wpList P ops Q rest (a.put o.dst (.slice (some ⟨g, 0, none⟩) (n + 1) c')) w') : wpList P ops Q (o :: rest) a w := by
  obtain ⟨i, z, ht, hi, hz, h1, h2, h3, h4⟩ := hT.ok
  refine wpList_append_own_at w hgd sl x t ho base e i z size bytes ht hi hz h1 h2 h3 h4 _ n _ hs hown.2 ⟨b, off, none⟩ 1 m (enc y) hx (by rw [henc, Nat.one_mul]) (fun j u hu => ?_) (hone y) hn h63 hbase ?_
  · have := hnews j u hu
    unfold Addr.add; split
    · simp_all
    · exact this
  · intro v' w' h5 h6 h7 h8
    have hlt := hown.2.lt
    rcases h5.2 with ⟨h9, h10⟩ | ⟨g, cap, cur, h9, h10⟩
    · omega
    · subst h9
      refine h g cap w' ⟨by simp [hown.1], ?_⟩ h6 ?_ ?_
      · rw [List.flatMap_append]; simpa using h5
      · exact (Below.refl _ _).grown h6 hbase (fun k hk => (hlt k hk).1)
      · rcases h8 with h8 | h8
        · left; rw [← h8]; rfl
        · right; simp [Value.ownBlock] at h8; exact h8
theorem enc2_one (e : Pair) : ∀ u ∈ enc2 e, u.oneCell' = true := by simp [enc2, Value.oneCell']
/-- One element in a block made for it. -/
theorem news2 (w : World) (x y : Str) (t : TypeId) (b : Nat) (hb : w.heap.size = b) : ∀ j u, (enc2 (x, y))[j]? = some u → (w.alloc (.cells #[sv x, sv y] t)).cell? ⟨b, 0 + j, none⟩ = some u := by
  intro j u hu
  subst hb
  rw [Nat.zero_add, (Blk.new_ w t _).cell]
  exact hu
theorem Own.apart {α : Type} {enc : α → List Value} {s : Nat} {e : TypeId} {w : World} {base n c : Nat} {A : Option Addr} {l : List α} (h : Own enc s e w base A n c l) {g : Nat} (hg : g < base ∨ w.heap.size ≤ g) : A = none ∨ (Value.slice A n c).ownBlock ≠ some g := by
  cases A with
  | none => exact .inl rfl
  | some b =>
    have := h.lt
    refine .inr ?_
    simp only [Value.ownBlock]
    intro e
    injection e with e
    omega
theorem Own.row {α : Type} {enc : α → List Value} {s : Nat} {e : TypeId} {w : World} {base n c : Nat} {A : Option Addr} {l : List α} (h : Own enc s e w base A n c l) : ∀ g, (Value.slice A n c).ownBlock = some g → base ≤ g ∧ g < w.heap.size := h.2.lt
end Go.Proofs.Ytekcpadlmfaihaa
namespace Go.Proofs.Ytekcpadlmfaihaa
open Go.RowKit
theorem flat_set {α : Type} {enc : α → List Value} {s : Nat} (hs : ∀ x, (enc x).length = s) (l : List α) (k j : Nat) (x x' : α) (u : Value) (h : l[k]? = some x) (hj : j < s) (he : enc x' = (enc x).set j u) : (l.flatMap enc).set (k * s + j) u = (l.set k x').flatMap enc := by
  induction l generalizing k with
  | nil => simp at h
  | cons a t ih =>
    cases k with
    | zero =>
      simp at h; subst h
      rw [List.flatMap_cons, List.set_cons_zero, List.flatMap_cons, he, Nat.zero_mul, Nat.zero_add, List.set_append_left _ _ (by rw [hs]; exact hj)]
    | succ k =>
      simp at h
      have e1 : (k + 1) * s + j = (enc a).length + (k * s + j) := by rw [hs, Nat.succ_mul]; omega
      rw [List.flatMap_cons, List.set_cons_succ, List.flatMap_cons, e1, List.set_append_right _ _ (by omega), Nat.add_sub_cancel_left, ih k h]
theorem Own.set_ {α : Type} {enc : α → List Value} {s : Nat} (hs : ∀ x, (enc x).length = s) {e : TypeId} {w : World} {base n c g : Nat} {l : List α} (h : Own enc s e w base (some ⟨g, 0, none⟩) n c l) (k j : Nat) (x x' : α) (u : Value) (hx : l[k]? = some x) (hj : j < s) (he : enc x' = (enc x).set j u) :
    Own enc s e (w.setCell ⟨g, k * s + j, none⟩ u) base (some ⟨g, 0, none⟩) n c (l.set k x') := by
  have hk : k < l.length := (List.getElem?_eq_some_iff.1 hx).1
  refine ⟨by simpa using h.1, by rw [flat_length hs]; simp [h.1], ?_⟩
  rcases h.2.2 with ⟨h0, h1⟩ | ⟨g', cap, cur, h0, hg, hh, hc, hm, hz, ht⟩
  · cases h0
  · injection h0 with h0 _ h3; injection h0 with h0; injection h0 with h0; subst h0 h3
    refine .inr ⟨g, c, cur.setIfInBounds (k * s + j) u, rfl, hg, ?_, hc, hm, by simpa using hz, ?_⟩
    · simp [World.setCell, Array.getElem?_modify, hh]
    · have hlt : k * s + j < n * s := by
        have h4 := h.1
        have h5 : k + 1 ≤ n := by omega
        have h6 := Nat.mul_le_mul_right s h5
        rw [Nat.succ_mul] at h6
        omega
      rw [Array.toList_setIfInBounds, List.take_set, ht, flat_set hs l k j x x' u hx hj he]
end Go.Proofs.Ytekcpadlmfaihaa
namespace Go.Proofs.Ytekcpadlmfaihaa
open Go.RowKit
theorem bcell {W w1 : World} (hb : Below W.heap.size W w1) : (∀ b o, b < W.heap.size → w1.cell? ⟨b, o, none⟩ = W.cell? ⟨b, o, none⟩) ∧ (∀ b o, b < W.heap.size → w1.frozen? ⟨b, o, none⟩ = W.frozen? ⟨b, o, none⟩) :=
  ⟨fun b o h => hb.cell (p := ⟨b, o, none⟩) h, fun b o h => hb.frozen (p := ⟨b, o, none⟩) h⟩
theorem wsize_alloc (w : World) (o : Obj) : (w.alloc o).heap.size = w.heap.size + 1 := by simp
theorem wsize_set (w : World) (p : Addr) (u : Value) : (w.setCell p u).heap.size = w.heap.size := by simp [World.setCell]
/-- A store into a block below the row's base leaves the row. -/
theorem Own.poke {α : Type} {enc : α → List Value} {s : Nat} {e : TypeId} {w : World} {base n c : Nat} {A : Option Addr} {l : List α} (h : Own enc s e w base A n c l) {p : Addr} (hp : p.block < base) (u : Value) : Own enc s e (w.setCell p u) base A n c l :=
  h.kept (only_setCell (only_refl _ _) (.inl rfl) u) (h.apart (.inl hp))
theorem Blk.next {w w' : World} {g : Nat} {t : TypeId} {cs : List Value} (h : Blk w g t cs) (hb : Below w.heap.size w w') : Blk w' g t cs := h.below hb h.lt
theorem Blk.c4 {w : World} {g : Nat} {t : TypeId} {a b c d : Value} (h : Blk w g t [a, b, c, d]) : w.cell? ⟨g, 0, none⟩ = some a ∧ w.cell? ⟨g, 1, none⟩ = some b ∧ w.cell? ⟨g, 2, none⟩ = some c ∧ w.cell? ⟨g, 3, none⟩ = some d := ⟨h.cell 0, h.cell 1, h.cell 2, h.cell 3⟩
end Go.Proofs.Ytekcpadlmfaihaa
namespace Go.Proofs.Ytekcpadlmfaihaa
open Go.RowKit
/-- The cells of one element: s of them. -/
abbrev Row (s : Nat) := {cs : List Value // cs.length = s}
abbrev Row.v {s : Nat} (r : Row s) : List Value := r.val
theorem Row.len {s : Nat} (r : Row s) : r.v.length = s := r.property
inductive D where
  | i (k : IntKind) (n : Int)
  | b (x : Bool)
  | s (x : Str)
  | st (fs : List D)
  | sl (xs : List D)
mutual
/-- The cells cs hold the datum, all memory that they lead to lies below block B. -/
def rep (w : World) (B : Nat) : D → List Value → Prop
  | .i k n, cs => cs = [.int k n] ∧ (Lit.int k n).wf = true
  | .b x, cs => cs = [.bool x]
  | .s x, cs => cs = [sv x] ∧ x.length ≤ maxLen
  | .st fs, cs => ∃ css, cs = css.flatten ∧ repL w B fs css
  | .sl xs, cs => ∃ (A : Option Addr) (n c s : Nat) (rows : List (Row s)), cs = [.slice A n c] ∧ n ≤ c ∧ c ≤ maxLen ∧ Reads Row.v s w B A n rows ∧ repL w B xs (rows.map Row.v)
def repL (w : World) (B : Nat) : List D → List (List Value) → Prop
  | [], css => css = []
  | x :: t, css => ∃ c1 c2, css = c1 :: c2 ∧ rep w B x c1 ∧ repL w B t c2
end
mutual
theorem rep_keep {w w' : World} {B B' : Nat} (hB : B ≤ B') (hk : ∀ p : Addr, p.block < B → w'.cell? p = w.cell? p) : ∀ (d : D) (cs : List Value), rep w B d cs → rep w' B' d cs
  | .i _ _, _, h => by rw [rep] at h ⊢; exact h
  | .b _, _, h => by rw [rep] at h ⊢; exact h
  | .s _, _, h => by rw [rep] at h ⊢; exact h
  | .st fs, _, h => by
    rw [rep] at h ⊢
    obtain ⟨css, h1, h2⟩ := h
    exact ⟨css, h1, repL_keep hB hk fs css h2⟩
  | .sl xs, _, h => by
    rw [rep] at h ⊢
    obtain ⟨A, n, c, s, rows, h1, h2, h3, h4, h5⟩ := h
    exact ⟨A, n, c, s, rows, h1, h2, h3, (h4.keep hk).more hB, repL_keep hB hk xs _ h5⟩
theorem repL_keep {w w' : World} {B B' : Nat} (hB : B ≤ B') (hk : ∀ p : Addr, p.block < B → w'.cell? p = w.cell? p) : ∀ (l : List D) (css : List (List Value)), repL w B l css → repL w' B' l css
  | [], _, h => by rw [repL] at h ⊢; exact h
  | x :: t, _, h => by
    rw [repL] at h ⊢
    obtain ⟨c1, c2, h1, h2, h3⟩ := h
    exact ⟨c1, c2, h1, rep_keep hB hk x c1 h2, repL_keep hB hk t c2 h3⟩
end
theorem rep_below {w w' : World} {B : Nat} {d : D} {cs : List Value} (h : rep w B d cs) (hb : Below B w w') : rep w' B d cs := rep_keep (Nat.le_refl _) (fun _ hp => hb.cell hp) d cs h
theorem rep_more {w : World} {B B' : Nat} {d : D} {cs : List Value} (h : rep w B d cs) (hB : B ≤ B') : rep w B' d cs := rep_keep hB (fun _ _ => rfl) d cs h
theorem rep_next {w w' : World} {d : D} {cs : List Value} (h : rep w w.heap.size d cs) (hb : Below w.heap.size w w') : rep w' w'.heap.size d cs := rep_more (rep_below h hb) hb.size
/-- What lies below B in the world at the call's start, in a world of the call. -/
theorem rep_in {w w' : World} {B : Nat} {d : D} {cs : List Value} (h : rep w B d cs) (hb : Below B w w') (hB : B ≤ w'.heap.size) : rep w' w'.heap.size d cs := rep_more (rep_below h hb) hB
theorem rep_drew {w : World} {B : Nat} {d : D} {cs : List Value} (h : rep w B d cs) : rep w.drew B d cs := rep_keep (w := w) (Nat.le_refl _) (fun p _ => by rfl) d cs h
theorem rep_drewN {w : World} {B : Nat} {d : D} {cs : List Value} (h : rep w B d cs) (n : Nat) : rep (w.drewN n) B d cs := rep_keep (w := w) (Nat.le_refl _) (fun p _ => by rfl) d cs h
theorem repL_len {w : World} {B : Nat} : ∀ {l : List D} {css : List (List Value)}, repL w B l css → l.length = css.length
  | [], _, h => by rw [repL] at h; rw [h]; rfl
  | x :: t, _, h => by
    rw [repL] at h
    obtain ⟨c1, c2, rfl, _, h3⟩ := h
    simp [repL_len h3]
theorem repL_at {w : World} {B : Nat} : ∀ {l : List D} {css : List (List Value)} {k : Nat} {d : D} {cs : List Value}, repL w B l css → l[k]? = some d → css[k]? = some cs → rep w B d cs
  | [], _, _, _, _, _, h', _ => by simp at h'
  | x :: t, _, k, d, cs, h, h', h'' => by
    rw [repL] at h
    obtain ⟨c1, c2, rfl, h2, h3⟩ := h
    cases k with
    | zero => simp at h' h''; subst h' h''; exact h2
    | succ k => simp at h' h''; exact repL_at h3 h' h''
theorem repL_mk {w : World} {B : Nat} : ∀ {l : List D} {css : List (List Value)}, l.length = css.length → (∀ (k : Nat) d cs, l[k]? = some d → css[k]? = some cs → rep w B d cs) → repL w B l css
  | [], css, hl, _ => by rw [repL]; exact List.length_eq_zero_iff.1 hl.symm
  | x :: t, css, hl, h => by
    cases css with
    | nil => simp at hl
    | cons c1 c2 => rw [repL]; exact ⟨c1, c2, rfl, h 0 x c1 rfl rfl, repL_mk (by simpa using hl) (fun k d cs h1 h2 => h (k + 1) d cs h1 h2)⟩
/-- A slice of data that are flat: each is its own cells. -/
theorem rep_flat {α : Type} {f : α → D} {enc : α → List Value} {ok : α → Prop} {s : Nat} {w : World} {B : Nat} (hf : ∀ x cs, rep w B (f x) cs ↔ cs = enc x ∧ ok x) (henc : ∀ x, (enc x).length = s) (l : List α) (cs : List Value) :
    rep w B (.sl (l.map f)) cs ↔ ∃ (A : Option Addr) (n c : Nat), cs = [.slice A n c] ∧ n ≤ c ∧ c ≤ maxLen ∧ Reads enc s w B A n l ∧ ∀ x ∈ l, ok x := by
  rw [rep]
  constructor
  · rintro ⟨A, n, c, s', rows, h1, h2, h3, h4, h5⟩
    have hl := repL_len h5
    simp only [List.length_map] at hl
    have hat : ∀ (k : Nat) (x : α) (r : Row s'), l[k]? = some x → rows[k]? = some r → r.v = enc x ∧ ok x := fun k x r hx hr => (hf x _).1 (repL_at h5 (k := k) (by simp [hx]) (by simp [hr]))
    refine ⟨A, n, c, h1, h2, h3, ⟨by rw [hl]; exact h4.len, fun hn => ?_⟩, fun x hx => ?_⟩
    · obtain ⟨b, off, e, hb, hc⟩ := h4.2 hn
      refine ⟨b, off, e, hb, fun k x j u hx hu => ?_⟩
      have hk : k < rows.length := by rw [← hl]; exact (List.getElem?_eq_some_iff.1 hx).1
      have hr : rows[k]? = some rows[k] := List.getElem?_eq_getElem hk
      have h6 := (hat k x _ hx hr).1
      have hs : s' = s := by rw [← henc x, ← h6]; exact (Row.len _).symm
      have := hc k _ j u hr (by rw [h6]; exact hu)
      rw [hs] at this; exact this
    · obtain ⟨k, hk, rfl⟩ := List.getElem_of_mem hx
      exact (hat k _ (rows[k]'(by omega)) (List.getElem?_eq_getElem hk) (List.getElem?_eq_getElem _)).2
  · rintro ⟨A, n, c, h1, h2, h3, h4, h5⟩
    refine ⟨A, n, c, s, l.map (fun x => ⟨enc x, henc x⟩), h1, h2, h3, ⟨by simpa using h4.len, fun hn => ?_⟩, repL_mk (by simp) fun k d cs hd hc => ?_⟩
    · obtain ⟨b, off, e, hb, hc⟩ := h4.2 hn
      refine ⟨b, off, e, hb, fun k x j u hx hu => ?_⟩
      rw [List.getElem?_map] at hx
      cases hk : l[k]? with
      | none => simp [hk] at hx
      | some y => simp [hk] at hx; subst hx; exact hc k y j u hk hu
    · simp only [List.map_map, List.getElem?_map] at hd hc
      cases hk : l[k]? with
      | none => simp [hk] at hd
      | some y =>
        simp [hk] at hd hc
        subst hd hc
        exact (hf y _).2 ⟨rfl, h5 y (List.mem_of_getElem? hk)⟩
/-- Structs. -/
theorem rep_st1 {w : World} {B : Nat} {d : D} {cs : List Value} : repL w B [d] [cs] ↔ rep w B d cs := by simp [repL]
theorem repL_cons {w : World} {B : Nat} {d : D} {t : List D} {c : List Value} {u : List (List Value)} : repL w B (d :: t) (c :: u) ↔ rep w B d c ∧ repL w B t u := by
  constructor
  · intro h; rw [repL] at h; obtain ⟨c1, c2, he, h1, h2⟩ := h; injection he with he1 he2; subst he1 he2; exact ⟨h1, h2⟩
  · rintro ⟨h1, h2⟩; rw [repL]; exact ⟨c, u, rfl, h1, h2⟩
theorem repL_nil {w : World} {B : Nat} : repL w B [] [] := by rw [repL]
end Go.Proofs.Ytekcpadlmfaihaa
namespace Go.Proofs.Ytekcpadlmfaihaa
open Go.RowKit
def ablk (A : Option Addr) : List Nat := match A with
  | none => []
  | some a => [a.block]
mutual
/-- The cells cs hold the datum of type t, in blocks of its own: those of the list F, each once. -/
def own (P : Program) (w : World) : D → TypeId → List Nat → List Value → Prop
  | .i k n, _, F, cs => F = [] ∧ cs = [.int k n] ∧ (Lit.int k n).wf = true
  | .b x, _, F, cs => F = [] ∧ cs = [.bool x]
  | .s x, _, F, cs => F = [] ∧ cs = [sv x] ∧ x.length ≤ maxLen
  | .st fs, t, F, cs => ∃ (fds : Array Field) (css : List (List Value)), P.underlying t = some (.struct fds) ∧ cs = css.flatten ∧ ownL P w fs (fds.toList.map Field.type) F css
  | .sl xs, t, F, cs => ∃ (e : TypeId) (A : Option Addr) (n c s : Nat) (rows : List (Row s)) (F2 : List Nat), P.underlying t = some (.slice e) ∧ P.cellsOf e = s ∧ cs = [.slice A n c] ∧ c ≤ maxLen ∧ Own Row.v s e w 0 A n c rows ∧ F = ablk A ++ F2 ∧ ownA P w xs e F2 (rows.map Row.v)
def ownL (P : Program) (w : World) : List D → List TypeId → List Nat → List (List Value) → Prop
  | [], ts, F, css => ts = [] ∧ F = [] ∧ css = []
  | x :: t, ts, F, css => ∃ t1 t2 F1 F2 c1 c2, ts = t1 :: t2 ∧ F = F1 ++ F2 ∧ css = c1 :: c2 ∧ own P w x t1 F1 c1 ∧ ownL P w t t2 F2 c2
def ownA (P : Program) (w : World) : List D → TypeId → List Nat → List (List Value) → Prop
  | [], _, F, css => F = [] ∧ css = []
  | x :: t, e, F, css => ∃ F1 F2 c1 c2, F = F1 ++ F2 ∧ css = c1 :: c2 ∧ own P w x e F1 c1 ∧ ownA P w t e F2 c2
end
section
variable {P : Program} {w w' : World}
theorem Own.same {α : Type} {enc : α → List Value} {s : Nat} {e : TypeId} {base n c : Nat} {A : Option Addr} {l : List α} (h : Own enc s e w base A n c l) (hk : ∀ g ∈ ablk A, w'.heap[g]? = w.heap[g]?) : Own enc s e w' base A n c l := by
  refine ⟨h.1, h.2.1, ?_⟩
  rcases h.2.2 with h0 | ⟨g, cap, cur, h0, hg, hh, hr⟩
  · exact .inl h0
  · refine .inr ⟨g, cap, cur, h0, hg, ?_, hr⟩
    injection h0 with h0
    subst h0
    rw [hk g (by simp [ablk])]; exact hh
theorem Own.lt' {α : Type} {enc : α → List Value} {s : Nat} {e : TypeId} {base n c : Nat} {A : Option Addr} {l : List α} (h : Own enc s e w base A n c l) : ∀ g ∈ ablk A, base ≤ g ∧ g < w.heap.size := by
  intro g hg
  cases A with
  | none => simp [ablk] at hg
  | some a => simp [ablk] at hg; subst hg; exact h.lt
mutual
theorem own_same : ∀ (d : D) (t : TypeId) (F : List Nat) (cs : List Value), (∀ g ∈ F, w'.heap[g]? = w.heap[g]?) → own P w d t F cs → own P w' d t F cs
  | .i _ _, _, _, _, _, h => by rw [own] at h ⊢; exact h
  | .b _, _, _, _, _, h => by rw [own] at h ⊢; exact h
  | .s _, _, _, _, _, h => by rw [own] at h ⊢; exact h
  | .st fs, _, _, _, hk, h => by
    rw [own] at h ⊢
    obtain ⟨fds, css, h1, h2, h3⟩ := h
    exact ⟨fds, css, h1, h2, ownL_same fs _ _ css hk h3⟩
  | .sl xs, _, _, _, hk, h => by
    rw [own] at h ⊢
    obtain ⟨e, A, n, c, s, rows, F2, h1, h2, h3, hm, h4, rfl, h6⟩ := h
    exact ⟨e, A, n, c, s, rows, F2, h1, h2, h3, hm, h4.same (fun g hg => hk g (List.mem_append_left _ hg)), rfl, ownA_same xs e F2 _ (fun g hg => hk g (List.mem_append_right _ hg)) h6⟩
theorem ownL_same : ∀ (l : List D) (ts : List TypeId) (F : List Nat) (css : List (List Value)), (∀ g ∈ F, w'.heap[g]? = w.heap[g]?) → ownL P w l ts F css → ownL P w' l ts F css
  | [], _, _, _, _, h => by rw [ownL] at h ⊢; exact h
  | x :: t, _, _, _, hk, h => by
    rw [ownL] at h ⊢
    obtain ⟨t1, t2, F1, F2, c1, c2, h1, rfl, h3, h4, h5⟩ := h
    exact ⟨t1, t2, F1, F2, c1, c2, h1, rfl, h3, own_same x t1 F1 c1 (fun g hg => hk g (List.mem_append_left _ hg)) h4, ownL_same t t2 F2 c2 (fun g hg => hk g (List.mem_append_right _ hg)) h5⟩
theorem ownA_same : ∀ (l : List D) (e : TypeId) (F : List Nat) (css : List (List Value)), (∀ g ∈ F, w'.heap[g]? = w.heap[g]?) → ownA P w l e F css → ownA P w' l e F css
  | [], _, _, _, _, h => by rw [ownA] at h ⊢; exact h
  | x :: t, e, _, _, hk, h => by
    rw [ownA] at h ⊢
    obtain ⟨F1, F2, c1, c2, rfl, h3, h4, h5⟩ := h
    exact ⟨F1, F2, c1, c2, rfl, h3, own_same x e F1 c1 (fun g hg => hk g (List.mem_append_left _ hg)) h4, ownA_same t e F2 c2 (fun g hg => hk g (List.mem_append_right _ hg)) h5⟩
end
mutual
theorem own_lt : ∀ (d : D) (t : TypeId) (F : List Nat) (cs : List Value), own P w d t F cs → ∀ g ∈ F, g < w.heap.size
  | .i _ _, _, _, _, h => by rw [own] at h; rw [h.1]; simp
  | .b _, _, _, _, h => by rw [own] at h; rw [h.1]; simp
  | .s _, _, _, _, h => by rw [own] at h; rw [h.1]; simp
  | .st fs, _, _, _, h => by
    rw [own] at h
    obtain ⟨fds, css, h1, h2, h3⟩ := h
    exact ownL_lt fs _ _ css h3
  | .sl xs, _, _, _, h => by
    rw [own] at h
    obtain ⟨e, A, n, c, s, rows, F2, h1, h2, h3, hm, h4, rfl, h6⟩ := h
    intro g hg
    rcases List.mem_append.1 hg with hg | hg
    · exact (h4.lt' g hg).2
    · exact ownA_lt xs e F2 _ h6 g hg
theorem ownL_lt : ∀ (l : List D) (ts : List TypeId) (F : List Nat) (css : List (List Value)), ownL P w l ts F css → ∀ g ∈ F, g < w.heap.size
  | [], _, _, _, h => by rw [ownL] at h; rw [h.2.1]; simp
  | x :: t, _, _, _, h => by
    rw [ownL] at h
    obtain ⟨t1, t2, F1, F2, c1, c2, h1, rfl, h3, h4, h5⟩ := h
    intro g hg
    rcases List.mem_append.1 hg with hg | hg
    · exact own_lt x t1 F1 c1 h4 g hg
    · exact ownL_lt t t2 F2 c2 h5 g hg
theorem ownA_lt : ∀ (l : List D) (e : TypeId) (F : List Nat) (css : List (List Value)), ownA P w l e F css → ∀ g ∈ F, g < w.heap.size
  | [], _, _, _, h => by rw [ownA] at h; rw [h.1]; simp
  | x :: t, e, _, _, h => by
    rw [ownA] at h
    obtain ⟨F1, F2, c1, c2, rfl, h3, h4, h5⟩ := h
    intro g hg
    rcases List.mem_append.1 hg with hg | hg
    · exact own_lt x e F1 c1 h4 g hg
    · exact ownA_lt t e F2 c2 h5 g hg
end
mutual
theorem own_rep : ∀ (d : D) (t : TypeId) (F : List Nat) (cs : List Value), own P w d t F cs → rep w w.heap.size d cs
  | .i _ _, _, _, _, h => by rw [own] at h; rw [rep]; exact h.2
  | .b _, _, _, _, h => by rw [own] at h; rw [rep]; exact h.2
  | .s _, _, _, _, h => by rw [own] at h; rw [rep]; exact h.2
  | .st fs, _, _, _, h => by
    rw [own] at h
    obtain ⟨fds, css, h1, h2, h3⟩ := h
    rw [rep]; exact ⟨css, h2, ownL_rep fs _ _ css h3⟩
  | .sl xs, _, _, _, h => by
    rw [own] at h
    obtain ⟨e, A, n, c, s, rows, F2, h1, h2, h3, hm, h4, rfl, h6⟩ := h
    rw [rep]; exact ⟨A, n, c, s, rows, h3, h4.cap, hm, h4.reads Row.len, ownA_rep xs e F2 _ h6⟩
theorem ownL_rep : ∀ (l : List D) (ts : List TypeId) (F : List Nat) (css : List (List Value)), ownL P w l ts F css → repL w w.heap.size l css
  | [], _, _, _, h => by rw [ownL] at h; rw [repL]; exact h.2.2
  | x :: t, _, _, _, h => by
    rw [ownL] at h
    obtain ⟨t1, t2, F1, F2, c1, c2, h1, rfl, h3, h4, h5⟩ := h
    rw [repL]; exact ⟨c1, c2, h3, own_rep x t1 F1 c1 h4, ownL_rep t t2 F2 c2 h5⟩
theorem ownA_rep : ∀ (l : List D) (e : TypeId) (F : List Nat) (css : List (List Value)), ownA P w l e F css → repL w w.heap.size l css
  | [], _, _, _, h => by rw [ownA] at h; rw [repL]; exact h.2
  | x :: t, e, _, _, h => by
    rw [ownA] at h
    obtain ⟨F1, F2, c1, c2, rfl, h3, h4, h5⟩ := h
    rw [repL]; exact ⟨c1, c2, h3, own_rep x e F1 c1 h4, ownA_rep t e F2 c2 h5⟩
end
theorem own_below {d : D} {t : TypeId} {F : List Nat} {cs : List Value} (h : own P w d t F cs) (hb : Below w.heap.size w w') : own P w' d t F cs :=
  own_same d t F cs (fun g hg => hb.block g (own_lt d t F cs h g hg)) h
theorem own_poke {d : D} {t : TypeId} {F : List Nat} {cs : List Value} (h : own P w d t F cs) {p : Addr} (hp : p.block ∉ F) (u : Value) : own P (w.setCell p u) d t F cs :=
  own_same d t F cs (fun g hg => Below.heap_setCell w p u g (by rintro rfl; exact hp hg)) h
theorem ownA_below {l : List D} {e : TypeId} {F : List Nat} {css : List (List Value)} (h : ownA P w l e F css) (hb : Below w.heap.size w w') : ownA P w' l e F css :=
  ownA_same l e F css (fun g hg => hb.block g (ownA_lt l e F css h g hg)) h
theorem ownA_snoc : ∀ {l : List D} {e : TypeId} {F F' : List Nat} {css : List (List Value)} {d : D} {cs : List Value}, ownA P w l e F css → own P w d e F' cs → ownA P w (l ++ [d]) e (F ++ F') (css ++ [cs])
  | [], e, F, F', css, d, cs, h, h' => by
    rw [ownA] at h
    obtain ⟨rfl, rfl⟩ := h
    rw [List.nil_append, ownA]
    exact ⟨F', [], cs, [], by simp, rfl, h', by rw [ownA]; exact ⟨rfl, rfl⟩⟩
  | x :: t, e, F, F', css, d, cs, h, h' => by
    rw [ownA] at h
    obtain ⟨F1, F2, c1, c2, rfl, rfl, h4, h5⟩ := h
    rw [List.cons_append, ownA]
    exact ⟨F1, F2 ++ F', c1, c2 ++ [cs], by simp, rfl, h4, ownA_snoc h5 h'⟩
theorem ownL_nil : ownL P w [] [] [] [] := by rw [ownL]; exact ⟨rfl, rfl, rfl⟩
theorem ownL_cons {x : D} {l : List D} {t1 : TypeId} {t2 : List TypeId} {F1 F2 : List Nat} {c1 : List Value} {c2 : List (List Value)} (h : own P w x t1 F1 c1) (h' : ownL P w l t2 F2 c2) : ownL P w (x :: l) (t1 :: t2) (F1 ++ F2) (c1 :: c2) := by
  rw [ownL]; exact ⟨t1, t2, F1, F2, c1, c2, rfl, rfl, rfl, h, h'⟩
theorem pk {w : World} {p : Addr} {u : Value} {g : Nat} {o : Option Obj} (h : g ≠ p.block) (h' : w.heap[g]? = o) : (w.setCell p u).heap[g]? = o := (Below.heap_setCell w p u g h).trans h'
/-- New blocks, each once. -/
def Fresh (B : Nat) (F : List Nat) : Prop := F.Nodup ∧ ∀ g ∈ F, B ≤ g
theorem Fresh.nil {B : Nat} : Fresh B [] := ⟨List.nodup_nil, by simp⟩
theorem Fresh.app {B B' : Nat} {F F' : List Nat} (h : Fresh B F) (hl : ∀ g ∈ F, g < B') (h' : Fresh B' F') (hB : B ≤ B') : Fresh B (F ++ F') :=
  ⟨List.nodup_append.2 ⟨h.1, h'.1, fun a ha b hb e => by have := hl a ha; have := h'.2 b hb; omega⟩, fun g hg => by
    rcases List.mem_append.1 hg with hg | hg
    · exact h.2 g hg
    · have := h'.2 g hg; omega⟩
theorem Fresh.mono {B B' : Nat} {F : List Nat} (h : Fresh B F) (hB : B' ≤ B) : Fresh B' F := ⟨h.1, fun g hg => Nat.le_trans hB (h.2 g hg)⟩
theorem Fresh.notin {B : Nat} {F : List Nat} (h : Fresh B F) {g : Nat} (hg : g < B) : g ∉ F := fun hm => by have := h.2 g hm; omega
theorem Fresh.one {B : Nat} {A : Option Addr} (h : ∀ g ∈ ablk A, B ≤ g) : Fresh B (ablk A) := ⟨by cases A <;> simp [ablk], h⟩
end
end Go.Proofs.Ytekcpadlmfaihaa
namespace Go.Proofs.Ytekcpadlmfaihaa
open Go.RowKit
theorem and255 (x : Int) : 0 ≤ bits .and .i64 x 255 ∧ bits .and .i64 x 255 ≤ 255 := by
  have h : (BitVec.ofInt 64 x &&& BitVec.ofInt 64 255).toNat ≤ 255 := by
    rw [BitVec.toNat_and]
    have : (BitVec.ofInt 64 255).toNat = 255 := by decide
    rw [this]; exact Nat.and_le_right
  show 0 ≤ IntKind.i64.wrap ((BitVec.ofInt 64 x &&& BitVec.ofInt 64 255).toNat : Int) ∧ IntKind.i64.wrap ((BitVec.ofInt 64 x &&& BitVec.ofInt 64 255).toNat : Int) ≤ 255
  generalize (BitVec.ofInt 64 x &&& BitVec.ofInt 64 255).toNat = m at h
  rw [IntKind.wrap_i64]
  omega
theorem only_drewN {a w : World} {row : Option Nat} (h : a.grownBy w row) (n : Nat) : a.grownBy (w.drewN n) row := ⟨h.os, h.tape, h.output, h.size, h.block⟩
def encB (b : UInt8) : List Value := [.int .u8 b.toNat]
theorem Reads.atB {w : World} {B n k : Nat} {A : Option Addr} {l : List UInt8} (h : Reads encB 1 w B A n l) (hk : k < n) :
    ∃ b off, ∃ x : UInt8, A = some ⟨b, off, none⟩ ∧ b < B ∧ w.cell? ⟨b, off + k, none⟩ = some (.int .u8 x.toNat) := by
  obtain ⟨b, off, x, e, hb, hx, hc⟩ := h.at_ hk
  have := hc 0 _ rfl
  rw [Nat.mul_one] at this
  exact ⟨b, off, x, e, hb, this⟩
def encS (s : Str) : List Value := [sv s]
def encI (i : Int) : List Value := [.int .i64 i]
theorem encS_len (s : Str) : (encS s).length = 1 := rfl
theorem encI_len (s : Int) : (encI s).length = 1 := rfl
theorem encS_one (e : Str) : ∀ u ∈ encS e, u.oneCell' = true := by simp [encS, Value.oneCell']
theorem encI_one (e : Int) : ∀ u ∈ encI e, u.oneCell' = true := by simp [encI, Value.oneCell']
theorem Reads.atS {w : World} {B n k : Nat} {A : Option Addr} {l : List Str} (h : Reads encS 1 w B A n l) (hk : k < n) :
    ∃ b off, ∃ x : Str, A = some ⟨b, off, none⟩ ∧ b < B ∧ l[k]? = some x ∧ w.cell? ⟨b, off + k, none⟩ = some (sv x) := by
  obtain ⟨b, off, x, e, hb, hx, hc⟩ := h.at_ hk
  have := hc 0 _ rfl
  rw [Nat.mul_one] at this
  exact ⟨b, off, x, e, hb, hx, this⟩
theorem Reads.atI {w : World} {B n k : Nat} {A : Option Addr} {l : List Int} (h : Reads encI 1 w B A n l) (hk : k < n) :
    ∃ b off, ∃ x : Int, A = some ⟨b, off, none⟩ ∧ b < B ∧ l[k]? = some x ∧ w.cell? ⟨b, off + k, none⟩ = some (.int .i64 x) := by
  obtain ⟨b, off, x, e, hb, hx, hc⟩ := h.at_ hk
  have := hc 0 _ rfl
  rw [Nat.mul_one] at this
  exact ⟨b, off, x, e, hb, hx, this⟩
end Go.Proofs.Ytekcpadlmfaihaa
namespace Go.Proofs.Ytekcpadlmfaihaa
open Go.RowKit
def okB (c : UInt8) : Bool := decide (33 ≤ c.toNat ∧ c.toNat ≤ 126 ∧ c.toNat ≠ 96)
def isNm (s : Str) : Bool := s.all okB && decide (1 ≤ s.length ∧ s.length ≤ 20)
theorem all_bad {α : Type} {p : α → Bool} {s : List α} {k : Nat} {c : α} (h : s[k]? = some c) (hb : p c = false) : s.all p = false := by
  rw [List.all_eq_false]; exact ⟨c, List.mem_of_getElem? h, by simp [hb]⟩
theorem all_snoc {α : Type} {p : α → Bool} {s : List α} {k : Nat} {c : α} (h : s[k]? = some c) (ha : (s.take k).all p = true) (hb : p c = true) : (s.take (k + 1)).all p = true := by
  rw [take_snoc' h, List.all_append, ha]; simp [hb]
set_option maxHeartbeats 1000000 in
theorem implIsName_any (s : Str) (w : World) (hs : s.length ≤ maxLen) :
    Calls Try.prog 31 #[sv s] w fun e w' => e = .returned (.bool (isNm s)) ∧ w = w' := by
  unfold maxLen at hs
  go_enter Try.func31, Try.ntmps31
  go_wp2
  go_loop [3] (fun i => ∃ (k : Nat), k ≤ s.length ∧ i = .int .i64 k ∧ (s.take k).all okB = true) (fun i => s.length - (intOf i).toNat)
  case atStart => exact ⟨0, by omega, rfl, by simp⟩
  case round =>
    obtain ⟨k, hk, rfl, hf⟩ := hrel
    have HF := Lib.hid hf
    clear hf
    by_cases hlt : k < s.length
    · have hx := List.getElem?_eq_getElem hlt
      have HX := Lib.hid hx
      clear hx
      have hcase : (s[k].toNat : Int) < 33 ∨ (33 ≤ (s[k].toNat : Int) ∧ 126 < (s[k].toNat : Int)) ∨ (33 ≤ (s[k].toNat : Int) ∧ (s[k].toNat : Int) ≤ 126 ∧ (s[k].toNat : Int) = 96) ∨ (33 ≤ (s[k].toNat : Int) ∧ (s[k].toNat : Int) ≤ 126 ∧ ¬ (s[k].toNat : Int) = 96) := by omega
      have hbad : okB s[k] = false → isNm s = false := fun h => by rw [isNm, all_bad HX.out h]; rfl
      have HB := Lib.hid hbad
      clear hbad
      rcases hcase with h1 | ⟨h1, h2⟩ | ⟨h1, h2, h3⟩ | ⟨h1, h2, h3⟩
      · go_wp2
        go_ret
        exact ⟨ret_bool (HB.out (by simp [okB]; omega)).symm, rfl⟩
      · go_wp2
        go_ret
        exact ⟨ret_bool (HB.out (by simp [okB]; omega)).symm, rfl⟩
      · have h3' : ((s[k].toNat : Int) == 96) = true := by simpa using h3
        have H3 := Lib.hid h3
        clear h3
        go_wp2
        go_ret
        have h4 := H3.out
        exact ⟨ret_bool (HB.out (by simp [okB]; omega)).symm, rfl⟩
      · have h3' : ((s[k].toNat : Int) == 96) = false := by simpa using h3
        go_wp2
        go_round
        case rel => exact ⟨k + 1, by omega, by go_num, all_snoc HX.out HF.out (by simp [okB]; omega)⟩
        case measure => simp [intOf]; omega
    · obtain rfl : k = s.length := by omega
      have hf := HF.out
      rw [List.take_length] at hf
      have HG := Lib.hid hf
      clear hf HF
      by_cases h1 : 1 ≤ (s.length : Int)
      · go_wp2
        go_ret
        exact ⟨ret_bool (by rw [isNm, HG.out, Bool.true_and, decide_eq_decide]; omega), rfl⟩
      · go_wp2
        go_ret
        exact ⟨ret_bool (by rw [isNm, HG.out, Bool.true_and, eq_comm, decide_eq_false_iff_not]; omega), rfl⟩
theorem l1In_any (x a b : Int) (w : World) : Calls Try.prog 26 #[.int .i64 x, .int .i64 a, .int .i64 b] w fun e w' => e = .returned (.bool (decide (a ≤ x ∧ x ≤ b))) ∧ w = w' := by
  by_cases h : a ≤ x
  · go_enter Try.func26, Try.ntmps26
    go_wp2
    go_ret
    exact ⟨ret_bool (by simp [h]), rfl⟩
  · go_enter Try.func26, Try.ntmps26
    go_wp2
    go_ret
    exact ⟨ret_bool (by simp; omega), rfl⟩
set_option maxHeartbeats 1000000 in
theorem specIsName_any (s : Str) (w : World) (hs : s.length ≤ maxLen) :
    Calls Try.prog 27 #[sv s] w fun e w' => e = .returned (.bool (isNm s)) ∧ w = w' := by
  unfold maxLen at hs
  go_enter Try.func27, Try.ntmps27
  go_wp2
  go_loop [3] (fun i => ∃ (k : Nat), k ≤ s.length ∧ i = .int .i64 k ∧ (s.take k).all okB = true) (fun i => s.length - (intOf i).toNat)
  case atStart => exact ⟨0, by omega, rfl, by simp⟩
  case round =>
    obtain ⟨k, hk, rfl, hf⟩ := hrel
    have HF := Lib.hid hf
    clear hf
    by_cases hlt : k < s.length
    · have hx := List.getElem?_eq_getElem hlt
      have HX := Lib.hid hx
      clear hx
      have hcase : (s[k].toNat : Int) < 33 ∨ (33 ≤ (s[k].toNat : Int) ∧ 126 < (s[k].toNat : Int)) ∨ (33 ≤ (s[k].toNat : Int) ∧ (s[k].toNat : Int) ≤ 126 ∧ (s[k].toNat : Int) = 96) ∨ (33 ≤ (s[k].toNat : Int) ∧ (s[k].toNat : Int) ≤ 126 ∧ ¬ (s[k].toNat : Int) = 96) := by omega
      have hbad : okB s[k] = false → isNm s = false := fun h => by rw [isNm, all_bad HX.out h]; rfl
      have HB := Lib.hid hbad
      clear hbad
      rcases hcase with h1 | ⟨h1, h2⟩ | ⟨h1, h2, h3⟩ | ⟨h1, h2, h3⟩
      · go_wp2
        go_ret
        exact ⟨ret_bool (HB.out (by simp [okB]; omega)).symm, rfl⟩
      · go_wp2
        go_ret
        exact ⟨ret_bool (HB.out (by simp [okB]; omega)).symm, rfl⟩
      · have h3' : ((s[k].toNat : Int) == 96) = true := by simpa using h3
        have H3 := Lib.hid h3
        clear h3
        go_wp2
        go_ret
        have h4 := H3.out
        exact ⟨ret_bool (HB.out (by simp [okB]; omega)).symm, rfl⟩
      · have h3' : ((s[k].toNat : Int) == 96) = false := by simpa using h3
        go_wp2
        go_round
        case rel => exact ⟨k + 1, by omega, by go_num, all_snoc HX.out HF.out (by simp [okB]; omega)⟩
        case measure => simp [intOf]; omega
    · obtain rfl : k = s.length := by omega
      have hf := HF.out
      rw [List.take_length] at hf
      have HG := Lib.hid hf
      clear hf HF
      go_wp2_with (go_at_call 26; refine (l1In_any _ _ _ _).mono ?_; rintro e w1 ⟨rfl, rfl⟩)
      go_ret
      exact ⟨ret_bool (by rw [isNm, HG.out, Bool.true_and, ← Bool.decide_and, decide_eq_decide]; omega), rfl⟩

/-- The place of a text in a list, counted from i; -1 where it is not there. -/
def ix : List Str → Str → Nat → Int
  | [], _, _ => -1
  | e :: t, key, i => if e = key then i else ix t key (i + 1)
theorem ix_drop (l : List Str) (k : Nat) (e key : Str) (h : l[k]? = some e) : ix (l.drop k) key k = if e = key then (k : Int) else ix (l.drop (k + 1)) key (k + 1) := by
  obtain ⟨hk, he⟩ := List.getElem?_eq_some_iff.1 h
  rw [List.drop_eq_getElem_cons hk, he, ix]
theorem ix_mem (l : List Str) (key : Str) (i : Nat) : decide (0 ≤ ix l key i) = l.contains key := by
  induction l generalizing i with
  | nil => simp [ix]
  | cons a t ih =>
    rw [ix, List.contains_cons]
    by_cases h : a = key
    · simp [h]
    · rw [if_neg h, ih]
      have : (key == a) = false := by simp; exact fun h' => h h'.symm
      rw [this]; rfl
theorem ix_ge (l : List Str) (key : Str) (i : Nat) : -1 ≤ ix l key i ∧ ix l key i < i + l.length := by
  induction l generalizing i with
  | nil => simp [ix]; omega
  | cons a t ih => rw [ix]; have := ih (i + 1); split <;> simp <;> omega
set_option maxHeartbeats 1000000 in
theorem textIndex_any (A : Option Addr) (len cap : Nat) (l : List Str) (key : Str) (w : World) (hr : Reads encS 1 w w.heap.size A len l) (hlen : len ≤ maxLen) :
    Calls Try.prog 84 #[.slice A len cap, sv key] w fun e w' => e = .returned (.int .i64 (ix l key 0)) ∧ w = w' := by
  unfold maxLen at hlen
  go_enter Try.func84, Try.ntmps84
  go_wp2
  go_loop [9] (fun i => ∃ (k : Nat), k ≤ len ∧ i = .int .i64 k ∧ ix l key 0 = ix (l.drop k) key k) (fun i => len - (intOf i).toNat)
  case atStart => exact ⟨0, by omega, rfl, rfl⟩
  case round =>
    obtain ⟨k, hk, rfl, hf⟩ := hrel
    have HF := Lib.hid hf
    clear hf
    by_cases hlt : k < len
    · obtain ⟨b, off, x, rfl, hbl, hx, hc0⟩ := hr.atS hlt
      have HD := Lib.hid (ix_drop l k _ key hx)
      clear hx
      go_wp2
      · go_ret
        have hq : x = key := of_beq (by assumption)
        exact ⟨ret_int (by rw [HF.out, HD.out, if_pos hq]), rfl⟩
      · have hq : ¬ x = key := of_nbeq (by assumption)
        go_round
        case rel => exact ⟨k + 1, by omega, by go_num, by rw [HF.out, HD.out, if_neg hq]⟩
        case measure => simp [intOf]; omega
    · obtain rfl : len = k := by omega
      go_wp2
      go_ret
      exact ⟨ret_int (by rw [HF.out, List.drop_of_length_le (by rw [hr.len]; omega)]; rfl), rfl⟩
set_option maxHeartbeats 1000000 in
theorem l1Find_any (A : Option Addr) (len cap : Nat) (l : List Str) (key : Str) (w : World) (hr : Reads encS 1 w w.heap.size A len l) (hlen : len ≤ maxLen) :
    Calls Try.prog 38 #[.slice A len cap, sv key] w fun e w' => e = .returned (.int .i64 (ix l key 0)) ∧ w = w' := by
  unfold maxLen at hlen
  go_enter Try.func38, Try.ntmps38
  go_wp2
  go_loop [5] (fun i => ∃ (k : Nat), k ≤ len ∧ i = .int .i64 k ∧ ix l key 0 = ix (l.drop k) key k) (fun i => len - (intOf i).toNat)
  case atStart => exact ⟨0, by omega, rfl, rfl⟩
  case round =>
    obtain ⟨k, hk, rfl, hf⟩ := hrel
    have HF := Lib.hid hf
    clear hf
    by_cases hlt : k < len
    · obtain ⟨b, off, x, rfl, hbl, hx, hc0⟩ := hr.atS hlt
      have HD := Lib.hid (ix_drop l k _ key hx)
      clear hx
      go_wp2
      · go_ret
        have hq : x = key := of_beq (by assumption)
        exact ⟨ret_int (by rw [HF.out, HD.out, if_pos hq]), rfl⟩
      · have hq : ¬ x = key := of_nbeq (by assumption)
        go_round
        case rel => exact ⟨k + 1, by omega, by go_num, by rw [HF.out, HD.out, if_neg hq]⟩
        case measure => simp [intOf]; omega
    · obtain rfl : len = k := by omega
      go_wp2
      go_ret
      exact ⟨ret_int (by rw [HF.out, List.drop_of_length_le (by rw [hr.len]; omega)]; rfl), rfl⟩
theorem hasText_any (A : Option Addr) (len cap : Nat) (l : List Str) (key : Str) (w : World) (hr : Reads encS 1 w w.heap.size A len l) (hlen : len ≤ maxLen) :
    Calls Try.prog 47 #[.slice A len cap, sv key] w fun e w' => e = .returned (.bool (l.contains key)) ∧ w = w' := by
  go_enter Try.func47, Try.ntmps47
  go_wp2_with fail
  refine (textIndex_any A len cap l key _ hr hlen).mono ?_
  rintro e w1 ⟨rfl, rfl⟩
  go_wp2_with fail
  go_ret
  exact ⟨ret_bool (ix_mem l key 0), rfl⟩
theorem l1Has_any (A : Option Addr) (len cap : Nat) (l : List Str) (key : Str) (w : World) (hr : Reads encS 1 w w.heap.size A len l) (hlen : len ≤ maxLen) :
    Calls Try.prog 121 #[.slice A len cap, sv key] w fun e w' => e = .returned (.bool (l.contains key)) ∧ w = w' := by
  go_enter Try.func121, Try.ntmps121
  go_wp2_with fail
  refine (l1Find_any A len cap l key _ hr hlen).mono ?_
  rintro e w1 ⟨rfl, rfl⟩
  go_wp2_with fail
  go_ret
  exact ⟨ret_bool (ix_mem l key 0), rfl⟩
end Go.Proofs.Ytekcpadlmfaihaa
