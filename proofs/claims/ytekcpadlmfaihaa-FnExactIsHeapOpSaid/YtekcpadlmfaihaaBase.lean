/- Words for memory that the walks of this family share: a slice that reads as a list of data, each datum some cells; strings as lists of bytes. No conditions. -/
import Derived.Test.YtekcpadlmfaihaaRows
import Derived.WalkKit
import Derived.WalkSpells
import Derived.WalkLawsBesides
import Derived.Lib.Hide
import Derived.Lib.Strings
import Derived.Below
import Derived.Laws.OwnMore
import Derived.Deep.AppendLies
import Derived.Deep.Draws
import Derived.Deep.QuietTactic
import Derived.BigQuiet
import Derived.Laws.MakeOwn
import Derived.Maps.AppendAt
import Derived.Deep.RegionHeld3
import Derived.Deep.LoopGhost
import Derived.StillTailTactics
import Derived.IntWalk
namespace Go.Proofs.Ytekcpadlmfaihaa
open Go.RowKit

/-! Strings are lists of bytes. -/
abbrev Str := List UInt8
abbrev sv (s : Str) : Value := .string ⟨s.toArray⟩
@[go_sem] theorem str_extract (s : List UInt8) (a b : Nat) : (⟨s.toArray⟩ : ByteArray).extract a b = ⟨((s.drop a).take (b - a)).toArray⟩ := by
  rw [Lib.extract_eq]
@[go_sem] theorem str_append (a b : List UInt8) : (⟨a.toArray⟩ : ByteArray) ++ ⟨b.toArray⟩ = ⟨(a ++ b).toArray⟩ := ByteArray.mk_append_mk a b
@[go_sem] theorem str_get (s : List UInt8) (i : Nat) (h : i < (⟨s.toArray⟩ : ByteArray).size) : (⟨s.toArray⟩ : ByteArray)[i] = s[i]'h := rfl
theorem str_eta (b : ByteArray) : ∃ s : Str, b = ⟨s.toArray⟩ := ⟨b.data.toList, by cases b; simp⟩

theorem ret_int {k : IntKind} {a b : Int} (h : a = b) : Ending.returned (.int k a) = .returned (.int k b) := by rw [h]
theorem ret_bool {a b : Bool} (h : a = b) : Ending.returned (.bool a) = .returned (.bool b) := by rw [h]
theorem ret_str {a b : Str} (h : a = b) : Ending.returned (sv a) = .returned (sv b) := by rw [h]

theorem below_drewN {B : Nat} {a w : World} (h : Below B a w) (n : Nat) : Below B a (w.drewN n) := ⟨h.os, h.tape, h.output, h.size, h.block⟩
/-- A call inside a call: what it leaves is below the outer start. -/
theorem bth {a b c : World} (h : Below a.heap.size a b) (k : Below b.heap.size b c) : Below a.heap.size a c := h.trans (k.mono h.size)

section
variable {α : Type} {enc : α → List Value} {s : Nat} {w w' : World} {B B' n : Nat} {A : Option Addr} {l : List α}

/-- The slice value '.slice A n c' holds the data l, each as the cells 'enc x' (s cells an element), below block B. -/
def Reads (enc : α → List Value) (s : Nat) (w : World) (B : Nat) (A : Option Addr) (n : Nat) (l : List α) : Prop :=
  l.length = n ∧ (0 < n → ∃ b off, A = some ⟨b, off, none⟩ ∧ b < B ∧ ∀ k x j u, l[k]? = some x → (enc x)[j]? = some u → w.cell? ⟨b, off + k * s + j, none⟩ = some u)

theorem Reads.len (h : Reads enc s w B A n l) : l.length = n := h.1
theorem Reads.nil_ : Reads enc s w B A 0 ([] : List α) := ⟨rfl, fun h => absurd h (by omega)⟩
theorem Reads.keep (h : Reads enc s w B A n l) (hk : ∀ p : Addr, p.block < B → w'.cell? p = w.cell? p) : Reads enc s w' B A n l :=
  ⟨h.1, fun hn => by
    obtain ⟨b, off, e, hb, hc⟩ := h.2 hn
    exact ⟨b, off, e, hb, fun k x j u hx hu => (hk _ hb).trans (hc k x j u hx hu)⟩⟩
theorem Reads.more (h : Reads enc s w B A n l) (hB : B ≤ B') : Reads enc s w B' A n l :=
  ⟨h.1, fun hn => by
    obtain ⟨b, off, e, hb, hc⟩ := h.2 hn
    exact ⟨b, off, e, by omega, hc⟩⟩
theorem Reads.below (h : Reads enc s w B A n l) (hb : Below B w w') : Reads enc s w' B A n l := h.keep fun _ hp => hb.cell hp
theorem Reads.next (h : Reads enc s w w.heap.size A n l) (hb : Below w.heap.size w w') : Reads enc s w' w'.heap.size A n l := (h.below hb).more hb.size
theorem Reads.at_ {k : Nat} (h : Reads enc s w B A n l) (hk : k < n) :
    ∃ b off x, A = some ⟨b, off, none⟩ ∧ b < B ∧ l[k]? = some x ∧ ∀ j u, (enc x)[j]? = some u → w.cell? ⟨b, off + k * s + j, none⟩ = some u := by
  obtain ⟨b, off, e, hb, hc⟩ := h.2 (by omega)
  have hl : k < l.length := by rw [h.1]; exact hk
  have hx : l[k]? = some l[k] := List.getElem?_eq_getElem hl
  exact ⟨b, off, l[k], e, hb, hx, fun j u hu => hc k _ j u hx hu⟩
end

/-- Pairs of strings. -/
abbrev Pair := Str × Str
def enc2 (e : Pair) : List Value := [sv e.1, sv e.2]
theorem Reads.at2 {w : World} {B n k : Nat} {A : Option Addr} {l : List Pair} (h : Reads enc2 2 w B A n l) (hk : k < n) :
    ∃ b off, ∃ x y : Str, A = some ⟨b, off, none⟩ ∧ b < B ∧ l[k]? = some (x, y) ∧ w.cell? ⟨b, off + k * 2, none⟩ = some (sv x) ∧ w.cell? ⟨b, off + k * 2 + 1, none⟩ = some (sv y) := by
  obtain ⟨b, off, x, e, hb, hx, hc⟩ := h.at_ hk
  exact ⟨b, off, x.1, x.2, e, hb, hx, hc 0 _ rfl, hc 1 _ rfl⟩

/-! A block that is known whole. -/
def Blk (w : World) (g : Nat) (t : TypeId) (cs : List Value) : Prop := w.heap[g]? = some (.cells cs.toArray t (0, 0))
section
variable {w w' : World} {g : Nat} {t : TypeId} {cs : List Value}
theorem Blk.lt (h : Blk w g t cs) : g < w.heap.size := by
  rcases Nat.lt_or_ge g w.heap.size with hlt | hge
  · exact hlt
  · unfold Blk at h; rw [Array.getElem?_eq_none hge] at h; cases h
theorem Blk.cell (h : Blk w g t cs) (i : Nat) : w.cell? ⟨g, i, none⟩ = cs[i]? := by
  have := cell_of_row w g i cs.toArray t (0, 0) h
  simpa using this
theorem Blk.frozen (h : Blk w g t cs) (i : Nat) : w.frozen? ⟨g, i, none⟩ = false := by
  unfold Blk at h
  simp [World.frozen?, h]
theorem Blk.set_ (h : Blk w g t cs) (i : Nat) (u : Value) : Blk (w.setCell ⟨g, i, none⟩ u) g t (cs.set i u) := by
  unfold Blk at h ⊢
  simp [World.setCell, Array.getElem?_modify, h]
theorem Blk.below {B : Nat} (h : Blk w g t cs) (hb : Below B w w') (hg : g < B) : Blk w' g t cs := (hb.block g hg).trans h
end
theorem flat_at {α : Type} {enc : α → List Value} {s : Nat} (hs : ∀ x, (enc x).length = s) (l : List α) (k j : Nat) (x : α) (u : Value) (h : l[k]? = some x) (hu : (enc x)[j]? = some u) : (l.flatMap enc)[k * s + j]? = some u := by
  induction l generalizing k with
  | nil => simp at h
  | cons a t ih =>
    cases k with
    | zero =>
      simp at h; subst h
      have hj : j < (enc a).length := (List.getElem?_eq_some_iff.1 hu).1
      simpa [List.getElem?_append_left hj] using hu
    | succ k =>
      simp at h
      have e1 : (k + 1) * s + j = (enc a).length + (k * s + j) := by rw [hs, Nat.succ_mul]; omega
      rw [List.flatMap_cons, e1, List.getElem?_append_right (by omega), Nat.add_sub_cancel_left]
      exact ih k h
theorem flat_length {α : Type} {enc : α → List Value} {s : Nat} (hs : ∀ x, (enc x).length = s) (l : List α) : (l.flatMap enc).length = l.length * s := by
  induction l with
  | nil => simp
  | cons a t ih => rw [List.flatMap_cons, List.length_append, hs, ih, List.length_cons, Nat.succ_mul]; omega
theorem Blk.reads {α : Type} {enc : α → List Value} {s : Nat} (hs : ∀ x, (enc x).length = s) {w : World} {g : Nat} {t : TypeId} {l : List α} {B : Nat} (h : Blk w g t (l.flatMap enc)) (hB : g < B) : Reads enc s w B (some ⟨g, 0, none⟩) l.length l :=
  ⟨rfl, fun _ => ⟨g, 0, rfl, hB, fun k x j u hx hu => by rw [h.cell, Nat.zero_add]; exact flat_at hs l k j x u hx hu⟩⟩
theorem enc2_len (e : Pair) : (enc2 e).length = 2 := rfl

/-! Facts that a test leaves, as plain equations. -/
theorem of_beq {α : Type} [BEq α] [LawfulBEq α] {a b : α} (h : (a == b) = true) : a = b := by simpa using h
theorem of_nbeq {α : Type} [BEq α] [LawfulBEq α] {a b : α} (h : (a == b) = false) : ¬ a = b := by simpa using h
theorem of_bne {α : Type} [BEq α] [LawfulBEq α] {a b : α} (h : (!a == b) = true) : ¬ a = b := by simpa using h
theorem of_nbne {α : Type} [BEq α] [LawfulBEq α] {a b : α} (h : (!a == b) = false) : a = b := by simpa using h

/-! Two lists side by side. -/
theorem take_snoc' {α : Type} {l : List α} {k : Nat} {x : α} (h : l[k]? = some x) : l.take (k + 1) = l.take k ++ [x] := by
  obtain ⟨hk, he⟩ := List.getElem?_eq_some_iff.1 h
  rw [List.take_succ_eq_append_getElem hk, he]
theorem ne_at {α : Type} [BEq α] [LawfulBEq α] {l l' : List α} {k : Nat} {x y : α} (h : l[k]? = some x) (h' : l'[k]? = some y) (hne : ¬ x = y) : (l == l') = false := by
  rw [beq_eq_false_iff_ne]
  rintro rfl
  rw [h] at h'
  exact hne (by injection h')
theorem eq_of_takes {α : Type} [BEq α] [LawfulBEq α] {l l' : List α} {n : Nat} (h : l.take n = l'.take n) (hl : l.length = n) (hl' : l'.length = n) : (l == l') = true := by
  rw [List.take_of_length_le (by omega), List.take_of_length_le (by omega)] at h
  simpa using h
theorem ne_of_len {α : Type} [BEq α] [LawfulBEq α] {l l' : List α} (h : ¬ l.length = l'.length) : (l == l') = false := by
  rw [beq_eq_false_iff_ne]
  rintro rfl
  exact h rfl

/-! make of elements of several cells; a block that is filled from its head. -/
theorem run_make_rowN {P : Program} (t e : TypeId) (i : TypeInfo) (z : Value) (ht : P.underlying t = some (.slice e)) (hi : P.info? e = some i) (hz : i.zero = some z)
    (kl kc : IntKind) (n c : Nat) (hnc : n ≤ c) (hbytes : i.bytes * c ≤ 281474976710656) (h63 : c ≤ 9223372036854775807) (w : World) :
    (Instr.makeSlice t (.int kl (n : Int)) (.int kc (c : Int))).run P w = .ok (.slice (some ⟨w.heap.size, 0, none⟩) n c) (w.alloc (.cells (madeCells z.cells (c * i.size)) e)) := by
  have hb : (i.bytes : Int) * (c : Int) ≤ 281474976710656 := by
    have h : ((i.bytes * c : Nat) : Int) ≤ 281474976710656 := by omega
    rwa [Int.natCast_mul] at h
  have hr := run_make (P := P) w t e i z ht hi hz kl kc n c (by omega) (by omega) hb (by omega)
  simp only [Int.toNat_natCast] at hr
  exact hr
theorem Blk.new_ (w : World) (t : TypeId) (cs : Array Value) : Blk (w.alloc (.cells cs t)) w.heap.size t cs.toList := by
  unfold Blk; simpa using heap_alloc_new w (.cells cs t)
/-- A block of N cells whose first m cells are xs. -/
def Fil (w : World) (g : Nat) (t : TypeId) (N m : Nat) (xs : List Value) : Prop := ∃ cs, Blk w g t cs ∧ cs.length = N ∧ m ≤ N ∧ cs.take m = xs
section
variable {w w' : World} {g : Nat} {t : TypeId} {N m : Nat} {xs : List Value}
theorem Fil.cell (h : Fil w g t N m xs) (i : Nat) (hi : i < N) : ∃ u, w.cell? ⟨g, i, none⟩ = some u := by
  obtain ⟨cs, hb, hl, _⟩ := h
  exact ⟨cs[i], by rw [hb.cell, List.getElem?_eq_getElem]⟩
theorem Fil.frozen (h : Fil w g t N m xs) (i : Nat) : w.frozen? ⟨g, i, none⟩ = false := by
  obtain ⟨cs, hb, _⟩ := h
  exact hb.frozen i
theorem Fil.lt (h : Fil w g t N m xs) : g < w.heap.size := by
  obtain ⟨cs, h1, h2⟩ := h
  exact h1.lt
theorem Fil.below {B : Nat} (h : Fil w g t N m xs) (hb : Below B w w') (hg : g < B) : Fil w' g t N m xs := by
  obtain ⟨cs, h1, h2⟩ := h
  exact ⟨cs, h1.below hb hg, h2⟩
theorem Fil.next (h : Fil w g t N m xs) (hb : Below w.heap.size w w') : Fil w' g t N m xs := h.below hb h.lt
theorem Fil.put (h : Fil w g t N m xs) (hm : m < N) (u : Value) : Fil (w.setCell ⟨g, m, none⟩ u) g t N (m + 1) (xs ++ [u]) := by
  obtain ⟨cs, h1, h2, h3, h4⟩ := h
  refine ⟨_, h1.set_ _ _, by simp [h2], by omega, ?_⟩
  rw [List.take_succ_eq_append_getElem (by simp; omega), List.take_set_of_le (by omega), h4]
  simp
theorem Fil.start (w : World) (t : TypeId) (cs : Array Value) (N : Nat) (h : cs.size = N) : Fil (w.alloc (.cells cs t)) w.heap.size t N 0 [] :=
  ⟨cs.toList, Blk.new_ w t cs, by simpa using h, by omega, by simp⟩
theorem Fil.zero (h : Fil w g t N m xs) : Fil w g t N 0 [] := by
  obtain ⟨cs, h1, h2, h3, h4⟩ := h
  exact ⟨cs, h1, h2, by omega, by simp⟩
end

/-! Rows of the call's own: data in new memory; append. -/
/-- What append asks of a slice's type: t is a slice of e, an element has so many cells and bytes. -/
structure ElemTy (P : Program) (t e : TypeId) (size bytes : Nat) : Prop where
  ok : ∃ i z, P.underlying t = some (.slice e) ∧ P.info? e = some i ∧ i.zero = some z ∧ i.size = size ∧ i.bytes = bytes ∧ z.cells.size = size ∧ 0 < size
/-- The slice '.slice A n c' is the call's own (its block is not below base) and holds the data l. -/
def Own {α : Type} (enc : α → List Value) (s : Nat) (e : TypeId) (w : World) (base : Nat) (A : Option Addr) (n c : Nat) (l : List α) : Prop :=
  l.length = n ∧ w.ownsRow base e s (.slice A n c) n (l.flatMap enc)
section
variable {α : Type} {enc : α → List Value} {s : Nat} {e : TypeId} {w w' : World} {base n c : Nat} {A : Option Addr} {l : List α}
theorem Own.len (h : Own enc s e w base A n c l) : l.length = n := h.1
theorem Own.cap (h : Own enc s e w base A n c l) : n ≤ c := by
  rcases h.2.2 with ⟨h0, h1⟩ | ⟨g, cap, cur, h0, _, _, h1, _⟩
  · omega
  · injection h0 with _ _ h0; omega
theorem Own.lt {b : Addr} (h : Own enc s e w base (some b) n c l) : base ≤ b.block ∧ b.block < w.heap.size := h.2.lt b.block rfl
theorem Own.plain {b : Addr} (h : Own enc s e w base (some b) n c l) : b = ⟨b.block, 0, none⟩ := by
  rcases h.2.2 with ⟨h0, h1⟩ | ⟨g, cap, cur, h0, _, _, h1, _⟩
  · cases h0
  · injection h0 with h0; injection h0 with h0; subst h0; rfl
theorem Own.reads (henc : ∀ x, (enc x).length = s) (h : Own enc s e w base A n c l) : Reads enc s w w.heap.size A n l := by
  refine ⟨h.1, fun hn => ?_⟩
  rcases h.2.2 with ⟨h0, h1⟩ | ⟨g, cap, cur, h0, hg, hh, hc, _, _, hx⟩
  · omega
  · injection h0 with h0; subst h0
    refine ⟨g, 0, rfl, h.lt.2, fun k x j u hk hu => ?_⟩
    have := h.2.cells (g := g) rfl _ _ (flat_at henc l k j x u hk hu)
    rw [show (⟨g, 0, none⟩ : Addr).add (k * s + j) = ⟨g, 0 + k * s + j, none⟩ from by unfold Addr.add; split <;> simp_all] at this
    exact this
theorem Own.kept {row : Option Nat} (h : Own enc s e w base A n c l) (hg : w.grownBy w' row) (hne : A = none ∨ (Value.slice A n c).ownBlock ≠ row) : Own enc s e w' base A n c l :=
  ⟨h.1, h.2.kept hg (by rcases hne with rfl | hne; exact .inl rfl; exact .inr hne)⟩
theorem Own.below (h : Own enc s e w base A n c l) (hb : Below w.heap.size w w') : Own enc s e w' base A n c l := by
  refine h.kept (row := none) ⟨hb.os, hb.tape, hb.output, hb.size, fun k hk _ => hb.block k hk⟩ ?_
  cases A with
  | none => exact .inl rfl
  | some b => exact .inr (by simp [Value.ownBlock])
theorem Own.alloc (h : Own enc s e w base A n c l) (o : Obj) : Own enc s e (w.alloc o) base A n c l := ⟨h.1, h.2.alloc o⟩
theorem Own.mono {base' : Nat} (h : Own enc s e w base A n c l) (hb : base' ≤ base) : Own enc s e w base' A n c l := by
  refine ⟨h.1, h.2.1, ?_⟩
  rcases h.2.2 with h0 | ⟨g, cap, cur, h0, hg, hr⟩
  · exact .inl h0
  · exact .inr ⟨g, cap, cur, h0, by omega, hr⟩
theorem Own.nil_ : Own enc s e w base none 0 0 ([] : List α) := ⟨rfl, World.ownsRow_nil w base e s⟩
/-- The first k of them. -/
theorem Own.take (henc : ∀ x, (enc x).length = s) (h : Own enc s e w base A n c l) {k : Nat} (hk : k ≤ n) (hA : A ≠ none) : Own enc s e w base A k c (l.take k) := by
  have hl : (l.take k).length = k := by have := h.1; simp; omega
  refine ⟨hl, by rw [flat_length henc, hl], ?_⟩
  rcases h.2.2 with ⟨h0, h1⟩ | ⟨g, cap, cur, h0, hg, hh, hc, hm, hz, hx⟩
  · injection h0 with h0; exact absurd h0 hA
  · injection h0 with h0 _ h3; subst h0 h3
    refine .inr ⟨g, c, cur, rfl, hg, hh, by omega, hm, hz, ?_⟩
    have h2 : cur.toList.take (k * s) = (cur.toList.take (n * s)).take (k * s) := by rw [List.take_take, Nat.min_eq_left (Nat.mul_le_mul_right _ hk)]
    rw [h2, hx]
    have h4 : l.flatMap enc = (l.take k).flatMap enc ++ (l.drop k).flatMap enc := by rw [← List.flatMap_append, List.take_append_drop]
    rw [h4, List.take_append_of_le_length (by rw [flat_length henc, hl]; omega), List.take_of_length_le (by rw [flat_length henc, hl]; omega)]
/-- A new block whose cells are the data. -/
theorem Own.new_ (henc : ∀ x, (enc x).length = s) (w : World) (l : List α) (cs : Array Value) {g : Nat} (hc : cs.toList = l.flatMap enc) (hn : l.length = n) (hm : n ≤ maxLen) (hb : base ≤ w.heap.size) (hg : w.heap.size = g) :
    Own enc s e (w.alloc (.cells cs e)) base (some ⟨g, 0, none⟩) n n l := by
  subst hg
  have hz : cs.size = n * s := by rw [← Array.length_toList, hc, flat_length henc, hn]
  exact ⟨hn, by rw [flat_length henc, hn], .inr ⟨w.heap.size, n, cs, rfl, hb, heap_alloc_new w _, Nat.le_refl _, hm, hz, by rw [hc, List.take_of_length_le (by rw [flat_length henc, hn]; omega)]⟩⟩
/-- A block that has been filled. -/
theorem Fil.own (henc : ∀ x, (enc x).length = s) {g : Nat} (h : Fil w g e (c * s) (n * s) (l.flatMap enc)) (hn : l.length = n) (hnc : n ≤ c) (hm : c ≤ maxLen) (hb : base ≤ g) : Own enc s e w base (some ⟨g, 0, none⟩) n c l := by
  obtain ⟨cs, h1, h2, h3, h4⟩ := h
  exact ⟨hn, by rw [flat_length henc, hn], .inr ⟨g, c, cs.toArray, rfl, hb, h1, hnc, hm, by simpa using h2, by simpa using h4⟩⟩
theorem Own.fil {g : Nat} (h : Own enc s e w base (some ⟨g, 0, none⟩) n c l) : Fil w g e (c * s) 0 [] ∧ c ≤ maxLen := by
  rcases h.2.2 with ⟨h0, h1⟩ | ⟨g', cap, cur, h0, hg, hh, hc, hm, hz, hx⟩
  · cases h0
  · injection h0 with h0 _ h3; injection h0 with h0; injection h0 with h0; subst h0 h3
    exact ⟨⟨cur.toList, by unfold Blk; simpa using hh, by simpa using hz, by omega, by simp⟩, hm⟩
theorem Own.cases (h : Own enc s e w base A n c l) : (A = none ∧ n = 0 ∧ c = 0 ∧ l = []) ∨ ∃ g, A = some ⟨g, 0, none⟩ := by
  rcases h.2.2 with ⟨h0, h1⟩ | ⟨g', cap, cur, h0, _⟩
  · injection h0 with h0 h2 h3
    have := h.1
    exact .inl ⟨h0, h1, h3, List.length_eq_zero_iff.1 (by omega)⟩
  · injection h0 with h0; exact .inr ⟨g', h0⟩
end
/-! Only one block, and what is new, has turned. -/
theorem only_refl (w : World) (row : Option Nat) : w.grownBy w row := ⟨rfl, rfl, rfl, Nat.le_refl _, fun _ _ _ => rfl⟩
theorem only_below {a w w' : World} {row : Option Nat} (h : a.grownBy w row) (hb : Below w.heap.size w w') : a.grownBy w' row :=
  ⟨hb.os.trans h.os, hb.tape.trans h.tape, hb.output.trans h.output, Nat.le_trans h.size hb.size, fun i hi hn => (hb.block i (Nat.lt_of_lt_of_le hi h.size)).trans (h.block i hi hn)⟩
theorem only_trans {a b c : World} {row : Option Nat} (h : a.grownBy b row) (k : b.grownBy c row) : a.grownBy c row :=
  ⟨k.os.trans h.os, k.tape.trans h.tape, k.output.trans h.output, Nat.le_trans h.size k.size, fun i hi hn => (k.block i (Nat.lt_of_lt_of_le hi h.size) hn).trans (h.block i hi hn)⟩
theorem only_of_below {a w : World} {row : Option Nat} (h : Below a.heap.size a w) : a.grownBy w row := ⟨h.os, h.tape, h.output, h.size, fun i hi _ => h.block i hi⟩
/-- Inside a call that began at a: what it did to its own blocks does not count. -/
theorem only_own {a b c : World} {row : Option Nat} (h : a.grownBy b row) (k : Below a.heap.size b c) : a.grownBy c row :=
  ⟨k.os.trans h.os, k.tape.trans h.tape, k.output.trans h.output, Nat.le_trans h.size k.size, fun i hi hn => (k.block i hi).trans (h.block i hi hn)⟩
theorem only_drew {a w : World} {row : Option Nat} (h : a.grownBy w row) : a.grownBy w.drew row := ⟨h.os, h.tape, h.output, h.size, h.block⟩
theorem only_setCell {a w : World} {g : Nat} (h : a.grownBy w (some g)) {p : Addr} (hp : p.block = g ∨ a.heap.size ≤ p.block) (u : Value) : a.grownBy (w.setCell p u) (some g) :=
  ⟨h.os, h.tape, h.output, by simpa [World.setCell] using h.size, fun i hi hne => (Below.heap_setCell w p u i (by
    rintro rfl
    rcases hp with hp | hp
    · exact hne (by rw [hp])
    · omega)).trans (h.block i hi hne)⟩
theorem only_below' {a w : World} {B : Nat} {row : Option Nat} (h : a.grownBy w row) (hB : B ≤ a.heap.size) (hr : ∀ g, row = some g → B ≤ g) : Below B a w :=
  ⟨h.os, h.tape, h.output, h.size, fun i hi => h.block i (by omega) (fun e => by have := hr i e.symm; omega)⟩
/-- append of one element onto a row of the call's own. -/
theorem wpList_app1 {P : Program} {α : Type} (enc : α → List Value) {size bytes : Nat} {t e : TypeId} (hT : ElemTy P t e size bytes) (henc : ∀ x, (enc x).length = size) (hone : ∀ x, ∀ u ∈ enc x, u.oneCell' = true)
    {ops : Array Oper} {rest : List Oper} {o : Oper} {a : Act} {Q : Exit → Act → World → Prop} {w : World} (hgd : o.guard = none) (sl x : Operand)
    (ho : o.op = .call { callee := .builtin .append, args := #[sl, x], argTypes := #[t, t] })
    (base : Nat) (A : Option Addr) (n c : Nat) (l : List α) (hs : a.eval sl = .slice A n c) (hown : Own enc size e w base A n c l)
    (y : α) (b off m : Nat) (hx : a.eval x = .slice (some ⟨b, off, none⟩) 1 m) (hnews : ∀ j u, (enc y)[j]? = some u → w.cell? ⟨b, off + j, none⟩ = some u)
    (h63 : (n + 1) * bytes ≤ 140737488355328) (hn : n + 1 ≤ maxLen) (hbase : base ≤ w.heap.size)
    (h : ∀ g c' w', Own enc size e w' base (some ⟨g, 0, none⟩) (n + 1) c' (l ++ [y]) → w.grownBy w' (Value.slice A n c).ownBlock → Below base w w' → ((Value.slice A n c).ownBlock = some g ∨ g = w.heap.size) →
      wpList P ops Q rest (a.put o.dst (.slice (some ⟨g, 0, none⟩) (n + 1) c')) w') : wpList P ops Q (o :: rest) a w := by
  obtain ⟨i, z, ht, hi, hz, h1, h2, h3, h4⟩ := hT.ok
  refine wpList_append_own_at w hgd sl x t ho base e i z size bytes ht hi hz h1 h2 h3 h4 _ n _ hs hown.2 ⟨b, off, none⟩ 1 m (enc y) hx (by rw [henc, Nat.one_mul]) (fun j u hu => ?_) (hone y) hn h63 hbase ?_
  · have := hnews j u hu
    unfold Addr.add; split
    · simp_all
    · exact this
  · intro v' w' h5 h6 h7 h8
    have hlt := hown.2.lt
    rcases h5.2 with ⟨h9, h10⟩ | ⟨g, cap, cur, h9, h10⟩
    · omega
    · subst h9
      refine h g cap w' ⟨by simp [hown.1], ?_⟩ h6 ?_ ?_
      · rw [List.flatMap_append]; simpa using h5
      · exact (Below.refl _ _).grown h6 hbase (fun k hk => (hlt k hk).1)
      · rcases h8 with h8 | h8
        · left; rw [← h8]; rfl
        · right; simp [Value.ownBlock] at h8; exact h8
theorem enc2_one (e : Pair) : ∀ u ∈ enc2 e, u.oneCell' = true := by simp [enc2, Value.oneCell']
/-- One element in a block made for it. -/
theorem news2 (w : World) (x y : Str) (t : TypeId) (b : Nat) (hb : w.heap.size = b) : ∀ j u, (enc2 (x, y))[j]? = some u → (w.alloc (.cells #[sv x, sv y] t)).cell? ⟨b, 0 + j, none⟩ = some u := by
  intro j u hu
  subst hb
  rw [Nat.zero_add, (Blk.new_ w t _).cell]
  exact hu
theorem Own.apart {α : Type} {enc : α → List Value} {s : Nat} {e : TypeId} {w : World} {base n c : Nat} {A : Option Addr} {l : List α} (h : Own enc s e w base A n c l) {g : Nat} (hg : g < base ∨ w.heap.size ≤ g) : A = none ∨ (Value.slice A n c).ownBlock ≠ some g := by
  cases A with
  | none => exact .inl rfl
  | some b =>
    have := h.lt
    refine .inr ?_
    simp only [Value.ownBlock]
    intro e
    injection e with e
    omega
theorem Own.row {α : Type} {enc : α → List Value} {s : Nat} {e : TypeId} {w : World} {base n c : Nat} {A : Option Addr} {l : List α} (h : Own enc s e w base A n c l) : ∀ g, (Value.slice A n c).ownBlock = some g → base ≤ g ∧ g < w.heap.size := h.2.lt
end Go.Proofs.Ytekcpadlmfaihaa
