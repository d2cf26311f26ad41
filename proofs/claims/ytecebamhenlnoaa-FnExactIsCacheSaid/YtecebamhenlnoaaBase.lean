/- Words for memory that the walks of this family share: a slice that reads as a list of data, each datum some cells; strings as lists of bytes. No conditions. -/
import Derived.Test.YtecebamhenlnoaaRows
import Derived.WalkKit
import Derived.WalkSpells
import Derived.WalkLawsBesides
import Derived.Lib.Hide
import Derived.Lib.Strings
import Derived.Below
import Derived.Laws.OwnMore
import Derived.Deep.AppendLies
import Derived.Deep.Draws
import Derived.Deep.QuietTactic
import Derived.BigQuiet
import Derived.Laws.MakeOwn
import Derived.Maps.AppendAt
import Derived.Deep.RegionHeld3
import Derived.Deep.LoopGhost
import Derived.StillTailTactics
import Derived.IntWalk
namespace Go.Proofs.Ytecebamhenlnoaa
open Go.RowKit

/-! Strings are lists of bytes. -/
abbrev Str := List UInt8
abbrev sv (s : Str) : Value := .string ⟨s.toArray⟩
@[go_sem] theorem str_extract (s : List UInt8) (a b : Nat) : (⟨s.toArray⟩ : ByteArray).extract a b = ⟨((s.drop a).take (b - a)).toArray⟩ := by
  rw [Lib.extract_eq]
@[go_sem] theorem str_append (a b : List UInt8) : (⟨a.toArray⟩ : ByteArray) ++ ⟨b.toArray⟩ = ⟨(a ++ b).toArray⟩ := ByteArray.mk_append_mk a b
@[go_sem] theorem str_get (s : List UInt8) (i : Nat) (h : i < (⟨s.toArray⟩ : ByteArray).size) : (⟨s.toArray⟩ : ByteArray)[i] = s[i]'h := rfl
theorem str_eta (b : ByteArray) : ∃ s : Str, b = ⟨s.toArray⟩ := ⟨b.data.toList, by cases b; simp⟩

theorem ret_int {k : IntKind} {a b : Int} (h : a = b) : Ending.returned (.int k a) = .returned (.int k b) := by rw [h]
theorem ret_bool {a b : Bool} (h : a = b) : Ending.returned (.bool a) = .returned (.bool b) := by rw [h]
theorem ret_str {a b : Str} (h : a = b) : Ending.returned (sv a) = .returned (sv b) := by rw [h]

theorem below_drewN {B : Nat} {a w : World} (h : Below B a w) (n : Nat) : Below B a (w.drewN n) := ⟨h.os, h.tape, h.output, h.size, h.block⟩
/-- A call inside a call: what it leaves is below the outer start. -/
theorem bth {a b c : World} (h : Below a.heap.size a b) (k : Below b.heap.size b c) : Below a.heap.size a c := h.trans (k.mono h.size)

section
variable {α : Type} {enc : α → List Value} {s : Nat} {w w' : World} {B B' n : Nat} {A : Option Addr} {l : List α}

/-- The slice value '.slice A n c' holds the data l, each as the cells 'enc x' (s cells an element), below block B. -/
def Reads (enc : α → List Value) (s : Nat) (w : World) (B : Nat) (A : Option Addr) (n : Nat) (l : List α) : Prop :=
  l.length = n ∧ (0 < n → ∃ b off, A = some ⟨b, off, none⟩ ∧ b < B ∧ ∀ k x j u, l[k]? = some x → (enc x)[j]? = some u → w.cell? ⟨b, off + k * s + j, none⟩ = some u)

theorem Reads.len (h : Reads enc s w B A n l) : l.length = n := h.1
theorem Reads.nil_ : Reads enc s w B A 0 ([] : List α) := ⟨rfl, fun h => absurd h (by omega)⟩
theorem Reads.keep (h : Reads enc s w B A n l) (hk : ∀ p : Addr, p.block < B → w'.cell? p = w.cell? p) : Reads enc s w' B A n l :=
  ⟨h.1, fun hn => by
    obtain ⟨b, off, e, hb, hc⟩ := h.2 hn
    exact ⟨b, off, e, hb, fun k x j u hx hu => (hk _ hb).trans (hc k x j u hx hu)⟩⟩
theorem Reads.more (h : Reads enc s w B A n l) (hB : B ≤ B') : Reads enc s w B' A n l :=
  ⟨h.1, fun hn => by
    obtain ⟨b, off, e, hb, hc⟩ := h.2 hn
    exact ⟨b, off, e, by omega, hc⟩⟩
theorem Reads.below (h : Reads enc s w B A n l) (hb : Below B w w') : Reads enc s w' B A n l := h.keep fun _ hp => hb.cell hp
theorem Reads.next (h : Reads enc s w w.heap.size A n l) (hb : Below w.heap.size w w') : Reads enc s w' w'.heap.size A n l := (h.below hb).more hb.size
theorem Reads.at_ {k : Nat} (h : Reads enc s w B A n l) (hk : k < n) :
    ∃ b off x, A = some ⟨b, off, none⟩ ∧ b < B ∧ l[k]? = some x ∧ ∀ j u, (enc x)[j]? = some u → w.cell? ⟨b, off + k * s + j, none⟩ = some u := by
  obtain ⟨b, off, e, hb, hc⟩ := h.2 (by omega)
  have hl : k < l.length := by rw [h.1]; exact hk
  have hx : l[k]? = some l[k] := List.getElem?_eq_getElem hl
  exact ⟨b, off, l[k], e, hb, hx, fun j u hu => hc k _ j u hx hu⟩
end

/-- Pairs of strings. -/
abbrev Pair := Str × Str
def enc2 (e : Pair) : List Value := [sv e.1, sv e.2]
theorem Reads.at2 {w : World} {B n k : Nat} {A : Option Addr} {l : List Pair} (h : Reads enc2 2 w B A n l) (hk : k < n) :
    ∃ b off, ∃ x y : Str, A = some ⟨b, off, none⟩ ∧ b < B ∧ l[k]? = some (x, y) ∧ w.cell? ⟨b, off + k * 2, none⟩ = some (sv x) ∧ w.cell? ⟨b, off + k * 2 + 1, none⟩ = some (sv y) := by
  obtain ⟨b, off, x, e, hb, hx, hc⟩ := h.at_ hk
  exact ⟨b, off, x.1, x.2, e, hb, hx, hc 0 _ rfl, hc 1 _ rfl⟩

/-! A block that is known whole. -/
def Blk (w : World) (g : Nat) (t : TypeId) (cs : List Value) : Prop := w.heap[g]? = some (.cells cs.toArray t (0, 0))
section
variable {w w' : World} {g : Nat} {t : TypeId} {cs : List Value}
theorem Blk.lt (h : Blk w g t cs) : g < w.heap.size := by
  rcases Nat.lt_or_ge g w.heap.size with hlt | hge
  · exact hlt
  · unfold Blk at h; rw [Array.getElem?_eq_none hge] at h; cases h
theorem Blk.cell (h : Blk w g t cs) (i : Nat) : w.cell? ⟨g, i, none⟩ = cs[i]? := by
  have := cell_of_row w g i cs.toArray t (0, 0) h
  simpa using this
theorem Blk.frozen (h : Blk w g t cs) (i : Nat) : w.frozen? ⟨g, i, none⟩ = false := by
  unfold Blk at h
  simp [World.frozen?, h]
theorem Blk.set_ (h : Blk w g t cs) (i : Nat) (u : Value) : Blk (w.setCell ⟨g, i, none⟩ u) g t (cs.set i u) := by
  unfold Blk at h ⊢
  simp [World.setCell, Array.getElem?_modify, h]
theorem Blk.below {B : Nat} (h : Blk w g t cs) (hb : Below B w w') (hg : g < B) : Blk w' g t cs := (hb.block g hg).trans h
end
theorem flat_at {α : Type} {enc : α → List Value} {s : Nat} (hs : ∀ x, (enc x).length = s) (l : List α) (k j : Nat) (x : α) (u : Value) (h : l[k]? = some x) (hu : (enc x)[j]? = some u) : (l.flatMap enc)[k * s + j]? = some u := by
  induction l generalizing k with
  | nil => simp at h
  | cons a t ih =>
    cases k with
    | zero =>
      simp at h; subst h
      have hj : j < (enc a).length := (List.getElem?_eq_some_iff.1 hu).1
      simpa [List.getElem?_append_left hj] using hu
    | succ k =>
      simp at h
      have e1 : (k + 1) * s + j = (enc a).length + (k * s + j) := by rw [hs, Nat.succ_mul]; omega
      rw [List.flatMap_cons, e1, List.getElem?_append_right (by omega), Nat.add_sub_cancel_left]
      exact ih k h
theorem flat_length {α : Type} {enc : α → List Value} {s : Nat} (hs : ∀ x, (enc x).length = s) (l : List α) : (l.flatMap enc).length = l.length * s := by
  induction l with
  | nil => simp
  | cons a t ih => rw [List.flatMap_cons, List.length_append, hs, ih, List.length_cons, Nat.succ_mul]; omega
theorem Blk.reads {α : Type} {enc : α → List Value} {s : Nat} (hs : ∀ x, (enc x).length = s) {w : World} {g : Nat} {t : TypeId} {l : List α} {B : Nat} (h : Blk w g t (l.flatMap enc)) (hB : g < B) : Reads enc s w B (some ⟨g, 0, none⟩) l.length l :=
  ⟨rfl, fun _ => ⟨g, 0, rfl, hB, fun k x j u hx hu => by rw [h.cell, Nat.zero_add]; exact flat_at hs l k j x u hx hu⟩⟩
theorem enc2_len (e : Pair) : (enc2 e).length = 2 := rfl

/-! Facts that a test leaves, as plain equations. -/
theorem of_beq {α : Type} [BEq α] [LawfulBEq α] {a b : α} (h : (a == b) = true) : a = b := by simpa using h
theorem of_nbeq {α : Type} [BEq α] [LawfulBEq α] {a b : α} (h : (a == b) = false) : ¬ a = b := by simpa using h
theorem of_bne {α : Type} [BEq α] [LawfulBEq α] {a b : α} (h : (!a == b) = true) : ¬ a = b := by simpa using h
theorem of_nbne {α : Type} [BEq α] [LawfulBEq α] {a b : α} (h : (!a == b) = false) : a = b := by simpa using h

/-! Two lists side by side. -/
theorem take_snoc' {α : Type} {l : List α} {k : Nat} {x : α} (h : l[k]? = some x) : l.take (k + 1) = l.take k ++ [x] := by
  obtain ⟨hk, he⟩ := List.getElem?_eq_some_iff.1 h
  rw [List.take_succ_eq_append_getElem hk, he]
theorem ne_at {α : Type} [BEq α] [LawfulBEq α] {l l' : List α} {k : Nat} {x y : α} (h : l[k]? = some x) (h' : l'[k]? = some y) (hne : ¬ x = y) : (l == l') = false := by
  rw [beq_eq_false_iff_ne]
  rintro rfl
  rw [h] at h'
  exact hne (by injection h')
theorem eq_of_takes {α : Type} [BEq α] [LawfulBEq α] {l l' : List α} {n : Nat} (h : l.take n = l'.take n) (hl : l.length = n) (hl' : l'.length = n) : (l == l') = true := by
  rw [List.take_of_length_le (by omega), List.take_of_length_le (by omega)] at h
  simpa using h
theorem ne_of_len {α : Type} [BEq α] [LawfulBEq α] {l l' : List α} (h : ¬ l.length = l'.length) : (l == l') = false := by
  rw [beq_eq_false_iff_ne]
  rintro rfl
  exact h rfl

/-! make of elements of several cells; a block that is filled from its head. -/
theorem run_make_rowN {P : Program} (t e : TypeId) (i : TypeInfo) (z : Value) (ht : P.underlying t = some (.slice e)) (hi : P.info? e = some i) (hz : i.zero = some z)
    (kl kc : IntKind) (n c : Nat) (hnc : n ≤ c) (hbytes : i.bytes * c ≤ 281474976710656) (h63 : c ≤ 9223372036854775807) (w : World) :
    (Instr.makeSlice t (.int kl (n : Int)) (.int kc (c : Int))).run P w = .ok (.slice (some ⟨w.heap.size, 0, none⟩) n c) (w.alloc (.cells (madeCells z.cells (c * i.size)) e)) := by
  have hb : (i.bytes : Int) * (c : Int) ≤ 281474976710656 := by
    have h : ((i.bytes * c : Nat) : Int) ≤ 281474976710656 := by omega
    rwa [Int.natCast_mul] at h
  have hr := run_make (P := P) w t e i z ht hi hz kl kc n c (by omega) (by omega) hb (by omega)
  simp only [Int.toNat_natCast] at hr
  exact hr
theorem Blk.new_ (w : World) (t : TypeId) (cs : Array Value) : Blk (w.alloc (.cells cs t)) w.heap.size t cs.toList := by
  unfold Blk; simpa using heap_alloc_new w (.cells cs t)
/-- A block of n elements of s cells whose first k elements are the data l. -/
def Fill {α : Type} (enc : α → List Value) (s : Nat) (w : World) (g : Nat) (t : TypeId) (n k : Nat) (l : List α) : Prop :=
  ∃ cs, Blk w g t cs ∧ cs.length = n * s ∧ cs.take (k * s) = (l.take k).flatMap enc
theorem Fill.cell {α : Type} {enc : α → List Value} {s : Nat} {w : World} {g : Nat} {t : TypeId} {n k : Nat} {l : List α} (h : Fill enc s w g t n k l) (i : Nat) (hi : i < n * s) : ∃ u, w.cell? ⟨g, i, none⟩ = some u := by
  obtain ⟨cs, hb, hl, _⟩ := h
  exact ⟨cs[i], by rw [hb.cell, List.getElem?_eq_getElem]⟩
theorem Fill.frozen {α : Type} {enc : α → List Value} {s : Nat} {w : World} {g : Nat} {t : TypeId} {n k : Nat} {l : List α} (h : Fill enc s w g t n k l) (i : Nat) : w.frozen? ⟨g, i, none⟩ = false := by
  obtain ⟨cs, hb, _⟩ := h
  exact hb.frozen i
theorem Fill.below {α : Type} {enc : α → List Value} {s : Nat} {w w' : World} {g : Nat} {t : TypeId} {n k B : Nat} {l : List α} (h : Fill enc s w g t n k l) (hb : Below B w w') (hg : g < B) : Fill enc s w' g t n k l := by
  obtain ⟨cs, h1, h2⟩ := h
  exact ⟨cs, h1.below hb hg, h2⟩
theorem Fill.lt {α : Type} {enc : α → List Value} {s : Nat} {w : World} {g : Nat} {t : TypeId} {n k : Nat} {l : List α} (h : Fill enc s w g t n k l) : g < w.heap.size := by
  obtain ⟨cs, h1, h2⟩ := h
  exact h1.lt
theorem Fill.done {α : Type} {enc : α → List Value} {s : Nat} {w : World} {g : Nat} {t : TypeId} {n : Nat} {l : List α} (h : Fill enc s w g t n n l) (hl : l.length = n) : Blk w g t (l.flatMap enc) := by
  obtain ⟨cs, h1, h2, h3⟩ := h
  rw [List.take_of_length_le (by omega), List.take_of_length_le (by omega)] at h3
  rw [← h3]; exact h1
theorem Fill.start {α : Type} {enc : α → List Value} {s : Nat} (w : World) (t : TypeId) (cs : Array Value) (n : Nat) (l : List α) (h : cs.size = n * s) : Fill enc s (w.alloc (.cells cs t)) w.heap.size t n 0 l :=
  ⟨cs.toList, Blk.new_ w t cs, by simpa using h, by simp⟩
theorem take_set2 (cs : List Value) (p : Nat) (a b : Value) (h : p + 1 < cs.length) : ((cs.set p a).set (p + 1) b).take (p + 2) = cs.take p ++ [a, b] := by
  have e1 : (cs.set p a).set (p + 1) b = cs.take p ++ a :: b :: cs.drop (p + 2) := by
    rw [List.set_eq_take_append_cons_drop (l := cs), if_pos (by omega), List.set_append_right _ _ (by simp; omega)]
    have : p + 1 - (cs.take p).length = 1 := by simp; omega
    rw [this]
    simp only [List.set_cons_succ]
    have hd : cs.drop (p + 1) = cs[p + 1] :: cs.drop (p + 2) := List.drop_eq_getElem_cons h
    rw [hd]; rfl
  rw [e1]
  have hl : (cs.take p).length = p := by simp; omega
  rw [List.take_append, List.take_of_length_le (by omega), hl]
  have : p + 2 - p = 2 := by omega
  rw [this]; rfl
theorem Fill.put2 {w : World} {g : Nat} {t : TypeId} {n k : Nat} {l : List Pair} {x y : Str} (h : Fill enc2 2 w g t n k l) (hk : k < n) (hx : l[k]? = some (x, y)) :
    Fill enc2 2 ((w.setCell ⟨g, k * 2, none⟩ (sv x)).setCell ⟨g, k * 2 + 1, none⟩ (sv y)) g t n (k + 1) l := by
  obtain ⟨cs, h1, h2, h3⟩ := h
  refine ⟨_, (h1.set_ _ _).set_ _ _, by simp [h2], ?_⟩
  have e : (k + 1) * 2 = k * 2 + 2 := by omega
  rw [e, take_set2 cs _ _ _ (by omega), h3, take_snoc' hx, List.flatMap_append]
  rfl
end Go.Proofs.Ytecebamhenlnoaa
