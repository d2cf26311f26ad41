/- What the functions on caches return, for all arguments: a contract of each. -/
import Derived.Test.YtecebamhenlnoaaPfEntry
namespace Go.Proofs.Ytecebamhenlnoaa
open Go.RowKit
/-- The place of the first entry with a key, counted from i; -1 where there is none. -/
def fk : List Pair → Str → Nat → Int
  | [], _, _ => -1
  | e :: t, key, i => if e.1 = key then i else fk t key (i + 1)
theorem fk_drop (l : List Pair) (k : Nat) (e : Pair) (key : Str) (h : l[k]? = some e) : fk (l.drop k) key k = if e.1 = key then (k : Int) else fk (l.drop (k + 1)) key (k + 1) := by
  obtain ⟨hk, he⟩ := List.getElem?_eq_some_iff.1 h
  rw [List.drop_eq_getElem_cons hk, he, fk]
set_option maxHeartbeats 400000 in
theorem l39Find_any (A : Option Addr) (len cap : Nat) (l : List Pair) (key : Str) (w : World) (hr : Reads enc2 2 w w.heap.size A len l) (hlen : len ≤ 1048576) :
    Calls Try.prog 51 #[.slice A len cap, sv key] w fun e w' => e = .returned (.int .i64 (fk l key 0)) ∧ w = w' := by
  go_enter Try.func51, Try.ntmps51
  go_wp2
  go_loop [5] (fun i => ∃ (k : Nat), k ≤ len ∧ i = .int .i64 k ∧ fk l key 0 = fk (l.drop k) key k) (fun i => len - (intOf i).toNat)
  case atStart => exact ⟨0, by omega, rfl, rfl⟩
  case round =>
    obtain ⟨k, hk, rfl, hf⟩ := hrel
    have HF := Lib.hid hf
    clear hf
    by_cases hlt : k < len
    · obtain ⟨b, off, x, y, rfl, hbl, hx, hc0, hc1⟩ := hr.at2 hlt
      have HD := Lib.hid (fk_drop l k _ key hx)
      clear hx
      go_wp2
      · go_ret
        have hq : x = key := of_beq (by assumption)
        exact ⟨ret_int (by rw [HF.out, HD.out, if_pos hq]), rfl⟩
      · have hq : ¬ x = key := of_nbeq (by assumption)
        go_round
        case rel => exact ⟨k + 1, by omega, by go_num, by rw [HF.out, HD.out, if_neg hq]⟩
        case measure => simp [intOf]; omega
    · obtain rfl : len = k := by omega
      go_wp2
      go_ret
      exact ⟨ret_int (by rw [HF.out, List.drop_of_length_le (by rw [hr.len]; omega)]; rfl), rfl⟩
set_option maxHeartbeats 400000 in
theorem entryIndex_any (A : Option Addr) (len cap : Nat) (l : List Pair) (key : Str) (w : World) (hr : Reads enc2 2 w w.heap.size A len l) (hlen : len ≤ 1048576) :
    Calls Try.prog 53 #[.slice A len cap, sv key] w fun e w' => e = .returned (.int .i64 (fk l key 0)) ∧ Below w.heap.size w w' := by
  go_enter Try.func53, Try.ntmps53
  go_wp2
  go_loopw [9] (fun i wr => ∃ (k : Nat), k ≤ len ∧ i = .int .i64 k ∧ fk l key 0 = fk (l.drop k) key k ∧ Below w.heap.size w wr) (fun i _ => len - (intOf i).toNat)
  case atStart => exact ⟨0, by omega, rfl, rfl, Below.refl _ _⟩
  case round =>
    obtain ⟨k, hk, rfl, hf, hb⟩ := hrel
    have HF := Lib.hid hf
    clear hf
    by_cases hlt : k < len
    · obtain ⟨b, off, x, y, rfl, hbl, hx, hc0, hc1⟩ := (hr.below hb).at2 hlt
      have HD := Lib.hid (fk_drop l k _ key hx)
      clear hx
      go_wp2
      · go_ret
        have hq : x = key := of_beq (by assumption)
        exact ⟨ret_int (by rw [HF.out, HD.out, if_pos hq]), hb.alloc hb.size _⟩
      · have hq : ¬ x = key := of_nbeq (by assumption)
        go_roundw
        case rel => exact ⟨k + 1, by omega, by go_num, by rw [HF.out, HD.out, if_neg hq], hb.alloc hb.size _⟩
        case measure => simp [intOf]; omega
    · obtain rfl : len = k := by omega
      go_wp2
      go_ret
      exact ⟨ret_int (by rw [HF.out, List.drop_of_length_le (by rw [hr.len]; omega)]; rfl), hb⟩

/-- Each key stands first where it stands, up to k. -/
def okTo (l : List Pair) (k : Nat) : Prop := ∀ i e, i < k → l[i]? = some e → fk l e.1 0 = i
/-- The cache's own rule: each key once; not too many. -/
def isC (l : List Pair) : Bool := decide (l.length ≤ 8) && (l.map (·.1)).Pairwise (· ≠ ·)
theorem fk_ge (l : List Pair) (key : Str) (i : Nat) : fk l key i = -1 ∨ (i : Int) ≤ fk l key i := by
  induction l generalizing i with
  | nil => left; rfl
  | cons a t ih =>
    rw [fk]; split
    · right; omega
    · rcases ih (i + 1) with h | h
      · left; exact h
      · right; omega
theorem fk_at (l : List Pair) (key : Str) (k : Nat) (e : Pair) (i : Nat) (h : l[k]? = some e) (he : e.1 = key) : (i : Int) ≤ fk l key i ∧ fk l key i ≤ i + k := by
  induction l generalizing i k with
  | nil => simp at h
  | cons a t ih =>
    rw [fk]
    cases k with
    | zero =>
      simp at h; subst h; rw [if_pos he]; omega
    | succ k =>
      simp at h
      split
      · omega
      · have := ih k (i + 1) h; omega
theorem fk_hit (l : List Pair) (key : Str) (i k : Nat) (h : fk l key i = ((i + k : Nat) : Int)) : ∃ e, l[k]? = some e ∧ e.1 = key := by
  induction l generalizing i k with
  | nil => rw [fk] at h; omega
  | cons a t ih =>
    rw [fk] at h
    split at h
    · have hk : k = 0 := by omega
      subst hk; exact ⟨a, by simp, by assumption⟩
    · cases k with
      | zero => have := fk_ge t key (i + 1); omega
      | succ k =>
        obtain ⟨e, h1, h2⟩ := ih (i + 1) k (by rw [h]; omega)
        exact ⟨e, by simpa using h1, h2⟩
theorem okTo_all (l : List Pair) (h : okTo l l.length) : (l.map (·.1)).Pairwise (· ≠ ·) := by
  rw [List.pairwise_iff_getElem]
  intro i j hi hj hij he
  simp at hi hj he
  have hx : l[i]? = some l[i] := List.getElem?_eq_getElem hi
  have hy : l[j]? = some l[j] := List.getElem?_eq_getElem hj
  have h1 := h i _ hi hx
  have h2 := h j _ hj hy
  rw [he] at h1; omega
theorem not_ok (l : List Pair) (k : Nat) (e : Pair) (hx : l[k]? = some e) (hf : ¬ fk l e.1 0 = k) : ¬ (l.map (·.1)).Pairwise (· ≠ ·) := by
  intro hp
  have h1 := fk_at l e.1 k e 0 hx rfl
  obtain ⟨m, hm⟩ : ∃ m : Nat, fk l e.1 0 = m := ⟨(fk l e.1 0).toNat, by omega⟩
  obtain ⟨e', h2, h3⟩ := fk_hit l e.1 0 m (by rw [hm]; omega)
  have hk := (List.getElem?_eq_some_iff.1 hx)
  have hm' := (List.getElem?_eq_some_iff.1 h2)
  rw [List.pairwise_iff_getElem] at hp
  have := hp m k (by simpa using hm'.1) (by simpa using hk.1) (by omega)
  simp [hk.2, hm'.2, h3] at this
theorem isC_no {l : List Pair} (h : ¬ (l.map (·.1)).Pairwise (· ≠ ·)) : isC l = false := by simp only [isC]; simp [h]
theorem isC_long {l : List Pair} (h : 8 < l.length) : isC l = false := by simp only [isC]; simp; omega
theorem isC_end {l : List Pair} (h : okTo l l.length) : isC l = decide (l.length ≤ 8) := by simp only [isC]; simp [okTo_all l h]
theorem okTo_succ {l : List Pair} {k : Nat} {e : Pair} (h : okTo l k) (hx : l[k]? = some e) (hf : fk l e.1 0 = k) : okTo l (k + 1) := by
  intro i e' hi hx'
  by_cases hk : i = k
  · subst hk; rw [hx] at hx'; injection hx' with hx'; subst hx'; exact hf
  · exact h i e' (by omega) hx'
set_option maxHeartbeats 400000 in
theorem implIsCache_any (A : Option Addr) (len cap : Nat) (l : List Pair) (w : World) (hr : Reads enc2 2 w w.heap.size A len l) (hlen : len ≤ 1048576) :
    Calls Try.prog 16 #[.slice A len cap] w fun e w' => e = .returned (.bool (isC l)) ∧ Below w.heap.size w w' := by
  go_enter Try.func16, Try.ntmps16
  go_wp2
  go_loopw [7] (fun i wr => ∃ (k : Nat), k ≤ len ∧ i = .int .i64 k ∧ okTo l k ∧ Below w.heap.size w wr) (fun i _ => len - (intOf i).toNat)
  case atStart => exact ⟨0, by omega, rfl, fun i e hi => by omega, Below.refl _ _⟩
  case round =>
    obtain ⟨k, hk, rfl, hf, hb⟩ := hrel
    have HF := Lib.hid hf
    clear hf
    by_cases hlt : k < len
    · obtain ⟨b, off, x, y, rfl, hbl, hx, hc0, hc1⟩ := (hr.below hb).at2 hlt
      have HX := Lib.hid hx
      clear hx
      go_wp2_with (go_at_call 53; refine (entryIndex_any _ _ _ l _ _ ?_ hlen).mono ?_; (exact (hr.next (hb.alloc hb.size _))); rintro e w1 ⟨rfl, hb1⟩)
      · go_ret
        have hq : (fk l x 0 != (k : Int)) = true := by assumption
        exact ⟨ret_bool (isC_no (not_ok l k _ HX.out (by simpa using hq))).symm, bth (hb.alloc hb.size _) hb1⟩
      · have hq : (fk l x 0 != (k : Int)) = false := by assumption
        go_roundw
        case rel => exact ⟨k + 1, by omega, by go_num, okTo_succ HF.out HX.out (by simpa using hq), bth (hb.alloc hb.size _) hb1⟩
        case measure => simp [intOf]; omega
    · obtain rfl : len = k := by omega
      go_wp2
      go_ret
      have hl := hr.len
      exact ⟨ret_bool (by rw [isC_end (by rw [hl]; exact HF.out), hl]; simp; omega), hb⟩
set_option maxHeartbeats 400000 in
theorem specIsCache_any (A : Option Addr) (len cap : Nat) (l : List Pair) (w : World) (hr : Reads enc2 2 w w.heap.size A len l) (hlen : len ≤ 1048576) :
    Calls Try.prog 14 #[.slice A len cap] w fun e w' => e = .returned (.bool (isC l)) ∧ w = w' := by
  go_enter Try.func14, Try.ntmps14
  go_wp2
  go_loop [3] (fun i => ∃ (k : Nat), k ≤ len ∧ k ≤ 9 ∧ i = .int .i64 k ∧ okTo l k) (fun i => len - (intOf i).toNat)
  case atStart => exact ⟨0, by omega, by omega, rfl, fun i e hi => by omega⟩
  case round =>
    obtain ⟨k, hk, hk9, rfl, hf⟩ := hrel
    have HF := Lib.hid hf
    clear hf
    by_cases hlt : k < len
    · by_cases h9 : k ≤ 8
      · obtain ⟨b, off, x, y, rfl, hbl, hx, hc0, hc1⟩ := hr.at2 hlt
        have HX := Lib.hid hx
        clear hx
        go_wp2_with (go_at_call 51; refine (l39Find_any _ _ _ l _ _ hr hlen).mono ?_; rintro e w1 ⟨rfl, rfl⟩)
        · go_ret
          have hq : fk l x 0 < (k : Int) := by assumption
          exact ⟨ret_bool (isC_no (not_ok l k _ HX.out (by show ¬ fk l x 0 = k; omega))).symm, rfl⟩
        · have hq : (k : Int) ≤ fk l x 0 := by assumption
          have hq' := fk_at l x k _ 0 HX.out rfl
          go_round
          case rel => exact ⟨k + 1, by omega, by omega, by go_num, okTo_succ HF.out HX.out (by show fk l x 0 = k; omega)⟩
          case measure => simp [intOf]; omega
      · go_wp2
        go_ret
        exact ⟨ret_bool (by rw [isC_long (by rw [hr.len]; omega)]; simp; omega), rfl⟩
    · obtain rfl : len = k := by omega
      go_wp2
      go_ret
      have hl := hr.len
      exact ⟨ret_bool (by rw [isC_end (by rw [hl]; exact HF.out), hl]; simp; omega), rfl⟩
end Go.Proofs.Ytecebamhenlnoaa
