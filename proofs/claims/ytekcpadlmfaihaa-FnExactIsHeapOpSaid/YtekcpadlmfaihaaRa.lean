/- Texts: names, finding a text in a list, lines: what the functions of the program and of the reference return. -/
import Derived.Test.YtekcpadlmfaihaaDraw
import Derived.Test.YtekcpadlmfaihaaBas2
namespace Go.Proofs.Ytekcpadlmfaihaa
open Go.RowKit
def okB (c : UInt8) : Bool := decide (33 ≤ c.toNat ∧ c.toNat ≤ 126 ∧ c.toNat ≠ 96)
def isNm (s : Str) : Bool := s.all okB && decide (1 ≤ s.length ∧ s.length ≤ 20)
theorem all_bad {α : Type} {p : α → Bool} {s : List α} {k : Nat} {c : α} (h : s[k]? = some c) (hb : p c = false) : s.all p = false := by
  rw [List.all_eq_false]; exact ⟨c, List.mem_of_getElem? h, by simp [hb]⟩
theorem all_snoc {α : Type} {p : α → Bool} {s : List α} {k : Nat} {c : α} (h : s[k]? = some c) (ha : (s.take k).all p = true) (hb : p c = true) : (s.take (k + 1)).all p = true := by
  rw [take_snoc' h, List.all_append, ha]; simp [hb]
set_option maxHeartbeats 1000000 in
theorem implIsName_any (s : Str) (w : World) (hs : s.length ≤ maxLen) :
    Calls Try.prog 31 #[sv s] w fun e w' => e = .returned (.bool (isNm s)) ∧ w = w' := by
  unfold maxLen at hs
  go_enter Try.func31, Try.ntmps31
  go_wp2
  go_loop [3] (fun i => ∃ (k : Nat), k ≤ s.length ∧ i = .int .i64 k ∧ (s.take k).all okB = true) (fun i => s.length - (intOf i).toNat)
  case atStart => exact ⟨0, by omega, rfl, by simp⟩
  case round =>
    obtain ⟨k, hk, rfl, hf⟩ := hrel
    have HF := Lib.hid hf
    clear hf
    by_cases hlt : k < s.length
    · have hx := List.getElem?_eq_getElem hlt
      have HX := Lib.hid hx
      clear hx
      have hcase : (s[k].toNat : Int) < 33 ∨ (33 ≤ (s[k].toNat : Int) ∧ 126 < (s[k].toNat : Int)) ∨ (33 ≤ (s[k].toNat : Int) ∧ (s[k].toNat : Int) ≤ 126 ∧ (s[k].toNat : Int) = 96) ∨ (33 ≤ (s[k].toNat : Int) ∧ (s[k].toNat : Int) ≤ 126 ∧ ¬ (s[k].toNat : Int) = 96) := by omega
      have hbad : okB s[k] = false → isNm s = false := fun h => by rw [isNm, all_bad HX.out h]; rfl
      have HB := Lib.hid hbad
      clear hbad
      rcases hcase with h1 | ⟨h1, h2⟩ | ⟨h1, h2, h3⟩ | ⟨h1, h2, h3⟩
      · go_wp2
        go_ret
        exact ⟨ret_bool (HB.out (by simp [okB]; omega)).symm, rfl⟩
      · go_wp2
        go_ret
        exact ⟨ret_bool (HB.out (by simp [okB]; omega)).symm, rfl⟩
      · have h3' : ((s[k].toNat : Int) == 96) = true := by simpa using h3
        have H3 := Lib.hid h3
        clear h3
        go_wp2
        go_ret
        have h4 := H3.out
        exact ⟨ret_bool (HB.out (by simp [okB]; omega)).symm, rfl⟩
      · have h3' : ((s[k].toNat : Int) == 96) = false := by simpa using h3
        go_wp2
        go_round
        case rel => exact ⟨k + 1, by omega, by go_num, all_snoc HX.out HF.out (by simp [okB]; omega)⟩
        case measure => simp [intOf]; omega
    · obtain rfl : k = s.length := by omega
      have hf := HF.out
      rw [List.take_length] at hf
      have HG := Lib.hid hf
      clear hf HF
      by_cases h1 : 1 ≤ (s.length : Int)
      · go_wp2
        go_ret
        exact ⟨ret_bool (by rw [isNm, HG.out, Bool.true_and, decide_eq_decide]; omega), rfl⟩
      · go_wp2
        go_ret
        exact ⟨ret_bool (by rw [isNm, HG.out, Bool.true_and, eq_comm, decide_eq_false_iff_not]; omega), rfl⟩
theorem l1In_any (x a b : Int) (w : World) : Calls Try.prog 26 #[.int .i64 x, .int .i64 a, .int .i64 b] w fun e w' => e = .returned (.bool (decide (a ≤ x ∧ x ≤ b))) ∧ w = w' := by
  by_cases h : a ≤ x
  · go_enter Try.func26, Try.ntmps26
    go_wp2
    go_ret
    exact ⟨ret_bool (by simp [h]), rfl⟩
  · go_enter Try.func26, Try.ntmps26
    go_wp2
    go_ret
    exact ⟨ret_bool (by simp; omega), rfl⟩
set_option maxHeartbeats 1000000 in
theorem specIsName_any (s : Str) (w : World) (hs : s.length ≤ maxLen) :
    Calls Try.prog 27 #[sv s] w fun e w' => e = .returned (.bool (isNm s)) ∧ w = w' := by
  unfold maxLen at hs
  go_enter Try.func27, Try.ntmps27
  go_wp2
  go_loop [3] (fun i => ∃ (k : Nat), k ≤ s.length ∧ i = .int .i64 k ∧ (s.take k).all okB = true) (fun i => s.length - (intOf i).toNat)
  case atStart => exact ⟨0, by omega, rfl, by simp⟩
  case round =>
    obtain ⟨k, hk, rfl, hf⟩ := hrel
    have HF := Lib.hid hf
    clear hf
    by_cases hlt : k < s.length
    · have hx := List.getElem?_eq_getElem hlt
      have HX := Lib.hid hx
      clear hx
      have hcase : (s[k].toNat : Int) < 33 ∨ (33 ≤ (s[k].toNat : Int) ∧ 126 < (s[k].toNat : Int)) ∨ (33 ≤ (s[k].toNat : Int) ∧ (s[k].toNat : Int) ≤ 126 ∧ (s[k].toNat : Int) = 96) ∨ (33 ≤ (s[k].toNat : Int) ∧ (s[k].toNat : Int) ≤ 126 ∧ ¬ (s[k].toNat : Int) = 96) := by omega
      have hbad : okB s[k] = false → isNm s = false := fun h => by rw [isNm, all_bad HX.out h]; rfl
      have HB := Lib.hid hbad
      clear hbad
      rcases hcase with h1 | ⟨h1, h2⟩ | ⟨h1, h2, h3⟩ | ⟨h1, h2, h3⟩
      · go_wp2
        go_ret
        exact ⟨ret_bool (HB.out (by simp [okB]; omega)).symm, rfl⟩
      · go_wp2
        go_ret
        exact ⟨ret_bool (HB.out (by simp [okB]; omega)).symm, rfl⟩
      · have h3' : ((s[k].toNat : Int) == 96) = true := by simpa using h3
        have H3 := Lib.hid h3
        clear h3
        go_wp2
        go_ret
        have h4 := H3.out
        exact ⟨ret_bool (HB.out (by simp [okB]; omega)).symm, rfl⟩
      · have h3' : ((s[k].toNat : Int) == 96) = false := by simpa using h3
        go_wp2
        go_round
        case rel => exact ⟨k + 1, by omega, by go_num, all_snoc HX.out HF.out (by simp [okB]; omega)⟩
        case measure => simp [intOf]; omega
    · obtain rfl : k = s.length := by omega
      have hf := HF.out
      rw [List.take_length] at hf
      have HG := Lib.hid hf
      clear hf HF
      go_wp2_with (go_at_call 26; refine (l1In_any _ _ _ _).mono ?_; rintro e w1 ⟨rfl, rfl⟩)
      go_ret
      exact ⟨ret_bool (by rw [isNm, HG.out, Bool.true_and, ← Bool.decide_and, decide_eq_decide]; omega), rfl⟩

/-- The place of a text in a list, counted from i; -1 where it is not there. -/
def ix : List Str → Str → Nat → Int
  | [], _, _ => -1
  | e :: t, key, i => if e = key then i else ix t key (i + 1)
theorem ix_drop (l : List Str) (k : Nat) (e key : Str) (h : l[k]? = some e) : ix (l.drop k) key k = if e = key then (k : Int) else ix (l.drop (k + 1)) key (k + 1) := by
  obtain ⟨hk, he⟩ := List.getElem?_eq_some_iff.1 h
  rw [List.drop_eq_getElem_cons hk, he, ix]
theorem ix_mem (l : List Str) (key : Str) (i : Nat) : decide (0 ≤ ix l key i) = l.contains key := by
  induction l generalizing i with
  | nil => simp [ix]
  | cons a t ih =>
    rw [ix, List.contains_cons]
    by_cases h : a = key
    · simp [h]
    · rw [if_neg h, ih]
      have : (key == a) = false := by simp; exact fun h' => h h'.symm
      rw [this]; rfl
theorem ix_ge (l : List Str) (key : Str) (i : Nat) : -1 ≤ ix l key i ∧ ix l key i < i + l.length := by
  induction l generalizing i with
  | nil => simp [ix]; omega
  | cons a t ih => rw [ix]; have := ih (i + 1); split <;> simp <;> omega
set_option maxHeartbeats 1000000 in
theorem textIndex_any (A : Option Addr) (len cap : Nat) (l : List Str) (key : Str) (w : World) (hr : Reads encS 1 w w.heap.size A len l) (hlen : len ≤ maxLen) :
    Calls Try.prog 84 #[.slice A len cap, sv key] w fun e w' => e = .returned (.int .i64 (ix l key 0)) ∧ w = w' := by
  unfold maxLen at hlen
  go_enter Try.func84, Try.ntmps84
  go_wp2
  go_loop [9] (fun i => ∃ (k : Nat), k ≤ len ∧ i = .int .i64 k ∧ ix l key 0 = ix (l.drop k) key k) (fun i => len - (intOf i).toNat)
  case atStart => exact ⟨0, by omega, rfl, rfl⟩
  case round =>
    obtain ⟨k, hk, rfl, hf⟩ := hrel
    have HF := Lib.hid hf
    clear hf
    by_cases hlt : k < len
    · obtain ⟨b, off, x, rfl, hbl, hx, hc0⟩ := hr.atS hlt
      have HD := Lib.hid (ix_drop l k _ key hx)
      clear hx
      go_wp2
      · go_ret
        have hq : x = key := of_beq (by assumption)
        exact ⟨ret_int (by rw [HF.out, HD.out, if_pos hq]), rfl⟩
      · have hq : ¬ x = key := of_nbeq (by assumption)
        go_round
        case rel => exact ⟨k + 1, by omega, by go_num, by rw [HF.out, HD.out, if_neg hq]⟩
        case measure => simp [intOf]; omega
    · obtain rfl : len = k := by omega
      go_wp2
      go_ret
      exact ⟨ret_int (by rw [HF.out, List.drop_of_length_le (by rw [hr.len]; omega)]; rfl), rfl⟩
set_option maxHeartbeats 1000000 in
theorem l1Find_any (A : Option Addr) (len cap : Nat) (l : List Str) (key : Str) (w : World) (hr : Reads encS 1 w w.heap.size A len l) (hlen : len ≤ maxLen) :
    Calls Try.prog 38 #[.slice A len cap, sv key] w fun e w' => e = .returned (.int .i64 (ix l key 0)) ∧ w = w' := by
  unfold maxLen at hlen
  go_enter Try.func38, Try.ntmps38
  go_wp2
  go_loop [5] (fun i => ∃ (k : Nat), k ≤ len ∧ i = .int .i64 k ∧ ix l key 0 = ix (l.drop k) key k) (fun i => len - (intOf i).toNat)
  case atStart => exact ⟨0, by omega, rfl, rfl⟩
  case round =>
    obtain ⟨k, hk, rfl, hf⟩ := hrel
    have HF := Lib.hid hf
    clear hf
    by_cases hlt : k < len
    · obtain ⟨b, off, x, rfl, hbl, hx, hc0⟩ := hr.atS hlt
      have HD := Lib.hid (ix_drop l k _ key hx)
      clear hx
      go_wp2
      · go_ret
        have hq : x = key := of_beq (by assumption)
        exact ⟨ret_int (by rw [HF.out, HD.out, if_pos hq]), rfl⟩
      · have hq : ¬ x = key := of_nbeq (by assumption)
        go_round
        case rel => exact ⟨k + 1, by omega, by go_num, by rw [HF.out, HD.out, if_neg hq]⟩
        case measure => simp [intOf]; omega
    · obtain rfl : len = k := by omega
      go_wp2
      go_ret
      exact ⟨ret_int (by rw [HF.out, List.drop_of_length_le (by rw [hr.len]; omega)]; rfl), rfl⟩
theorem hasText_any (A : Option Addr) (len cap : Nat) (l : List Str) (key : Str) (w : World) (hr : Reads encS 1 w w.heap.size A len l) (hlen : len ≤ maxLen) :
    Calls Try.prog 47 #[.slice A len cap, sv key] w fun e w' => e = .returned (.bool (l.contains key)) ∧ w = w' := by
  go_enter Try.func47, Try.ntmps47
  go_wp2_with fail
  refine (textIndex_any A len cap l key _ hr hlen).mono ?_
  rintro e w1 ⟨rfl, rfl⟩
  go_wp2_with fail
  go_ret
  exact ⟨ret_bool (ix_mem l key 0), rfl⟩
theorem l1Has_any (A : Option Addr) (len cap : Nat) (l : List Str) (key : Str) (w : World) (hr : Reads encS 1 w w.heap.size A len l) (hlen : len ≤ maxLen) :
    Calls Try.prog 121 #[.slice A len cap, sv key] w fun e w' => e = .returned (.bool (l.contains key)) ∧ w = w' := by
  go_enter Try.func121, Try.ntmps121
  go_wp2_with fail
  refine (l1Find_any A len cap l key _ hr hlen).mono ?_
  rintro e w1 ⟨rfl, rfl⟩
  go_wp2_with fail
  go_ret
  exact ⟨ret_bool (ix_mem l key 0), rfl⟩
end Go.Proofs.Ytekcpadlmfaihaa
