/- Letters, digits, reserved words, syntactic names: what the functions of the program and of the reference return. -/
import Derived.Test.YtecebamhenlnoaaRa
namespace Go.Proofs.Ytecebamhenlnoaa
open Go.RowKit
def isL (c : UInt8) : Bool := decide (97 ≤ c.toNat ∧ c.toNat ≤ 122 ∨ 65 ≤ c.toNat ∧ c.toNat ≤ 90)
def isD (c : UInt8) : Bool := decide (48 ≤ c.toNat ∧ c.toNat ≤ 57)
theorem isLetter_any (c : UInt8) (w : World) : Calls Try.prog 99 #[.int .u8 (c.toNat : Int)] w fun e w' => e = .returned (.bool (isL c)) ∧ w = w' := by
  have hc := c.toNat_lt
  have hcase : (97 ≤ (c.toNat : Int) ∧ (c.toNat : Int) ≤ 122) ∨ (97 ≤ (c.toNat : Int) ∧ ¬ (c.toNat : Int) ≤ 122) ∨ (¬ 97 ≤ (c.toNat : Int) ∧ 65 ≤ (c.toNat : Int)) ∨ (¬ 97 ≤ (c.toNat : Int) ∧ ¬ 65 ≤ (c.toNat : Int)) := by omega
  rcases hcase with ⟨h1, h2⟩ | ⟨h1, h2⟩ | ⟨h1, h2⟩ | ⟨h1, h2⟩
  all_goals
    go_enter Try.func99, Try.ntmps99
    go_wp2
    go_ret
    refine ⟨ret_bool ?_, rfl⟩
    rw [Bool.eq_iff_iff]
    simp [isL] <;> omega
theorem l1Letter_any (c : UInt8) (w : World) : Calls Try.prog 94 #[.int .u8 (c.toNat : Int)] w fun e w' => e = .returned (.bool (isL c)) ∧ w = w' := by
  have hc := c.toNat_lt
  have hcase : (97 ≤ (c.toNat : Int) ∧ (c.toNat : Int) ≤ 122) ∨ (97 ≤ (c.toNat : Int) ∧ ¬ (c.toNat : Int) ≤ 122) ∨ (¬ 97 ≤ (c.toNat : Int) ∧ 65 ≤ (c.toNat : Int)) ∨ (¬ 97 ≤ (c.toNat : Int) ∧ ¬ 65 ≤ (c.toNat : Int)) := by omega
  rcases hcase with ⟨h1, h2⟩ | ⟨h1, h2⟩ | ⟨h1, h2⟩ | ⟨h1, h2⟩
  all_goals
    go_enter Try.func94, Try.ntmps94
    go_wp2
    go_ret
    refine ⟨ret_bool ?_, rfl⟩
    rw [Bool.eq_iff_iff]
    simp [isL] <;> omega
theorem isDigit_any (c : UInt8) (w : World) : Calls Try.prog 100 #[.int .u8 (c.toNat : Int)] w fun e w' => e = .returned (.bool (isD c)) ∧ w = w' := by
  have hc := c.toNat_lt
  have hcase : (48 ≤ (c.toNat : Int)) ∨ (¬ 48 ≤ (c.toNat : Int)) := by omega
  rcases hcase with h1 | h1
  all_goals
    go_enter Try.func100, Try.ntmps100
    go_wp2
    go_ret
    refine ⟨ret_bool ?_, rfl⟩
    rw [Bool.eq_iff_iff]
    simp [isD] <;> omega
theorem l1Digit_any (c : UInt8) (w : World) : Calls Try.prog 95 #[.int .u8 (c.toNat : Int)] w fun e w' => e = .returned (.bool (isD c)) ∧ w = w' := by
  have hc := c.toNat_lt
  have hcase : (48 ≤ (c.toNat : Int)) ∨ (¬ 48 ≤ (c.toNat : Int)) := by omega
  rcases hcase with h1 | h1
  all_goals
    go_enter Try.func95, Try.ntmps95
    go_wp2
    go_ret
    refine ⟨ret_bool ?_, rfl⟩
    rw [Bool.eq_iff_iff]
    simp [isD] <;> omega
def resv : List Str := [[105, 102], [101, 108, 115, 101], [102, 111, 114], [105, 110], [119, 104, 105, 108, 101], [98, 114, 101, 97, 107], [110, 101, 120, 116], [102, 117, 110, 99, 116, 105, 111, 110], [114, 101, 116, 117, 114, 110], [84, 82, 85, 69], [70, 65, 76, 83, 69], [78, 85, 76, 76], [78, 65], [78, 65, 95, 110, 117, 109, 98, 101, 114, 95], [78, 65, 95, 99, 104, 97, 114, 97, 99, 116, 101, 114, 95], [116, 114, 121, 67, 97, 116, 99, 104], [119, 105, 116, 104, 67, 97, 108, 108, 105, 110, 103, 72, 97, 110, 100, 108, 101, 114, 115], [119, 105, 116, 104, 82, 101, 115, 116, 97, 114, 116], [105, 110, 118, 111, 107, 101, 82, 101, 115, 116, 97, 114, 116], [109, 105, 115, 115, 105, 110, 103], [111, 110, 46, 101, 120, 105, 116], [85, 115, 101, 77, 101, 116, 104, 111, 100], [78, 101, 120, 116, 77, 101, 116, 104, 111, 100]]
def isRes (s : Str) : Bool := resv.contains s
set_option maxHeartbeats 2000000 in
theorem isReserved_any (s : Str) (w : World) : Calls Try.prog 98 #[sv s] w fun e w' => e = .returned (.bool (isRes s)) ∧ w = w' := by
  by_cases hm : s ∈ resv
  · have hres : isRes s = true := by unfold isRes; simpa using hm
    rw [hres]
    clear hres
    simp only [resv, List.mem_cons, List.not_mem_nil, or_false] at hm
    rcases hm with rfl | rfl | rfl | rfl | rfl | rfl | rfl | rfl | rfl | rfl | rfl | rfl | rfl | rfl | rfl | rfl | rfl | rfl | rfl | rfl | rfl | rfl | rfl
    all_goals
      go_enter Try.func98, Try.ntmps98
      go_wp2
      go_ret
      exact ⟨rfl, rfl⟩
  · have hres : isRes s = false := by unfold isRes; simpa using hm
    rw [hres]
    clear hres
    simp only [resv, List.mem_cons, List.not_mem_nil, or_false, not_or] at hm
    obtain ⟨n0, n1, n2, n3, n4, n5, n6, n7, n8, n9, n10, n11, n12, n13, n14, n15, n16, n17, n18, n19, n20, n21, n22⟩ := hm

    replace n0 : (s == [105, 102]) = false := by simpa using n0
    replace n1 : (s == [101, 108, 115, 101]) = false := by simpa using n1
    replace n2 : (s == [102, 111, 114]) = false := by simpa using n2
    replace n3 : (s == [105, 110]) = false := by simpa using n3
    replace n4 : (s == [119, 104, 105, 108, 101]) = false := by simpa using n4
    replace n5 : (s == [98, 114, 101, 97, 107]) = false := by simpa using n5
    replace n6 : (s == [110, 101, 120, 116]) = false := by simpa using n6
    replace n7 : (s == [102, 117, 110, 99, 116, 105, 111, 110]) = false := by simpa using n7
    replace n8 : (s == [114, 101, 116, 117, 114, 110]) = false := by simpa using n8
    replace n9 : (s == [84, 82, 85, 69]) = false := by simpa using n9
    replace n10 : (s == [70, 65, 76, 83, 69]) = false := by simpa using n10
    replace n11 : (s == [78, 85, 76, 76]) = false := by simpa using n11
    replace n12 : (s == [78, 65]) = false := by simpa using n12
    replace n13 : (s == [78, 65, 95, 110, 117, 109, 98, 101, 114, 95]) = false := by simpa using n13
    replace n14 : (s == [78, 65, 95, 99, 104, 97, 114, 97, 99, 116, 101, 114, 95]) = false := by simpa using n14
    replace n15 : (s == [116, 114, 121, 67, 97, 116, 99, 104]) = false := by simpa using n15
    replace n16 : (s == [119, 105, 116, 104, 67, 97, 108, 108, 105, 110, 103, 72, 97, 110, 100, 108, 101, 114, 115]) = false := by simpa using n16
    replace n17 : (s == [119, 105, 116, 104, 82, 101, 115, 116, 97, 114, 116]) = false := by simpa using n17
    replace n18 : (s == [105, 110, 118, 111, 107, 101, 82, 101, 115, 116, 97, 114, 116]) = false := by simpa using n18
    replace n19 : (s == [109, 105, 115, 115, 105, 110, 103]) = false := by simpa using n19
    replace n20 : (s == [111, 110, 46, 101, 120, 105, 116]) = false := by simpa using n20
    replace n21 : (s == [85, 115, 101, 77, 101, 116, 104, 111, 100]) = false := by simpa using n21
    replace n22 : (s == [78, 101, 120, 116, 77, 101, 116, 104, 111, 100]) = false := by simpa using n22
    go_enter Try.func98, Try.ntmps98
    go_wp2
    go_ret
    exact ⟨rfl, rfl⟩
set_option maxHeartbeats 1000000 in
theorem l1Reserved_any (s : Str) (w : World) : Calls Try.prog 96 #[sv s] w fun e w' => e = .returned (.bool (isRes s)) ∧ Below w.heap.size w w' := by
  go_enter Try.func96, Try.ntmps96
  go_wp2_with fail
  refine (l1Has_any _ 23 23 resv s _ ?_ (by unfold maxLen; omega)).mono ?_
  · have hbl := Blk.new_ w 9 (resv.flatMap encS).toArray
    exact Blk.reads (l := resv) encS_len hbl hbl.lt
  rintro e w1 ⟨rfl, rfl⟩
  go_wp2_with fail
  go_ret
  exact ⟨ret_bool (by simp [isRes]), (Below.refl _ _).alloc (Nat.le_refl _) _⟩
def synB (c : UInt8) : Bool := isL c || isD c || c.toNat == 46 || c.toNat == 95
def hdOK : Str → Bool
  | [] => false
  | c :: t => (isL c || c.toNat == 46) && !(c.toNat == 46 && (match t with | d :: _ => isD d | [] => false))
def isSyn (s : Str) : Bool := isNm s && !isRes s && s.all synB && hdOK s
theorem isNm_len {s : Str} (h : isNm s = true) : 1 ≤ s.length ∧ s.length ≤ 20 := by
  rw [isNm, Bool.and_eq_true] at h; simpa using h.2
theorem isSyn_no {s : Str} (h : isNm s = false ∨ isRes s = true ∨ s.all synB = false ∨ hdOK s = false) : isSyn s = false := by
  unfold isSyn
  rcases h with h | h | h | h <;> simp [h]
end Go.Proofs.Ytecebamhenlnoaa
