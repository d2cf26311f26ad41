/- Bit counts and the order of terms: what the functions of the program and of the reference return. -/
import Derived.Test.YtecebamhenlnoaaFd
import Derived.Test.YtecebamhenlnoaaFc
import Derived.Laws.BitsAllLaws
import Derived.Laws.BitsLemmas
namespace Go.Proofs.Ytecebamhenlnoaa
open Go.RowKit
theorem ofInt_i64 (a : Nat) (ha : a < 9223372036854775808) : (BitVec.ofInt 64 (a : Int)).toNat = a := by
  rw [BitVec.ofInt_natCast, BitVec.toNat_ofNat]; exact Nat.mod_eq_of_lt (by omega)
theorem i64_and_nat (a b : Nat) (ha : a < 9223372036854775808) (hb : b < 9223372036854775808) : bits .and .i64 (a : Int) (b : Int) = ((a &&& b : Nat) : Int) := by
  have hx : a &&& b < 2 ^ 63 := Nat.and_lt_two_pow _ (by omega)
  show IntKind.i64.wrap ((BitVec.ofInt 64 (a : Int) &&& BitVec.ofInt 64 (b : Int)).toNat : Int) = _
  rw [BitVec.toNat_and, ofInt_i64 a ha, ofInt_i64 b hb, IntKind.wrap_i64]
  omega
theorem i64_or_nat (a b : Nat) (ha : a < 9223372036854775808) (hb : b < 9223372036854775808) : bits .or .i64 (a : Int) (b : Int) = ((a ||| b : Nat) : Int) := by
  have hx : a ||| b < 2 ^ 63 := Nat.or_lt_two_pow (by omega) (by omega)
  show IntKind.i64.wrap ((BitVec.ofInt 64 (a : Int) ||| BitVec.ofInt 64 (b : Int)).toNat : Int) = _
  rw [BitVec.toNat_or, ofInt_i64 a ha, ofInt_i64 b hb, IntKind.wrap_i64]
  omega
/-- The number of bits that are set, with fuel. -/
def pcF : Nat → Nat → Nat
  | 0, _ => 0
  | f + 1, n => if n = 0 then 0 else n % 2 + pcF f (n / 2)
def pc (n : Nat) : Nat := pcF n n
theorem pcF_more (f g n : Nat) (h : n ≤ f) (h' : n ≤ g) : pcF f n = pcF g n := by
  induction f generalizing g n with
  | zero =>
    have : n = 0 := by omega
    subst this
    cases g <;> simp [pcF]
  | succ f ih =>
    cases g with
    | zero =>
      have : n = 0 := by omega
      subst this; simp [pcF]
    | succ g =>
      rw [pcF, pcF]
      split
      · rfl
      · rw [ih g (n / 2) (by omega) (by omega)]
theorem pc_step (n : Nat) (h : 0 < n) : pc n = n % 2 + pc (n / 2) := by
  obtain ⟨f, rfl⟩ : ∃ f, n = f + 1 := ⟨n - 1, by omega⟩
  show pcF (f + 1) (f + 1) = _
  rw [pcF, if_neg (by omega), pc, pcF_more f ((f + 1) / 2) _ (by omega) (by omega)]
theorem pc_le (n : Nat) : pc n ≤ n := by
  have : ∀ f n, pcF f n ≤ f := by
    intro f
    induction f with
    | zero => intro n; simp [pcF]
    | succ f ih => intro n; rw [pcF]; have := ih (n / 2); split <;> omega
  exact this n n
set_option maxHeartbeats 1000000 in
theorem bitCount_any (n : Nat) (w : World) (hn : (n : Int) ≤ 1000000) :
    Calls Try.prog 108 #[.int .i64 n] w fun e w' => e = .returned (.int .i64 (pc n)) ∧ w = w' := by
  go_enter Try.func108, Try.ntmps108
  go_wp2
  go_loop [0, 3] (fun i v => ∃ (k m : Nat), i = .int .i64 k ∧ v = .int .i64 m ∧ m + k ≤ n ∧ pc n = m + pc k) (fun i _ => (intOf i).toNat)
  case atStart => exact ⟨n, 0, rfl, rfl, by omega, by omega⟩
  case round =>
    obtain ⟨k, m, rfl, rfl, hmk, hpc⟩ := hrel
    have HP := Lib.hid hpc
    clear hpc
    by_cases hk : 0 < k
    · have HS := Lib.hid (pc_step k hk)
      go_wp2
      go_round
      case rel => exact ⟨k / 2, m + k % 2, by go_num, by go_num, by omega, by rw [HP.out, HS.out]; omega⟩
      case measure => simp [intOf]; omega
    · obtain rfl : k = 0 := by omega
      go_wp2
      go_ret
      exact ⟨ret_int (by rw [HP.out]; rfl), rfl⟩
set_option maxHeartbeats 1000000 in
theorem l21Size_any (n : Nat) (w : World) (hn : (n : Int) ≤ 1000000) :
    Calls Try.prog 110 #[.int .i64 n] w fun e w' => e = .returned (.int .i64 (pc n)) ∧ w = w' := by
  go_enter Try.func110, Try.ntmps110
  go_wp2
  go_loop [3, 4] (fun v i => ∃ (k m : Nat), i = .int .i64 k ∧ v = .int .i64 m ∧ m + k ≤ n ∧ pc n = m + pc k) (fun _ i => (intOf i).toNat)
  case atStart => exact ⟨n, 0, rfl, rfl, by omega, by omega⟩
  case round =>
    obtain ⟨k, m, rfl, rfl, hmk, hpc⟩ := hrel
    have HP := Lib.hid hpc
    clear hpc
    by_cases hk : 0 < k
    · have HS := Lib.hid (pc_step k hk)
      have hand : bits .and .i64 (k : Int) 1 = ((k % 2 : Nat) : Int) := by
        have := i64_and_nat k 1 (by omega) (by omega)
        rw [Nat.and_one_is_mod] at this
        exact this
      go_wp2
      go_round
      case rel => exact ⟨k / 2, m + k % 2, by go_num, by go_num, by omega, by rw [HP.out, HS.out]; omega⟩
      case measure => simp [intOf]; omega
    · obtain rfl : k = 0 := by omega
      go_wp2
      go_ret
      exact ⟨ret_int (by rw [HP.out]; rfl), rfl⟩
def tless (a b : Nat) : Bool := decide (pc a < pc b ∨ pc a = pc b ∧ a < b)
set_option maxHeartbeats 1000000 in
theorem termLess_any (a b : Nat) (w : World) (ha : (a : Int) ≤ 1000000) (hb : (b : Int) ≤ 1000000) :
    Calls Try.prog 97 #[.int .i64 a, .int .i64 b] w fun e w' => e = .returned (.bool (tless a b)) ∧ w = w' := by
  go_enter Try.func97, Try.ntmps97
  go_wp2_with fail
  refine (bitCount_any a _ ha).mono ?_
  rintro e w1 ⟨rfl, rfl⟩
  go_wp2_with fail
  refine (bitCount_any b _ hb).mono ?_
  rintro e w1 ⟨rfl, rfl⟩
  by_cases he : pc a = pc b
  · have hq : ((pc a : Int) != (pc b : Int)) = false := by simp; omega
    have HE := Lib.hid he
    clear he
    go_wp2_with fail
    go_ret
    exact ⟨ret_bool (by rw [tless, decide_eq_decide]; have := HE.out; omega), rfl⟩
  · have hq : ((pc a : Int) != (pc b : Int)) = true := by simp; omega
    go_wp2_with fail
    refine (bitCount_any a _ ha).mono ?_
    rintro e w1 ⟨rfl, rfl⟩
    go_wp2_with fail
    refine (bitCount_any b _ hb).mono ?_
    rintro e w1 ⟨rfl, rfl⟩
    go_wp2_with fail
    go_ret
    exact ⟨ret_bool (by rw [tless, decide_eq_decide]; omega), rfl⟩
set_option maxHeartbeats 1000000 in
theorem l21Ahead_any (a b : Nat) (w : World) (ha : (a : Int) ≤ 1000000) (hb : (b : Int) ≤ 1000000) :
    Calls Try.prog 107 #[.int .i64 a, .int .i64 b] w fun e w' => e = .returned (.bool (tless a b)) ∧ w = w' := by
  go_enter Try.func107, Try.ntmps107
  go_wp2_with fail
  refine (l21Size_any a _ ha).mono ?_
  rintro e w1 ⟨rfl, rfl⟩
  go_wp2_with fail
  refine (l21Size_any b _ hb).mono ?_
  rintro e w1 ⟨rfl, rfl⟩
  by_cases hl : (pc a : Int) < (pc b : Int)
  · go_wp2_with fail
    go_ret
    exact ⟨ret_bool (by rw [tless, eq_comm, decide_eq_true_iff]; omega), rfl⟩
  · go_wp2_with fail
    refine (l21Size_any a _ ha).mono ?_
    rintro e w1 ⟨rfl, rfl⟩
    go_wp2_with fail
    refine (l21Size_any b _ hb).mono ?_
    rintro e w1 ⟨rfl, rfl⟩
    by_cases he : pc a = pc b
    · have hq : ((pc a : Int) == (pc b : Int)) = true := by simp; omega
      have HE := Lib.hid he
      clear he
      go_wp2_with fail
      go_ret
      exact ⟨ret_bool (by rw [tless, ← Bool.decide_or, decide_eq_decide]; have := HE.out; omega), rfl⟩
    · have hq : ((pc a : Int) == (pc b : Int)) = false := by simp; omega
      go_wp2_with fail
      go_ret
      exact ⟨ret_bool (by rw [tless, decide_eq_decide]; omega), rfl⟩
end Go.Proofs.Ytecebamhenlnoaa
