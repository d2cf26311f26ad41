/- Numbers: what gcd, IsNumber and their kin return. -/
import Derived.Test.YtekcpadlmfaihaaVec
namespace Go.Proofs.Ytekcpadlmfaihaa
open Go.RowKit
abbrev itv (x : Item) : Value := .agg #[.int .i64 x.num, .int .i64 x.den, sv x.text]
theorem gcd_step (x y : Nat) : Nat.gcd y (x % y) = Nat.gcd x y := by rw [Nat.gcd_comm y (x % y), ← Nat.gcd_rec, Nat.gcd_comm]
set_option maxHeartbeats 1000000 in
theorem gcd_any (a b : Int) (w : World) (ha : -9223372036854775807 ≤ a) (ha' : a ≤ 9223372036854775807) (hb : -9223372036854775807 ≤ b) (hb' : b ≤ 9223372036854775807) :
    Calls Try.prog 136 #[.int .i64 a, .int .i64 b] w fun e w' => e = .returned (.int .i64 (Nat.gcd a.natAbs b.natAbs : Nat)) ∧ Below w.heap.size w w' := by
  go_enter Try.func136, Try.ntmps136
  go_wp2_with fail
  all_goals
    go_loopw [0, 1] (fun u v wr => ∃ x y : Nat, u = .int .i64 x ∧ v = .int .i64 y ∧ (x : Int) ≤ 9223372036854775807 ∧ (y : Int) ≤ 9223372036854775807 ∧ Nat.gcd x y = Nat.gcd a.natAbs b.natAbs ∧ Below w.heap.size w wr) (fun _ v _ => (intOf v).toNat)
    case atStart => exact ⟨a.natAbs, b.natAbs, by congr 1; omega, by congr 1; omega, by omega, by omega, rfl, Below.refl _ _⟩
    case round =>
      obtain ⟨x, y, rfl, rfl, hx, hy, hg, hbl⟩ := hrel
      have HG := Lib.hid hg
      clear hg
      rcases Nat.eq_zero_or_pos y with h0 | h0
      · subst h0
        go_wp2_with fail
        go_ret
        exact ⟨ret_int (by rw [← HG.out, Nat.gcd_zero_right]), hbl⟩
      · have hne : ((y : Int) != 0) = true := by simp; omega
        have hm : (x : Int).tmod (y : Int) = ((x % y : Nat) : Int) := by rw [Int.tmod_eq_emod_of_nonneg (by omega)]; rfl
        have hlt : x % y < y := Nat.mod_lt _ h0
        go_wp2_with fail
        go_region
        all_goals
          go_wp2_with fail
          go_roundw
          case rel => exact ⟨y, x % y, by go_num, by go_num, by omega, by omega, by rw [gcd_step]; exact HG.out, hbl.drew⟩
          case measure => simp [intOf]; omega
theorem l2Abs_any (a : Int) (w : World) (ha : -9223372036854775807 ≤ a) (ha' : a ≤ 9223372036854775807) :
    Calls Try.prog 135 #[.int .i64 a] w fun e w' => e = .returned (.int .i64 (a.natAbs : Nat)) ∧ w = w' := by
  go_enter Try.func135, Try.ntmps135
  go_wp2_with fail
  all_goals (go_ret; exact ⟨ret_int (by omega), rfl⟩)
set_option maxHeartbeats 1000000 in
theorem l2Gcd_any (a b : Int) (w : World) (ha : -9223372036854775807 ≤ a) (ha' : a ≤ 9223372036854775807) (hb : -9223372036854775807 ≤ b) (hb' : b ≤ 9223372036854775807) :
    Calls Try.prog 130 #[.int .i64 a, .int .i64 b] w fun e w' => e = .returned (.int .i64 (Nat.gcd a.natAbs b.natAbs : Nat)) ∧ Below w.heap.size w w' := by
  go_enter Try.func130, Try.ntmps130
  go_wp2_with fail
  refine (l2Abs_any a _ ha ha').mono ?_
  rintro e w1 ⟨rfl, rfl⟩
  go_wp2_with fail
  refine (l2Abs_any b _ hb hb').mono ?_
  rintro e w1 ⟨rfl, rfl⟩
  go_wp2_with fail
  go_loopw [5, 6] (fun u v wr => ∃ x y : Nat, u = .int .i64 x ∧ v = .int .i64 y ∧ (x : Int) ≤ 9223372036854775807 ∧ (y : Int) ≤ 9223372036854775807 ∧ Nat.gcd x y = Nat.gcd a.natAbs b.natAbs ∧ Below w.heap.size w wr) (fun _ v _ => (intOf v).toNat)
  case atStart => exact ⟨a.natAbs, b.natAbs, rfl, rfl, by omega, by omega, rfl, Below.refl _ _⟩
  case round =>
    obtain ⟨x, y, rfl, rfl, hx, hy, hg, hbl⟩ := hrel
    have HG := Lib.hid hg
    clear hg
    rcases Nat.eq_zero_or_pos y with h0 | h0
    · subst h0
      go_wp2_with fail
      go_ret
      exact ⟨ret_int (by rw [← HG.out, Nat.gcd_zero_right]), hbl⟩
    · have hne : ((y : Int) != 0) = true := by simp; omega
      have hlt : x % y < y := Nat.mod_lt _ h0
      go_wp2_with fail
      go_roundw
      case rel => exact ⟨y, x % y, by go_num, by go_num, by omega, by omega, by rw [gcd_step]; exact HG.out, hbl⟩
      case measure => simp [intOf]; omega
def bigN : Int := 999999999
def isNum (x : Item) : Bool := x.text.isEmpty && decide (1 ≤ x.den ∧ x.den ≤ 999999999) && decide (-999999999 ≤ x.num ∧ x.num ≤ 999999999) && (Nat.gcd x.num.natAbs x.den.natAbs == 1)
set_option maxHeartbeats 1000000 in
theorem implIsNumber_any (x : Item) (w : World) : Calls Try.prog 131 #[itv x] w fun e w' => e = .returned (.bool (isNum x)) ∧ Below w.heap.size w w' := by
  go_enter Try.func131, Try.ntmps131
  go_wp2_with (go_at_call 136; ((with_reducible refine (gcd_any _ _ _ (by omega) (by omega) (by omega) (by omega)).mono ?_); rintro e w1 ⟨rfl, hb1⟩))
  all_goals (go_ret; refine ⟨ret_bool ?_, by first | exact (Below.refl _ _).alloc (Nat.le_refl _) _ | exact bth ((Below.refl _ _).alloc (Nat.le_refl _) _) hb1⟩)
  all_goals (rw [isNum, eq_comm, Bool.eq_iff_iff]; simp [*] <;> omega)
set_option maxHeartbeats 1000000 in
theorem specIsNumber_any (x : Item) (w : World) : Calls Try.prog 116 #[itv x] w fun e w' => e = .returned (.bool (isNum x)) ∧ Below w.heap.size w w' := by
  go_enter Try.func116, Try.ntmps116
  go_wp2_with (first | (go_at_call 26; ((with_reducible refine (l1In_any _ _ _ _).mono ?_); rintro e w1 ⟨rfl, rfl⟩)) | (go_at_call 130; ((with_reducible refine (l2Gcd_any _ _ _ (by omega) (by omega) (by omega) (by omega)).mono ?_); rintro e w1 ⟨rfl, hb1⟩)))
  all_goals (go_ret; refine ⟨ret_bool ?_, by first | exact (Below.refl _ _).alloc (Nat.le_refl _) _ | exact bth ((Below.refl _ _).alloc (Nat.le_refl _) _) hb1⟩)
  all_goals (rw [isNum, eq_comm, Bool.eq_iff_iff]; simp [*] <;> omega)
def isMiss (x : Item) : Bool := x == ⟨0, 0, []⟩
theorem isMissing_any (x : Item) (w : World) : Calls Try.prog 120 #[itv x] w fun e w' => e = .returned (.bool (isMiss x)) ∧ Below w.heap.size w w' := by
  go_enter Try.func120, Try.ntmps120
  go_wp2_with fail
  all_goals (go_ret; refine ⟨ret_bool ?_, (Below.refl _ _).alloc (Nat.le_refl _) _⟩; cases x; simp [isMiss]; simp_all)
end Go.Proofs.Ytekcpadlmfaihaa
