/- The law's own helpers for lists of texts: compare, mark, look for marks. -/
import Derived.Test.YtekcpadlmfaihaaRb
import Derived.Test.YtekcpadlmfaihaaMk
namespace Go.Proofs.Ytekcpadlmfaihaa
open Go.RowKit
/-- The marks that marking n texts from k on writes. -/
def mksS : Nat → Nat → List Str
  | 0, _ => []
  | n + 1, k => mk k :: mksS n (k + 1)
theorem mksS_len (n k : Nat) : (mksS n k).length = n := by
  induction n generalizing k with
  | zero => rfl
  | succ n ih => simp [mksS, ih]
theorem mksS_at (n k i : Nat) (h : i < n) : (mksS n k)[i]? = some (mk (k + i)) := by
  induction n generalizing k i with
  | zero => omega
  | succ n ih =>
    cases i with
    | zero => simp [mksS]
    | succ i =>
      have := ih (k + 1) i (by omega)
      rw [show k + 1 + i = k + (i + 1) from by omega] at this
      simpa [mksS] using this
set_option maxHeartbeats 1000000 in
theorem eqStringS_any (A A' : Option Addr) (len len' cap cap' : Nat) (l l' : List Str) (w : World) (hr : Reads encS 1 w w.heap.size A len l) (hr' : Reads encS 1 w w.heap.size A' len' l') (hlen : len ≤ maxLen) (hlen' : len' ≤ maxLen) :
    Calls Try.prog 51 #[.slice A len cap, .slice A' len' cap'] w fun e w' => e = .returned (.bool (l == l')) ∧ Below w.heap.size w w' := by
  unfold maxLen at hlen hlen'
  by_cases hn : len = len'
  · subst hn
    have hd : ((len : Int) != (len : Int)) = false := by simp
    go_enter Try.func51, Try.ntmps51
    go_wp2
    go_loopw [5] (fun i wr => ∃ (k : Nat), k ≤ len ∧ i = .int .i64 k ∧ l.take k = l'.take k ∧ Below w.heap.size w wr) (fun i _ => len - (intOf i).toNat)
    case atStart => exact ⟨0, by omega, rfl, by simp, Below.refl _ _⟩
    case round =>
      obtain ⟨k, hk, rfl, hf, hb⟩ := hrel
      have HF := Lib.hid hf
      clear hf
      by_cases hlt : k < len
      · obtain ⟨b, off, x, rfl, hbl, hx, hc0⟩ := (hr.below hb).atS hlt
        obtain ⟨b', off', x', rfl, hbl', hx', hc0'⟩ := (hr'.below hb).atS hlt
        have HX := Lib.hid hx
        have HX' := Lib.hid hx'
        clear hx hx'
        have i1 : (0 : Int) ≤ (k : Int) := by omega
        have i2 : (k : Int) < (len : Int) := by omega
        go_wp2
        go_quiet (fail)
        go_wp2
        · go_ret
          have hq := of_bne (a := x) (b := x') (by assumption)
          exact ⟨ret_bool (ne_at HX.out HX'.out hq).symm, below_drewN hb _⟩
        · have hq := of_nbne (a := x) (b := x') (by assumption)
          go_roundw
          case rel => exact ⟨k + 1, by omega, by go_num, by rw [take_snoc' HX.out, take_snoc' HX'.out, HF.out, hq], below_drewN hb _⟩
          case measure => simp [intOf]; omega
      · obtain rfl : len = k := by omega
        go_wp2
        go_ret
        exact ⟨ret_bool (eq_of_takes HF.out hr.len hr'.len).symm, hb⟩
  · have hd : ((len : Int) != (len' : Int)) = true := by simp; omega
    go_enter Try.func51, Try.ntmps51
    go_wp2
    go_ret
    exact ⟨ret_bool (ne_of_len (by rw [hr.len, hr'.len]; exact hn)).symm, Below.refl _ _⟩
set_option maxHeartbeats 1000000 in
theorem markStringS_any (A : Option Addr) (n c k : Nat) (l : List Str) (w : World) (base : Nat) (ho : OwnStr w base A n c l) (hn : n ≤ 1048576) (hk : k ≤ 4194304) :
    Calls Try.prog 63 #[.slice A n c, .int .i64 k] w fun e w' => e = .returned (.int .i64 ((k : Int) + (n : Int))) ∧ OwnStr w' base A n c (mksS n k) ∧ w.grownBy w' (Value.slice A n c).ownBlock := by
  rcases ho.cases with ⟨rfl, rfl, rfl, rfl⟩ | ⟨g, rfl⟩
  · go_enter Try.func63, Try.ntmps63
    go_wp2
    go_loop [1, 5] (fun m i => m = .int .i64 k ∧ i = .int .i64 0) (fun _ _ => 0)
    case atStart => exact ⟨rfl, rfl⟩
    case round =>
      obtain ⟨rfl, rfl⟩ := hrel
      go_wp2
      go_ret
      exact ⟨ret_int (by omega), Own.nil_, only_refl _ _⟩
  · obtain ⟨hfz, hm⟩ := ho.fil
    rw [Nat.mul_one] at hfz
    have hlt0 := ho.lt
    have hcap := ho.cap
    simp only at hlt0
    go_enter Try.func63, Try.ntmps63
    go_wp2
    go_loopw [1, 5] (fun m i wr => ∃ (j : Nat), j ≤ n ∧ i = .int .i64 j ∧ m = .int .i64 ((k : Int) + (j : Int)) ∧ Fil wr g 9 c j (((mksS n k).take j).flatMap encS) ∧ w.grownBy wr (some g)) (fun _ i _ => n - (intOf i).toNat)
    case atStart => exact ⟨0, by omega, rfl, by go_num, by simpa using hfz, only_refl _ _⟩
    case round =>
      obtain ⟨j, hj, rfl, rfl, hf, hg⟩ := hrel
      by_cases hlt : j < n
      · have HA := Lib.hid (mksS_at n k j hlt)
        go_wp2_with fail
        refine (markText_any _ _ (by omega) (by omega)).mono ?_
        rintro e w1 ⟨rfl, hb1⟩
        have e1 : ((k : Int) + (j : Int)).toNat = k + j := by omega
        rw [e1]
        clear e1
        have hf1 := hf.next hb1
        obtain ⟨u0, hu0⟩ := hf1.cell j (by omega)
        have hz0 := hf1.frozen j
        go_wp2_with fail
        have hf2 := hf1.put (by omega) (sv (mk (k + j)))
        have hg2 := only_setCell (p := ⟨g, j, none⟩) (only_below hg hb1) (.inl rfl) (sv (mk (k + j)))
        go_roundw
        case rel => exact ⟨j + 1, by omega, by go_num, by go_num, by rw [take_snoc' HA.out, List.flatMap_append]; simpa [encS] using hf2, hg2⟩
        case measure => simp [intOf]; omega
      · obtain rfl : n = j := by omega
        rw [List.take_of_length_le (by rw [mksS_len]; omega)] at hf
        have hf' : Fil wr g 9 (c * 1) (n * 1) ((mksS n k).flatMap encS) := by simpa using hf
        go_wp2
        go_ret
        exact ⟨rfl, hf'.own encS_len (mksS_len _ _) hcap hm hlt0.1, hg⟩
set_option maxHeartbeats 1000000 in
theorem heldStringS_any (A : Option Addr) (n c k : Nat) (w : World) (hr : Reads encS 1 w w.heap.size A n (mksS n k)) (hn : n ≤ 1048576) (hk : k ≤ 4194304) :
    Calls Try.prog 69 #[.slice A n c, .int .i64 k] w fun e w' => e = .returned (.int .i64 ((k : Int) + (n : Int))) ∧ Below w.heap.size w w' := by
  go_enter Try.func69, Try.ntmps69
  go_wp2
  go_loopw [1, 5] (fun m i wr => ∃ (j : Nat), j ≤ n ∧ i = .int .i64 j ∧ m = .int .i64 ((k : Int) + (j : Int)) ∧ Below w.heap.size w wr) (fun _ i _ => n - (intOf i).toNat)
  case atStart => exact ⟨0, by omega, rfl, by go_num, Below.refl _ _⟩
  case round =>
    obtain ⟨j, hj, rfl, rfl, hb⟩ := hrel
    by_cases hlt : j < n
    · obtain ⟨b, off, x, rfl, hbl, hx, hc0⟩ := (hr.below hb).atS hlt
      rw [mksS_at n k j hlt] at hx
      injection hx with hx
      subst hx
      have hbw : b < wr.heap.size := by have := hb.size; omega
      have i1 : (0 : Int) ≤ (j : Int) := by omega
      have i2 : (j : Int) < (n : Int) := by omega
      go_wp2
      go_region_held3 (fun w' => w'.cell? ⟨b, off + j, none⟩ = some (sv (mk (k + j)))) (first | exact hc0 | exact (hb1.cell hbw).trans hc0)
          (first | (go_at_call 92; refine (markText_any _ _ (by omega) (by omega)).mono ?_; rintro e w1 ⟨rfl, hb1⟩))
      have e1 : ((k : Int) + (j : Int)).toNat = k + j := by omega
      rw [e1]
      clear e1
      go_wp2
      · exact absurd rfl (of_bne (a := mk (k + j)) (b := mk (k + j)) (by assumption))
      go_roundw
      case rel => exact ⟨j + 1, by omega, by go_num, by go_num, bth hb.drew hb1⟩
      case measure => simp [intOf]; omega
    · obtain rfl : n = j := by omega
      go_wp2
      go_ret
      exact ⟨rfl, hb⟩
end Go.Proofs.Ytekcpadlmfaihaa
