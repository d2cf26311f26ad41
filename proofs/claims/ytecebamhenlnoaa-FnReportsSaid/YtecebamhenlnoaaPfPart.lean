/- What the law's own helpers for lists of Part do, for all arguments: size, copy, compare, mark, look for marks. -/
import Derived.Test.YtecebamhenlnoaaPd
namespace Go.Proofs.Ytecebamhenlnoaa
open Go.RowKit
set_option maxHeartbeats 400000 in
theorem szPart_any (k o : Str) (n : Int) (w : World) (hk : k.length ≤ maxLen) (ho : o.length ≤ maxLen) (h0 : 0 ≤ n) (h1 : n ≤ 1048576) :
    Calls Try.prog 59 #[.agg #[sv k, sv o], .int .i64 n] w fun e w' => e = .returned (.int .i64 (szP (k, o) n)) ∧ Below w.heap.size w w' := by
  unfold maxLen at hk ho
  go_enter Try.func59, Try.ntmps59
  go_wp2
  all_goals go_ret
  all_goals refine ⟨ret_int ?_, (Below.refl _ _).alloc (Nat.le_refl _) _⟩
  · simp only [szP]; rw [if_pos (by omega)]
  · simp only [szP]; rw [if_pos (by omega)]
  · simp only [szP]; rw [if_neg (by omega)]
set_option maxHeartbeats 400000 in
theorem szPartS_any (A : Option Addr) (len cap : Nat) (l : List Pair) (n : Int) (w : World) (hr : Reads enc2 2 w w.heap.size A len l) (hs : ∀ e ∈ l, e.1.length ≤ maxLen ∧ e.2.length ≤ maxLen) (hlen : len ≤ maxLen) (h0 : 0 ≤ n) (h1 : n ≤ 1048576) :
    Calls Try.prog 27 #[.slice A len cap, .int .i64 n] w fun e w' => e = .returned (.int .i64 (szS l n)) ∧ Below w.heap.size w w' := by
  unfold maxLen at hlen
  by_cases hn : n < len
  · go_enter Try.func27, Try.ntmps27
    go_wp2
    go_ret
    exact ⟨ret_int (by rw [szS, hr.len, if_pos hn]), Below.refl _ _⟩
  · have hd : decide (n - (len : Int) < 0) = false := by simp; omega
    go_enter Try.func27, Try.ntmps27
    go_wp2
    go_loopw [1, 5] (fun m i wr => ∃ (k : Nat) (r : Int), k ≤ len ∧ i = .int .i64 k ∧ m = .int .i64 r ∧ 0 ≤ r ∧ r ≤ 1048576 ∧ szS l n = szL (l.drop k) r ∧ Below w.heap.size w wr) (fun _ i _ => len - (intOf i).toNat)
    case atStart => exact ⟨0, n - len, by omega, rfl, rfl, by omega, by omega, by rw [szS, hr.len, if_neg (by omega)]; rfl, Below.refl _ _⟩
    case round =>
      obtain ⟨k, r, hk, rfl, rfl, hr0, hr1, hsz, hb⟩ := hrel
      have HS := Lib.hid hsz
      clear hsz
      by_cases hlt : k < len
      · obtain ⟨b, off, x, y, rfl, hbl, hx, hc0, hc1⟩ := (hr.below hb).at2 hlt
        have hm := hs _ (List.mem_of_getElem? hx)
        have hp := szP_le (x, y) r
        have HD := Lib.hid (szL_drop l k _ r hx)
        clear hx
        go_wp2_with (go_at_call 59; refine (szPart_any _ _ _ _ hm.1 hm.2 hr0 hr1).mono ?_; rintro e w1 ⟨rfl, hb1⟩)
        · go_ret
          have hq : szP (x, y) r < 0 := by assumption
          exact ⟨ret_int (by rw [HS.out, HD.out, if_pos hq]), bth hb hb1⟩
        · have hq : 0 ≤ szP (x, y) r := by assumption
          go_roundw
          case rel => exact ⟨k + 1, _, by omega, by go_num, rfl, hq, by omega, by rw [HS.out, HD.out, if_neg (by omega)], bth hb hb1⟩
          case measure => simp [intOf]; omega
      · obtain rfl : len = k := by omega
        go_wp2
        go_ret
        exact ⟨ret_int (by rw [HS.out, List.drop_of_length_le (by rw [hr.len]; omega)]; rfl), hb⟩

set_option maxHeartbeats 400000 in
theorem toPart_any (k o : Str) (w : World) :
    Calls Try.prog 63 #[.agg #[sv k, sv o]] w fun e w' => e = .returned (.agg #[sv k, sv o]) ∧ Below w.heap.size w w' := by
  go_enter Try.func63, Try.ntmps63
  go_wp2
  refine bodyPost_ret (v := .agg #[sv k, sv o]) (by simp [results, Try.results63, go_sem]) rfl ⟨rfl, ?_⟩
  exact (((Below.refl _ _).alloc (Nat.le_refl _) _).alloc (by simp) _).alloc (by simp; omega) _
set_option maxHeartbeats 400000 in
theorem eqPart_any (a b c d : Str) (w : World) :
    Calls Try.prog 69 #[.agg #[sv a, sv b], .agg #[sv c, sv d]] w fun e w' => e = .returned (.bool ((a, b) == (c, d))) ∧ Below w.heap.size w w' := by
  go_enter Try.func69, Try.ntmps69
  go_wp2
  all_goals go_ret
  all_goals refine ⟨ret_bool ?_, ((Below.refl _ _).alloc (Nat.le_refl _) _).alloc (by simp) _⟩
  · have h := of_bne (a := a) (b := c) (by assumption)
    simp [h]
  · have h := of_bne (a := b) (b := d) (by assumption)
    simp [h]
  · have h := of_nbne (a := a) (b := c) (by assumption)
    have h' := of_nbne (a := b) (b := d) (by assumption)
    simp [h, h']
set_option maxHeartbeats 400000 in
theorem eqPartS_any (A A' : Option Addr) (len len' cap cap' : Nat) (l l' : List Pair) (w : World) (hr : Reads enc2 2 w w.heap.size A len l) (hr' : Reads enc2 2 w w.heap.size A' len' l') (hlen : len ≤ maxLen) (hlen' : len' ≤ maxLen) :
    Calls Try.prog 31 #[.slice A len cap, .slice A' len' cap'] w fun e w' => e = .returned (.bool (l == l')) ∧ Below w.heap.size w w' := by
  unfold maxLen at hlen hlen'
  by_cases hn : len = len'
  · subst hn
    have hd : ((len : Int) != (len : Int)) = false := by simp
    go_enter Try.func31, Try.ntmps31
    go_wp2
    go_loopw [5] (fun i wr => ∃ (k : Nat), k ≤ len ∧ i = .int .i64 k ∧ l.take k = l'.take k ∧ Below w.heap.size w wr) (fun i _ => len - (intOf i).toNat)
    case atStart => exact ⟨0, by omega, rfl, by simp, Below.refl _ _⟩
    case round =>
      obtain ⟨k, hk, rfl, hf, hb⟩ := hrel
      have HF := Lib.hid hf
      clear hf
      by_cases hlt : k < len
      · obtain ⟨b, off, x, y, rfl, hbl, hx, hc0, hc1⟩ := (hr.below hb).at2 hlt
        obtain ⟨b', off', x', y', rfl, hbl', hx', hc0', hc1'⟩ := (hr'.below hb).at2 hlt
        have HX := Lib.hid hx
        have HX' := Lib.hid hx'
        clear hx hx'
        go_wp2
        have hbw : b < wr.heap.size := by have := hb.size; omega
        have hbw' : b' < wr.heap.size := by have := hb.size; omega
        have i1 : (0 : Int) ≤ (k : Int) := by omega
        have i2 : (k : Int) < (len : Int) := by omega
        go_region_held3 (fun w' => (w'.cell? ⟨b, off + k * 2, none⟩ = some (sv x) ∧ w'.cell? ⟨b, off + k * 2 + 1, none⟩ = some (sv y)) ∧ (w'.cell? ⟨b', off' + k * 2, none⟩ = some (sv x') ∧ w'.cell? ⟨b', off' + k * 2 + 1, none⟩ = some (sv y'))) (first | exact ⟨⟨hc0, hc1⟩, ⟨hc0', hc1'⟩⟩ | exact ⟨⟨(hb1.cell hbw).trans hc0, (hb1.cell hbw).trans hc1⟩, ⟨(hb1.cell hbw').trans hc0', (hb1.cell hbw').trans hc1'⟩⟩)
          (first | (go_at_call 69; refine (eqPart_any _ _ _ _ _).mono ?_; rintro e w1 ⟨rfl, hb1⟩))
        go_wp2
        · go_ret
          have hq := of_bne (a := (x, y)) (b := (x', y')) (by assumption)
          exact ⟨ret_bool (ne_at HX.out HX'.out hq).symm, bth hb.drew hb1⟩
        · have hq := of_nbne (a := (x, y)) (b := (x', y')) (by assumption)
          go_roundw
          case rel => exact ⟨k + 1, by omega, by go_num, by rw [take_snoc' HX.out, take_snoc' HX'.out, HF.out, hq], bth hb.drew hb1⟩
          case measure => simp [intOf]; omega
      · obtain rfl : len = k := by omega
        go_wp2
        go_ret
        exact ⟨ret_bool (eq_of_takes HF.out hr.len hr'.len).symm, hb⟩
  · have hd : ((len : Int) != (len' : Int)) = true := by simp; omega
    go_enter Try.func31, Try.ntmps31
    go_wp2
    go_ret
    exact ⟨ret_bool (ne_of_len (by rw [hr.len, hr'.len]; exact hn)).symm, Below.refl _ _⟩
theorem infoPart : (Try.prog.info? 68).map (fun i => (i.zero, i.size, i.bytes)) = some (some (.agg #[sv [], sv []]), 2, 32) := by kernel_rfl
theorem tyPart : ElemTy Try.prog 44 68 2 32 := by
  obtain ⟨i0, hi0, hz0, hz1, hz2⟩ := info_parts infoPart
  exact ⟨i0, _, Try.underlying44, hi0, hz0, hz1, hz2, rfl, by omega⟩
abbrev OwnPart (w : World) (base : Nat) (A : Option Addr) (n c : Nat) (l : List Pair) : Prop := Own enc2 2 68 w base A n c l
set_option maxHeartbeats 400000 in
theorem toPartS_any (A : Option Addr) (len cap : Nat) (l : List Pair) (w : World) (hr : Reads enc2 2 w w.heap.size A len l) (hlen : len ≤ 1048576) :
    Calls Try.prog 29 #[.slice A len cap] w fun e w' => ∃ g, e = .returned (.slice (some ⟨g, 0, none⟩) len len) ∧ OwnPart w' w.heap.size (some ⟨g, 0, none⟩) len len l ∧ Below w.heap.size w w' := by
  obtain ⟨i0, hi0, hz0, hz1, hz2⟩ := info_parts infoPart
  have hmk := fun W => run_make_rowN (P := Try.prog) 44 68 i0 _ Try.underlying44 hi0 hz0 .i64 .i64 len len (Nat.le_refl _) (by rw [hz2]; omega) (by omega) W
  rw [hz1] at hmk
  go_enter Try.func29, Try.ntmps29
  go_wp2
  clear hmk
  go_loopw [4] (fun i wr => ∃ (k : Nat), k ≤ len ∧ i = .int .i64 k ∧ Fil wr w.heap.size 68 (len * 2) (k * 2) ((l.take k).flatMap enc2) ∧ Below w.heap.size w wr) (fun i _ => len - (intOf i).toNat)
  case atStart => exact ⟨0, by omega, rfl, by simpa using Fil.start w 68 (madeCells #[sv [], sv []] (len * 2)) (len * 2) (size_madeCells _ _), (Below.refl _ _).alloc (Nat.le_refl _) _⟩
  case round =>
    obtain ⟨k, hk, rfl, hf, hb⟩ := hrel
    by_cases hlt : k < len
    · obtain ⟨b, off, x, y, rfl, hbl, hx, hc0, hc1⟩ := (hr.below hb).at2 hlt
      have HX := Lib.hid hx
      clear hx
      go_wp2_with (go_at_call 63; refine (toPart_any _ _ _).mono ?_; rintro e w1 ⟨rfl, hb1⟩; have hf1 := hf.next hb1; obtain ⟨u0, hu0⟩ := hf1.cell (k * 2) (by omega); obtain ⟨u1, hu1⟩ := hf1.cell (k * 2 + 1) (by omega); have hz0 := hf1.frozen (k * 2); have hz1 := hf1.frozen (k * 2 + 1))
      have hf2 := (hf1.put (by omega) (sv x)).put (by omega) (sv y)
      go_roundw
      case rel => exact ⟨k + 1, by omega, by go_num, by rw [take_snoc' HX.out, List.flatMap_append, show (k + 1) * 2 = k * 2 + 1 + 1 from by omega]; simpa [enc2] using hf2, ((bth hb hb1).setCell (Nat.le_refl _) _).setCell (Nat.le_refl _) _⟩
      case measure => simp [intOf]; omega
    · obtain rfl : len = k := by omega
      rw [List.take_of_length_le (by rw [hr.len]; omega)] at hf
      go_wp2
      go_ret
      exact ⟨_, rfl, hf.own enc2_len hr.len (Nat.le_refl _) (by unfold maxLen; omega) (Nat.le_refl _), hb⟩
set_option maxHeartbeats 1000000 in
theorem markPartS_any (A : Option Addr) (n c k : Nat) (l : List Pair) (w : World) (base : Nat) (ho : OwnPart w base A n c l) (hn : n ≤ 1048576) (hk : k ≤ 4194304) :
    Calls Try.prog 36 #[.slice A n c, .int .i64 k] w fun e w' => e = .returned (.int .i64 ((k : Int) + 2 * (n : Int))) ∧ OwnPart w' base A n c (mks n k) ∧ w.grownBy w' (Value.slice A n c).ownBlock := by
  rcases ho.cases with ⟨rfl, rfl, rfl, rfl⟩ | ⟨g, rfl⟩
  · go_enter Try.func36, Try.ntmps36
    go_wp2
    go_loop [1, 5] (fun m i => m = .int .i64 k ∧ i = .int .i64 0) (fun _ _ => 0)
    case atStart => exact ⟨rfl, rfl⟩
    case round =>
      obtain ⟨rfl, rfl⟩ := hrel
      go_wp2
      go_ret
      exact ⟨ret_int (by omega), Own.nil_, only_refl _ _⟩
  · obtain ⟨hfz, hm⟩ := ho.fil
    have hlt0 := ho.lt
    have hcap := ho.cap
    simp only at hlt0
    go_enter Try.func36, Try.ntmps36
    go_wp2
    go_loopw [1, 5] (fun m i wr => ∃ (j : Nat), j ≤ n ∧ i = .int .i64 j ∧ m = .int .i64 ((k : Int) + 2 * (j : Int)) ∧ Fil wr g 68 (c * 2) (j * 2) (((mks n k).take j).flatMap enc2) ∧ w.grownBy wr (some g)) (fun _ i _ => n - (intOf i).toNat)
    case atStart => exact ⟨0, by omega, rfl, by go_num, by simpa using hfz, only_refl _ _⟩
    case round =>
      obtain ⟨j, hj, rfl, rfl, hf, hg⟩ := hrel
      by_cases hlt : j < n
      · have hat := mks_at n k j hlt
        have HA := Lib.hid hat
        clear hat
        go_wp2_with fail
        refine (markText_any _ _ (by omega) (by omega)).mono ?_
        rintro e w1 ⟨rfl, hb1⟩
        have e1 : ((k : Int) + 2 * (j : Int)).toNat = k + 2 * j := by omega
        rw [e1]
        clear e1
        have hf1 := hf.next hb1
        obtain ⟨u0, hu0⟩ := hf1.cell (j * 2) (by omega)
        have hz0 := hf1.frozen (j * 2)
        go_wp2_with fail
        clear hu0 hz0 u0
        have hf2 := hf1.put (by omega) (sv (mk (k + 2 * j)))
        have hg2 := only_setCell (p := ⟨g, j * 2, none⟩) (only_below hg hb1) (.inl rfl) (sv (mk (k + 2 * j)))
        refine (markText_any _ _ (by omega) (by omega)).mono ?_
        rintro e w2 ⟨rfl, hb2⟩
        have e1 : ((k : Int) + 2 * (j : Int) + 1).toNat = k + 2 * j + 1 := by omega
        rw [e1]
        clear e1
        have hf3 := hf2.next hb2
        obtain ⟨u0, hu0⟩ := hf3.cell (j * 2 + 1) (by omega)
        have hz0 := hf3.frozen (j * 2 + 1)
        go_wp2_with fail
        have hf4 := hf3.put (by omega) (sv (mk (k + 2 * j + 1)))
        have hg4 := only_setCell (p := ⟨g, j * 2 + 1, none⟩) (only_below hg2 hb2) (.inl rfl) (sv (mk (k + 2 * j + 1)))
        go_roundw
        case rel => exact ⟨j + 1, by omega, by go_num, by go_num, by rw [take_snoc' HA.out, List.flatMap_append, show (j + 1) * 2 = j * 2 + 1 + 1 from by omega]; simpa [enc2] using hf4, hg4⟩
        case measure => simp [intOf]; omega
      · obtain rfl : n = j := by omega
        rw [List.take_of_length_le (by rw [mks_len]; omega)] at hf
        go_wp2
        go_ret
        exact ⟨rfl, hf.own enc2_len (mks_len _ _) hcap hm hlt0.1, hg⟩
set_option maxHeartbeats 1000000 in
theorem heldPartS_any (A : Option Addr) (n c k : Nat) (w : World) (hr : Reads enc2 2 w w.heap.size A n (mks n k)) (hn : n ≤ 1048576) (hk : k ≤ 4194304) :
    Calls Try.prog 37 #[.slice A n c, .int .i64 k] w fun e w' => e = .returned (.int .i64 ((k : Int) + 2 * (n : Int))) ∧ Below w.heap.size w w' := by
  go_enter Try.func37, Try.ntmps37
  go_wp2
  go_loopw [1, 5] (fun m i wr => ∃ (j : Nat), j ≤ n ∧ i = .int .i64 j ∧ m = .int .i64 ((k : Int) + 2 * (j : Int)) ∧ Below w.heap.size w wr) (fun _ i _ => n - (intOf i).toNat)
  case atStart => exact ⟨0, by omega, rfl, by go_num, Below.refl _ _⟩
  case round =>
    obtain ⟨j, hj, rfl, rfl, hb⟩ := hrel
    by_cases hlt : j < n
    · obtain ⟨b, off, x, y, rfl, hbl, hx, hc0, hc1⟩ := (hr.below hb).at2 hlt
      rw [mks_at n k j hlt] at hx
      injection hx with hx
      injection hx with hx hy
      subst hx hy
      have hbw : b < wr.heap.size := by have := hb.size; omega
      have i1 : (0 : Int) ≤ (j : Int) := by omega
      have i2 : (j : Int) < (n : Int) := by omega
      go_wp2
      go_region_held3 (fun w' => w'.cell? ⟨b, off + j * 2, none⟩ = some (sv (mk (k + 2 * j))) ∧ w'.cell? ⟨b, off + j * 2 + 1, none⟩ = some (sv (mk (k + 2 * j + 1)))) (first | exact ⟨hc0, hc1⟩ | exact ⟨(hb1.cell hbw).trans hc0, (hb1.cell hbw).trans hc1⟩)
          (first | (go_at_call 58; refine (markText_any _ _ (by omega) (by omega)).mono ?_; rintro e w1 ⟨rfl, hb1⟩))
      have e1 : ((k : Int) + 2 * (j : Int)).toNat = k + 2 * j := by omega
      rw [e1]
      clear e1
      go_wp2
      · exact absurd rfl (of_bne (a := mk (k + 2 * j)) (b := mk (k + 2 * j)) (by assumption))
      have hc2 : w1.cell? ⟨b, off + j * 2 + 1, none⟩ = some (sv (mk (k + 2 * j + 1))) := (hb1.cell hbw).trans hc1
      have hbw1 : b < w1.heap.size := by have := hb1.size; exact Nat.lt_of_lt_of_le hbw this
      have hb1' := bth hb.drew hb1
      go_region_held3 (fun w' => w'.cell? ⟨b, off + j * 2 + 1, none⟩ = some (sv (mk (k + 2 * j + 1)))) (first | exact hc2 | exact (hb2.cell hbw1).trans hc2)
          (first | (go_at_call 58; refine (markText_any _ _ (by omega) (by omega)).mono ?_; rintro e w2 ⟨rfl, hb2⟩))
      have e1 : ((k : Int) + 2 * (j : Int) + 1).toNat = k + 2 * j + 1 := by omega
      rw [e1]
      clear e1
      go_wp2
      · exact absurd rfl (of_bne (a := mk (k + 2 * j + 1)) (b := mk (k + 2 * j + 1)) (by assumption))
      go_roundw
      case rel => exact ⟨j + 1, by omega, by go_num, by go_num, bth hb1'.drew hb2⟩
      case measure => simp [intOf]; omega
    · obtain rfl : n = j := by omega
      go_wp2
      go_ret
      exact ⟨rfl, hb⟩
end Go.Proofs.Ytecebamhenlnoaa
