/- Formulas: what IsFormula of the reference returns. -/
import Derived.Test.YtecebamhenlnoaaFf
namespace Go.Proofs.Ytecebamhenlnoaa
open Go.RowKit
theorem quiet_left {P : Program} {f : FuncId} {args : Array Value} {w : World} {n : Nat} {v : Value}
    (h : Calls P f args (w.drewN n) fun e w' => e = .returned v ∧ w.drewN n = w') : Calls P f args (w.drewN n) fun e w'' => e = .returned v ∧ ∃ m, w'' = w.drewN m :=
  h.mono fun _ _ ⟨he, hm⟩ => ⟨he, n, hm.symm⟩
theorem l21Ahead_int (a b : Int) (w : World) (ha0 : 0 ≤ a) (hb0 : 0 ≤ b) (ha : a ≤ 1000000) (hb : b ≤ 1000000) :
    Calls Try.prog 107 #[.int .i64 a, .int .i64 b] w fun e w' => e = .returned (.bool (tless a.toNat b.toNat)) ∧ w = w' := by
  obtain ⟨x, rfl⟩ := Int.eq_ofNat_of_zero_le ha0
  obtain ⟨y, rfl⟩ := Int.eq_ofNat_of_zero_le hb0
  exact l21Ahead_any x y w ha hb
theorem i64_or_int (u : Nat) (x : Int) (hu : u < 32) (h0 : 0 ≤ x) (h1 : x < 32) : bits .or .i64 (u : Int) x = ((u ||| x.toNat : Nat) : Int) := by
  obtain ⟨y, rfl⟩ := Int.eq_ofNat_of_zero_le h0
  exact i64_or_nat u y (by omega) (by omega)
set_option maxRecDepth 100000 in
set_option maxHeartbeats 4000000 in
theorem specIsFormula_any (r : Str) (ic : Bool) (A : Option Addr) (n c : Nat) (B : Option Addr) (m d : Nat) (vars : List Str) (terms : List Int) (w : World)
    (hv : Reads encS 1 w w.heap.size A n vars) (ht : Reads encI 1 w w.heap.size B m terms) (hr : r.length ≤ maxLen) (hvs : ∀ v ∈ vars, v.length ≤ maxLen) (hn : n ≤ maxLen) (hm : m ≤ maxLen) :
    Calls Try.prog 91 #[fval r ic A n c B m d] w fun e w' => e = .returned (.bool (isF r vars terms)) ∧ Below w.heap.size w w' := by
  have hn' : n ≤ 9223372036854775807 := hn
  have hm' : m ≤ 9223372036854775807 := hm
  have hlv := hv.len
  have hlt := ht.len
  have hb0 : Below w.heap.size w (w.alloc (.cells #[sv r, .bool ic, .slice A n c, .slice B m d] 62)) := (Below.refl _ _).alloc (Nat.le_refl _) _
  go_enter Try.func91, Try.ntmps91
  go_wp2_with fail
  refine (specIsName_any r _ hr).mono ?_
  rintro e w1 ⟨rfl, rfl⟩
  cases hN : isNm r with
  | false =>
    go_wp2_with fail
    go_ret
    exact ⟨ret_bool (by rw [isF, hN]; rfl), hb0⟩
  | true =>
    by_cases h5 : (5 : Int) < (n : Int)
    · go_wp2_with fail
      go_ret
      exact ⟨ret_bool (by rw [isF, hlv, decide_eq_false (show ¬ n ≤ 5 by omega)]; simp), hb0⟩
    by_cases h10 : (10 : Int) < (m : Int)
    · go_wp2_with fail
      go_ret
      exact ⟨ret_bool (by rw [isF, hlt, decide_eq_false (show ¬ m ≤ 10 by omega)]; simp), hb0⟩
    have hmain : isF r vars terms = (vck r none vars && tck n none terms && (used terms == 2 ^ n - 1)) := by
      rw [isF, hN, hlv, hlt, decide_eq_true (show n ≤ 5 by omega), decide_eq_true (show m ≤ 10 by omega)]; simp
    have HM := Lib.hid hmain
    have HLV := Lib.hid hlv
    have HLT := Lib.hid hlt
    clear hmain hN hlv hlt
    have hd5 : decide ((5 : Int) < (n : Int)) = false := by simp; omega
    have hd10 : decide ((10 : Int) < (m : Int)) = false := by simp; omega
    have hn5 : n ≤ 5 := by omega
    have hm10 : m ≤ 10 := by omega
    clear h5 h10
    obtain ⟨p, hp⟩ : ∃ p : Nat, p = 2 ^ n := ⟨_, rfl⟩
    have hp1 : 1 ≤ p := by rw [hp]; exact Nat.pos_of_ne_zero (by simp)
    have hp32 : p ≤ 32 := by
      rw [hp]
      have h := Nat.pow_le_pow_right (n := 2) (i := n) (j := 5) (by omega) hn5
      omega
    have hsh : IntKind.i64.wrap (2 ^ n) = (p : Int) := by
      rw [show (2 : Int) ^ n = ((2 ^ n : Nat) : Int) from by simp, ← hp, IntKind.wrap_i64]; omega
    have HP2 := Lib.hid hp
    clear hp
    go_wp2_with fail
    have hblk := Blk.new_ w 62 #[sv r, .bool ic, .slice A n c, .slice B m d]
    go_loopw [3, 4] (fun v i wr => ∃ (j u : Nat), j ≤ m ∧ u < 32 ∧ i = .int .i64 j ∧ v = .int .i64 u ∧ u = used (terms.take j) ∧ (∀ i x, i < j → terms[i]? = some x → 1 ≤ x ∧ x < p) ∧ tck n none terms = tck n (prv terms j) (terms.drop j) ∧ Below w.heap.size w wr ∧ Blk wr w.heap.size 62 [sv r, .bool ic, .slice A n c, .slice B m d]) (fun _ i _ => m - (intOf i).toNat)
    case atStart => exact ⟨0, 0, by omega, by omega, rfl, rfl, rfl, fun i x hi => by omega, rfl, hb0, hblk⟩
    case round =>
      obtain ⟨j, u, hj, hu, rfl, rfl, hus, hrng, hf, hb, hk⟩ := hrel
      have HU := Lib.hid hus
      have HF := Lib.hid hf
      have HRng := Lib.hid hrng
      clear hus hf hrng
      have hc0 : wr.cell? ⟨w.heap.size, 0, none⟩ = some (sv r) := hk.cell 0
      have hc2 : wr.cell? ⟨w.heap.size, 2, none⟩ = some (.slice A n c) := hk.cell 2
      have hc3 : wr.cell? ⟨w.heap.size, 3, none⟩ = some (.slice B m d) := hk.cell 3
      by_cases hlt : j < m
      · obtain ⟨b, off, x, rfl, hbl, hx, hcx⟩ := (ht.below hb).atI hlt
        have HD := Lib.hid (tck_drop hx n (prv terms j))
        have HX := Lib.hid hx
        clear hx
        have hbad : (decide (1 ≤ x ∧ x < (2 ^ n : Nat)) && okPrev (fun a b => tless a.toNat b.toNat) (prv terms j) x) = false → isF r vars terms = false := fun h => by
          rw [HM.out, HF.out, HD.out, h]; simp
        have HB := Lib.hid hbad
        clear hbad
        have i1 : (0 : Int) ≤ (j : Int) := by omega
        have i2 : (j : Int) < (m : Int) := by omega
        have i3 : 1 ≤ (p : Int) := by omega
        have hsp : IntKind.i64.wrap ((p : Int) - 1) = (p : Int) - 1 := by rw [IntKind.wrap_i64]; omega
        by_cases h1 : 1 ≤ x ∧ x ≤ (p : Int) - 1
        · have hdx : decide (1 ≤ x ∧ x ≤ (p : Int) - 1) = true := by simp; omega
          have hy0 : 0 ≤ x := by omega
          have hy32 : x < 32 := by omega
          have hy1 : 1 ≤ x := h1.1
          have hdx2 : decide (x ≤ (p : Int) - 1) = true := by simp; omega
          have hdx3 : x ≤ (p : Int) - 1 := h1.2
          have hor := i64_or_int u x hu hy0 hy32
          have hlt32 : u ||| x.toNat < 32 := Nat.or_lt_two_pow (n := 5) (by omega) (by omega)
          have hok : decide (1 ≤ x ∧ x < (2 ^ n : Nat)) = true := by rw [← HP2.out]; simp; omega
          have hus2 : u ||| x.toNat = used (terms.take (j + 1)) := by rw [used_snoc HX.out, ← HU.out]
          have hrng2 : ∀ i y, i < j + 1 → terms[i]? = some y → 1 ≤ y ∧ y < (p : Int) := by
            intro i y hi hx
            by_cases hij : i = j
            · subst hij; rw [HX.out] at hx; injection hx with hx; subst hx; omega
            · exact HRng.out i y (by omega) hx
          have HOk := Lib.hid hok
          have HU2 := Lib.hid hus2
          have HR2 := Lib.hid hrng2
          clear hok hus2 hrng2 h1
          rcases Nat.eq_zero_or_pos j with h0 | h0
          · have hk00 : decide ((0 : Int) < (j : Int)) = false := by simp; omega
            have hk01 : decide (0 < j) = false := by simp; omega
            have hpv : prv terms j = none := by rw [prv, if_pos h0]
            have HPv := Lib.hid hpv
            clear hpv h0
            go_wp2_with fail
            go_quiet (first | (go_at_call 88; exact quiet_left (l1In_any _ _ _ _)))
            go_wp2_with fail
            go_roundw
            case rel => exact ⟨j + 1, u ||| x.toNat, by omega, hlt32, by go_num, rfl, HU2.out, HR2.out, by rw [HF.out, HD.out, HPv.out, HOk.out]; rfl, below_drewN hb _, hk⟩
            case measure => simp [intOf]; omega
          · obtain ⟨b', off', q, he, _, hq, hcq⟩ := (ht.below hb).atI (k := j - 1) (by omega)
            injection he with he; injection he with he he'
            subst he he'
            have hq1 := HRng.out (j - 1) q (by omega) hq
            have hpv : prv terms j = some q := by rw [prv, if_neg (by omega), hq]
            have HPv := Lib.hid hpv
            have h0' : decide ((0 : Int) < (j : Int)) = true := by simp; omega
            have h0'' : (0 : Int) < (j : Int) := by omega
            have i4 : (1 : Int) ≤ (j : Int) := by omega
            have i5 : (0 : Int) ≤ (j : Int) - 1 := by omega
            have i6 : (j : Int) - 1 < (m : Int) := by omega
            have i7 : ((j : Int) - 1).toNat = j - 1 := by omega
            have hsj : IntKind.i64.wrap ((j : Int) - 1) = (j : Int) - 1 := by rw [IntKind.wrap_i64]; omega
            clear hpv hq
            have hq0 : 0 ≤ q := by omega
            have hq32 : q < 32 := by omega
            cases hl : tless q.toNat x.toNat with
            | false =>
              go_wp2_with fail
              go_quiet (first | (go_at_call 88; exact quiet_left (l1In_any _ _ _ _)) | (go_at_call 107; exact quiet_left (l21Ahead_int _ _ _ (by omega) (by omega) (by omega) (by omega))))
              go_wp2_with fail
              go_ret
              exact ⟨ret_bool (HB.out (by rw [HOk.out, HPv.out, okPrev]; simpa using hl)).symm, below_drewN hb _⟩
            | true =>
              go_wp2_with fail
              go_quiet (first | (go_at_call 88; exact quiet_left (l1In_any _ _ _ _)) | (go_at_call 107; exact quiet_left (l21Ahead_int _ _ _ (by omega) (by omega) (by omega) (by omega))))
              go_wp2_with fail
              go_roundw
              case rel => exact ⟨j + 1, u ||| x.toNat, by omega, hlt32, by go_num, rfl, HU2.out, HR2.out, by rw [HF.out, HD.out, HPv.out, HOk.out, okPrev]; simp [hl], below_drewN hb _, hk⟩
              case measure => simp [intOf]; omega
        · have hdx : decide (1 ≤ x ∧ x ≤ (p : Int) - 1) = false := by simp; omega
          have HH1 := Lib.hid h1
          clear h1
          go_wp2_with fail
          go_quiet (first | (go_at_call 88; exact quiet_left (l1In_any _ _ _ _)))
          go_wp2_with fail
          go_ret
          exact ⟨ret_bool (HB.out (by rw [decide_eq_false (by rw [← HP2.out]; have := HH1.out; omega)]; rfl)).symm, below_drewN hb _⟩
      · obtain rfl : j = m := by omega
        have htok : tck n none terms = true := by rw [HF.out, List.drop_of_length_le (by rw [HLT.out]; omega)]; rfl
        have hmain : isF r vars terms = (vck r none vars && ((u : Int) == (p : Int) - 1)) := by
          rw [HM.out, htok, HP2.out.symm, HU.out, List.take_of_length_le (by rw [HLT.out]; omega), Bool.and_true]
          congr 1
          rw [Bool.eq_iff_iff]
          simp; omega
        have HM2 := Lib.hid hmain
        clear hmain htok
        go_wp2_with fail
        clear hc0 hc2 hc3 hj hlt HF HRng HU
        obtain ⟨m, rfl⟩ : ∃ m : Nat, m = j := ⟨_, rfl⟩
        go_loopw [5] (fun i wr => ∃ k : Nat, k ≤ n ∧ i = .int .i64 k ∧ vck r none vars = vck r (prv vars k) (vars.drop k) ∧ Below w.heap.size w wr ∧ Blk wr w.heap.size 62 [sv r, .bool ic, .slice A n c, .slice B m d]) (fun i _ => n - (intOf i).toNat)
        case atStart => exact ⟨0, by omega, rfl, rfl, hb, hk⟩
        case round =>
          clear hb hk
          obtain ⟨k, hkn, rfl, hf, hb, hk⟩ := hrel
          have HF := Lib.hid hf
          clear hf
          have hc0 : wr.cell? ⟨w.heap.size, 0, none⟩ = some (sv r) := hk.cell 0
          have hc2 : wr.cell? ⟨w.heap.size, 2, none⟩ = some (.slice A n c) := hk.cell 2
          have hc3 : wr.cell? ⟨w.heap.size, 3, none⟩ = some (.slice B m d) := hk.cell 3
          by_cases hlt : k < n
          · obtain ⟨b, off, x, rfl, hbl, hx, hcx⟩ := (hv.below hb).atS hlt
            have hxl := hvs _ (List.mem_of_getElem? hx)
            have HD := Lib.hid (vck_drop hx r (prv vars k))
            have hbad : (isNm x && !(x == r) && okPrev Op.bytesLess (prv vars k) x) = false → isF r vars terms = false := fun h => by
              rw [HM2.out, HF.out, HD.out, h]; rfl
            have HB := Lib.hid hbad
            clear hbad hx
            have i1 : (0 : Int) ≤ (k : Int) := by omega
            have i2 : (k : Int) < (n : Int) := by omega
            cases hNx : isNm x with
            | false =>
              go_wp2_with fail
              go_quiet (first | (go_at_call 61; exact quiet_left (specIsName_any _ _ hxl)))
              go_wp2_with fail
              go_ret
              exact ⟨ret_bool (HB.out (by rw [hNx]; rfl)).symm, below_drewN hb _⟩
            | true =>
              cases hxr : (x == r) with
              | true =>
                rcases Nat.eq_zero_or_pos k with h0 | h0
                · have hk00 : decide ((0 : Int) < (k : Int)) = false := by simp; omega
                  have hk01 : decide (0 < k) = false := by simp; omega
                  clear h0
                  go_wp2_with fail
                  go_quiet (first | (go_at_call 61; exact quiet_left (specIsName_any _ _ hxl)))
                  go_wp2_with fail
                  go_ret
                  exact ⟨ret_bool (HB.out (by rw [hNx, hxr]; rfl)).symm, below_drewN hb _⟩
                · obtain ⟨b', off', q, he, _, hq, hcq⟩ := (hv.below hb).atS (k := k - 1) (by omega)
                  injection he with he; injection he with he he'
                  subst he he'
                  have h0' : decide ((0 : Int) < (k : Int)) = true := by simp; omega
                  have h0'' : (0 : Int) < (k : Int) := by omega
                  have i5 : (0 : Int) ≤ (k : Int) - 1 := by omega
                  have i6 : (k : Int) - 1 < (n : Int) := by omega
                  have i7 : ((k : Int) - 1).toNat = k - 1 := by omega
                  have hsj : IntKind.i64.wrap ((k : Int) - 1) = (k : Int) - 1 := by rw [IntKind.wrap_i64]; omega
                  clear hq
                  cases hl : Op.bytesLess q x with
                  | false =>
                    go_wp2_with fail
                    go_quiet (first | (go_at_call 61; exact quiet_left (specIsName_any _ _ hxl)))
                    go_wp2_with fail
                    go_ret
                    exact ⟨ret_bool (HB.out (by rw [hNx, hxr]; rfl)).symm, below_drewN hb _⟩
                  | true =>
                    go_wp2_with fail
                    go_quiet (first | (go_at_call 61; exact quiet_left (specIsName_any _ _ hxl)))
                    go_wp2_with fail
                    go_ret
                    exact ⟨ret_bool (HB.out (by rw [hNx, hxr]; rfl)).symm, below_drewN hb _⟩
              | false =>
                rcases Nat.eq_zero_or_pos k with h0 | h0
                · have hk00 : decide ((0 : Int) < (k : Int)) = false := by simp; omega
                  have hk01 : decide (0 < k) = false := by simp; omega
                  have hp : prv vars k = none := by rw [prv, if_pos h0]
                  have HP := Lib.hid hp
                  clear h0 hp
                  go_wp2_with fail
                  go_quiet (first | (go_at_call 61; exact quiet_left (specIsName_any _ _ hxl)))
                  go_wp2_with fail
                  go_roundw
                  case rel => exact ⟨k + 1, by omega, by go_num, by rw [HF.out, HD.out, HP.out, hNx, hxr]; rfl, below_drewN hb _, hk⟩
                  case measure => simp [intOf]; omega
                · obtain ⟨b', off', q, he, _, hq, hcq⟩ := (hv.below hb).atS (k := k - 1) (by omega)
                  injection he with he; injection he with he he'
                  subst he he'
                  have hp : prv vars k = some q := by rw [prv, if_neg (by omega), hq]
                  have HP := Lib.hid hp
                  have h0' : decide ((0 : Int) < (k : Int)) = true := by simp; omega
                  have h0'' : (0 : Int) < (k : Int) := by omega
                  have i5 : (0 : Int) ≤ (k : Int) - 1 := by omega
                  have i6 : (k : Int) - 1 < (n : Int) := by omega
                  have i7 : ((k : Int) - 1).toNat = k - 1 := by omega
                  have hsj : IntKind.i64.wrap ((k : Int) - 1) = (k : Int) - 1 := by rw [IntKind.wrap_i64]; omega
                  clear hq hp
                  cases hl : Op.bytesLess q x with
                  | false =>
                    go_wp2_with fail
                    go_quiet (first | (go_at_call 61; exact quiet_left (specIsName_any _ _ hxl)))
                    go_wp2_with fail
                    go_ret
                    exact ⟨ret_bool (HB.out (by rw [hNx, hxr, HP.out, okPrev, hl]; rfl)).symm, below_drewN hb _⟩
                  | true =>
                    go_wp2_with fail
                    go_quiet (first | (go_at_call 61; exact quiet_left (specIsName_any _ _ hxl)))
                    go_wp2_with fail
                    go_roundw
                    case rel => exact ⟨k + 1, by omega, by go_num, by rw [HF.out, HD.out, HP.out, hNx, hxr, okPrev, hl]; rfl, below_drewN hb _, hk⟩
                    case measure => simp [intOf]; omega
          · obtain rfl : k = n := by omega
            have hvok : vck r none vars = true := by rw [HF.out, List.drop_of_length_le (by rw [HLV.out]; omega)]; rfl
            have hfin : isF r vars terms = ((u : Int) == (p : Int) - 1) := by rw [HM2.out, hvok, Bool.true_and]
            have HFi := Lib.hid hfin
            clear hfin hvok
            go_wp2_with fail
            go_ret
            exact ⟨ret_bool (by rw [HFi.out]), hb⟩
end Go.Proofs.Ytecebamhenlnoaa
