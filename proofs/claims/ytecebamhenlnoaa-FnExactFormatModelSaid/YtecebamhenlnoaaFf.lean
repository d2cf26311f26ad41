/- Formulas: what IsFormula of the program returns. -/
import Derived.Test.YtecebamhenlnoaaFe
namespace Go.Proofs.Ytecebamhenlnoaa
open Go.RowKit
def okPrev {α : Type} (f : α → α → Bool) : Option α → α → Bool
  | none, _ => true
  | some q, v => f q v
def vck (r : Str) : Option Str → List Str → Bool
  | _, [] => true
  | p, v :: t => (isNm v && !(v == r) && okPrev Op.bytesLess p v) && vck r (some v) t
def tck (n : Nat) : Option Int → List Int → Bool
  | _, [] => true
  | p, x :: t => (decide (1 ≤ x ∧ x < (2 ^ n : Nat)) && okPrev (fun a b => tless a.toNat b.toNat) p x) && tck n (some x) t
def used (terms : List Int) : Nat := terms.foldl (fun u x => u ||| x.toNat) 0
def isF (r : Str) (vars : List Str) (terms : List Int) : Bool :=
  isNm r && decide (vars.length ≤ 5) && decide (terms.length ≤ 10) && vck r none vars && tck vars.length none terms && (used terms == 2 ^ vars.length - 1)
def prv {α : Type} (l : List α) (k : Nat) : Option α := if k = 0 then none else l[k - 1]?
theorem vck_drop {l : List Str} {k : Nat} {v : Str} (h : l[k]? = some v) (r : Str) (p : Option Str) : vck r p (l.drop k) = ((isNm v && !(v == r) && okPrev Op.bytesLess p v) && vck r (prv l (k + 1)) (l.drop (k + 1))) := by
  obtain ⟨hk, he⟩ := List.getElem?_eq_some_iff.1 h
  rw [List.drop_eq_getElem_cons hk, he, vck]
  simp [prv, h]
theorem tck_drop {l : List Int} {k : Nat} {v : Int} (h : l[k]? = some v) (n : Nat) (p : Option Int) : tck n p (l.drop k) = ((decide (1 ≤ v ∧ v < (2 ^ n : Nat)) && okPrev (fun a b => tless a.toNat b.toNat) p v) && tck n (prv l (k + 1)) (l.drop (k + 1))) := by
  obtain ⟨hk, he⟩ := List.getElem?_eq_some_iff.1 h
  rw [List.drop_eq_getElem_cons hk, he, tck]
  simp [prv, h]
theorem used_snoc {l : List Int} {k : Nat} {v : Int} (h : l[k]? = some v) : used (l.take (k + 1)) = used (l.take k) ||| v.toNat := by
  rw [used, take_snoc' h, List.foldl_append]; rfl
abbrev fval (r : Str) (ic : Bool) (A : Option Addr) (n c : Nat) (B : Option Addr) (m d : Nat) : Value := .agg #[sv r, .bool ic, .slice A n c, .slice B m d]
set_option maxRecDepth 100000 in
set_option maxHeartbeats 4000000 in
theorem implIsFormula_any (r : Str) (ic : Bool) (A : Option Addr) (n c : Nat) (B : Option Addr) (m d : Nat) (vars : List Str) (terms : List Int) (w : World)
    (hv : Reads encS 1 w w.heap.size A n vars) (ht : Reads encI 1 w w.heap.size B m terms) (hr : r.length ≤ maxLen) (hvs : ∀ v ∈ vars, v.length ≤ maxLen) (hn : n ≤ maxLen) (hm : m ≤ maxLen) :
    Calls Try.prog 78 #[fval r ic A n c B m d] w fun e w' => e = .returned (.bool (isF r vars terms)) ∧ Below w.heap.size w w' := by
  have hn' : n ≤ 9223372036854775807 := hn
  have hm' : m ≤ 9223372036854775807 := hm
  have hlv := hv.len
  have hlt := ht.len
  have hb0 : Below w.heap.size w (w.alloc (.cells #[sv r, .bool ic, .slice A n c, .slice B m d] 62)) := (Below.refl _ _).alloc (Nat.le_refl _) _
  go_enter Try.func78, Try.ntmps78
  go_wp2_with fail
  refine (implIsName_any r _ hr).mono ?_
  rintro e w1 ⟨rfl, rfl⟩
  cases hN : isNm r with
  | false =>
    go_wp2_with fail
    go_ret
    exact ⟨ret_bool (by rw [isF, hN]; rfl), hb0⟩
  | true =>
    by_cases h5 : (5 : Int) < (n : Int)
    · go_wp2_with fail
      go_ret
      exact ⟨ret_bool (by rw [isF, hlv, decide_eq_false (show ¬ n ≤ 5 by omega)]; simp), hb0⟩
    by_cases h10 : (10 : Int) < (m : Int)
    · go_wp2_with fail
      go_ret
      exact ⟨ret_bool (by rw [isF, hlt, decide_eq_false (show ¬ m ≤ 10 by omega)]; simp), hb0⟩
    have hmain : isF r vars terms = (vck r none vars && tck n none terms && (used terms == 2 ^ n - 1)) := by
      rw [isF, hN, hlv, hlt, decide_eq_true (show n ≤ 5 by omega), decide_eq_true (show m ≤ 10 by omega)]; simp
    have HM := Lib.hid hmain
    have HLV := Lib.hid hlv
    have HLT := Lib.hid hlt
    clear hmain hN hlv hlt
    have hd5 : decide ((5 : Int) < (n : Int)) = false := by simp; omega
    have hd10 : decide ((10 : Int) < (m : Int)) = false := by simp; omega
    have hn5 : n ≤ 5 := by omega
    have hm10 : m ≤ 10 := by omega
    clear h5 h10
    go_wp2_with fail
    have hv0 := hv.below hb0
    have ht0 := ht.below hb0
    generalize hW : w.alloc (.cells #[sv r, .bool ic, .slice A n c, .slice B m d] 62) = W at hv0 ht0 hb0 ⊢
    have hk := Blk.new_ w 62 #[sv r, .bool ic, .slice A n c, .slice B m d]
    rw [hW] at hk
    have hc0 : W.cell? ⟨w.heap.size, 0, none⟩ = some (sv r) := hk.cell 0
    have hc2 : W.cell? ⟨w.heap.size, 2, none⟩ = some (.slice A n c) := hk.cell 2
    have hc3 : W.cell? ⟨w.heap.size, 3, none⟩ = some (.slice B m d) := hk.cell 3
    clear hW hk
    go_loop [27] (fun i => ∃ k : Nat, k ≤ n ∧ i = .int .i64 k ∧ vck r none vars = vck r (prv vars k) (vars.drop k)) (fun i => n - (intOf i).toNat)
    case atStart => exact ⟨0, by omega, rfl, rfl⟩
    case round =>
      obtain ⟨k, hk, rfl, hf⟩ := hrel
      have HF := Lib.hid hf
      clear hf
      by_cases hlt : k < n
      · obtain ⟨b, off, x, rfl, hbl, hx, hcx⟩ := hv0.atS hlt
        have hxl := hvs _ (List.mem_of_getElem? hx)
        have HD := Lib.hid (vck_drop hx r (prv vars k))
        have hbad : (isNm x && !(x == r) && okPrev Op.bytesLess (prv vars k) x) = false → isF r vars terms = false := fun h => by
          rw [HM.out, HF.out, HD.out, h]; rfl
        have HB := Lib.hid hbad
        clear hbad hx
        go_wp2_with fail
        refine (implIsName_any x _ hxl).mono ?_
        rintro e w1 ⟨rfl, rfl⟩
        cases hNx : isNm x with
        | false =>
          go_wp2_with fail
          go_ret
          exact ⟨ret_bool (HB.out (by rw [hNx]; rfl)).symm, hb0⟩
        | true =>
          cases hxr : (x == r) with
          | true =>
            go_wp2_with fail
            go_ret
            exact ⟨ret_bool (HB.out (by rw [hNx, hxr]; rfl)).symm, hb0⟩
          | false =>
            rcases Nat.eq_zero_or_pos k with h0 | h0
            · have hk00 : ¬ (0 : Int) < (k : Int) := by omega
              have hp : prv vars k = none := by rw [prv, if_pos h0]
              have HP := Lib.hid hp
              clear hp h0
              go_wp2_with fail
              go_round
              case rel => exact ⟨k + 1, by omega, by go_num, by rw [HF.out, HD.out, HP.out, hNx, hxr]; rfl⟩
              case measure => simp [intOf]; omega
            · obtain ⟨b', off', q, he, _, hq, hcq⟩ := hv0.atS (k := k - 1) (by omega)
              injection he with he; injection he with he he'
              subst he he'
              have hp : prv vars k = some q := by rw [prv, if_neg (by omega), hq]
              have HP := Lib.hid hp
              have h0' : (0 : Int) < (k : Int) := by omega
              clear hp hq
              cases hl : Op.bytesLess q x with
              | false =>
                go_wp2_with fail
                go_ret
                exact ⟨ret_bool (HB.out (by rw [hNx, hxr, HP.out, okPrev, hl]; rfl)).symm, hb0⟩
              | true =>
                go_wp2_with fail
                go_round
                case rel => exact ⟨k + 1, by omega, by go_num, by rw [HF.out, HD.out, HP.out, hNx, hxr, okPrev, hl]; rfl⟩
                case measure => simp [intOf]; omega
      · obtain rfl : k = n := by omega
        have hvok : vck r none vars = true := by rw [HF.out, List.drop_of_length_le (by rw [HLV.out]; omega)]; rfl
        have hmain : isF r vars terms = (tck k none terms && (used terms == 2 ^ k - 1)) := by rw [HM.out, hvok, Bool.true_and]
        have HM2 := Lib.hid hmain
        clear hmain hvok
        go_wp2_with fail
        clear hk hlt HF
        obtain ⟨n, rfl⟩ : ∃ n : Nat, n = k := ⟨_, rfl⟩
        obtain ⟨p, hp⟩ : ∃ p : Nat, p = 2 ^ n := ⟨_, rfl⟩
        have hp1 : 1 ≤ p := by rw [hp]; exact Nat.pos_of_ne_zero (by simp)
        have hp32 : p ≤ 32 := by
          rw [hp]
          have h := Nat.pow_le_pow_right (n := 2) (i := n) (j := 5) (by omega) hn5
          omega
        have hsh : IntKind.i64.wrap (2 ^ n) = (p : Int) := by
          rw [show (2 : Int) ^ n = ((2 ^ n : Nat) : Int) from by simp, ← hp, IntKind.wrap_i64]; omega
        have HP2 := Lib.hid hp
        clear hp
        go_loop [5, 59] (fun v i => ∃ (j u : Nat), j ≤ m ∧ u < 32 ∧ i = .int .i64 j ∧ v = .int .i64 u ∧ u = used (terms.take j) ∧ (∀ i x, i < j → terms[i]? = some x → 1 ≤ x ∧ x < p) ∧ tck n none terms = tck n (prv terms j) (terms.drop j)) (fun _ i => m - (intOf i).toNat)
        case atStart => exact ⟨0, 0, by omega, by omega, rfl, rfl, rfl, fun i x hi => by omega, rfl⟩
        case round =>
          obtain ⟨j, u, hj, hu, rfl, rfl, hus, hrng, hf⟩ := hrel
          have HU := Lib.hid hus
          have HF := Lib.hid hf
          have HRng := Lib.hid hrng
          clear hus hf hrng
          by_cases hlt : j < m
          · obtain ⟨b, off, x, rfl, hbl, hx, hcx⟩ := ht0.atI hlt
            have HD := Lib.hid (tck_drop hx n (prv terms j))
            have HX := Lib.hid hx
            clear hx
            have hbad : (decide (1 ≤ x ∧ x < (2 ^ n : Nat)) && okPrev (fun a b => tless a.toNat b.toNat) (prv terms j) x) = false → isF r vars terms = false := fun h => by
              rw [HM2.out, HF.out, HD.out, h]; rfl
            have HB := Lib.hid hbad
            clear hbad
            by_cases h1 : x < 1
            · go_wp2_with fail
              go_ret
              exact ⟨ret_bool (HB.out (by rw [decide_eq_false (by omega)]; rfl)).symm, hb0⟩
            · by_cases h2 : (p : Int) ≤ x
              · go_wp2_with fail
                go_ret
                exact ⟨ret_bool (HB.out (by rw [decide_eq_false (by rw [← HP2.out]; omega)]; rfl)).symm, hb0⟩
              · obtain ⟨y, rfl⟩ := Int.eq_ofNat_of_zero_le (show 0 ≤ x by omega)
                have hy32 : y < 32 := by omega
                have hor := i64_or_nat u y (by omega) (by omega)
                have hlt32 : u ||| y < 32 := Nat.or_lt_two_pow (n := 5) (by omega) (by omega)
                have hok : decide (1 ≤ (y : Int) ∧ (y : Int) < (2 ^ n : Nat)) = true := by rw [← HP2.out]; simp; omega
                have hus2 : u ||| y = used (terms.take (j + 1)) := by rw [used_snoc HX.out, ← HU.out]; simp
                have hrng2 : ∀ i x, i < j + 1 → terms[i]? = some x → 1 ≤ x ∧ x < (p : Int) := by
                  intro i x hi hx
                  by_cases hij : i = j
                  · subst hij; rw [HX.out] at hx; injection hx with hx; subst hx; omega
                  · exact HRng.out i x (by omega) hx
                have HOk := Lib.hid hok
                have HU2 := Lib.hid hus2
                have HR2 := Lib.hid hrng2
                clear hok hus2 hrng2
                rcases Nat.eq_zero_or_pos j with h0 | h0
                · have hk00 : ¬ (0 : Int) < (j : Int) := by omega
                  have hpv : prv terms j = none := by rw [prv, if_pos h0]
                  have HPv := Lib.hid hpv
                  clear hpv h0
                  go_wp2_with fail
                  go_round
                  case rel => exact ⟨j + 1, u ||| y, by omega, hlt32, by go_num, rfl, HU2.out, HR2.out, by rw [HF.out, HD.out, HPv.out, HOk.out]; rfl⟩
                  case measure => simp [intOf]; omega
                · obtain ⟨b', off', q, he, _, hq, hcq⟩ := ht0.atI (k := j - 1) (by omega)
                  injection he with he; injection he with he he'
                  subst he he'
                  have hq1 := HRng.out (j - 1) q (by omega) hq
                  obtain ⟨z, rfl⟩ := Int.eq_ofNat_of_zero_le (show 0 ≤ q by omega)
                  have hpv : prv terms j = some (z : Int) := by rw [prv, if_neg (by omega), hq]
                  have HPv := Lib.hid hpv
                  have h0' : (0 : Int) < (j : Int) := by omega
                  clear hpv hq
                  go_wp2_with fail
                  refine (termLess_any z y _ (by omega) (by omega)).mono ?_
                  rintro e w1 ⟨rfl, rfl⟩
                  cases hl : tless z y with
                  | false =>
                    go_wp2_with fail
                    go_ret
                    exact ⟨ret_bool (HB.out (by rw [HOk.out, HPv.out, okPrev]; simpa using hl)).symm, hb0⟩
                  | true =>
                    go_wp2_with fail
                    go_round
                    case rel => exact ⟨j + 1, u ||| y, by omega, hlt32, by go_num, rfl, HU2.out, HR2.out, by rw [HF.out, HD.out, HPv.out, HOk.out, okPrev]; simp [hl]⟩
                    case measure => simp [intOf]; omega
          · obtain rfl : j = m := by omega
            have htok : tck n none terms = true := by rw [HF.out, List.drop_of_length_le (by rw [HLT.out]; omega)]; rfl
            have hfin : isF r vars terms = ((u : Int) == (p : Int) - 1) := by
              rw [HM2.out, htok, HP2.out.symm, HU.out, List.take_of_length_le (by rw [HLT.out]; omega), Bool.true_and, Bool.eq_iff_iff]
              simp; omega
            have HFi := Lib.hid hfin
            clear hfin htok
            go_wp2_with fail
            go_ret
            exact ⟨ret_bool (by rw [HFi.out]), hb0⟩
end Go.Proofs.Ytecebamhenlnoaa
