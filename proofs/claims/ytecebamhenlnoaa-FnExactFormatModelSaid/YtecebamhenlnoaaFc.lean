/- Syntactic names: what IsSyntacticName of the reference returns; FormatName of both. -/
import Derived.Test.YtecebamhenlnoaaFb
namespace Go.Proofs.Ytecebamhenlnoaa
open Go.RowKit
def fstOK : Str → Bool
  | [] => true
  | c :: _ => isL c || c.toNat == 46
def sndD : Str → Bool
  | d :: _ => isD d
  | [] => false
theorem hd_cons (c : UInt8) (t : Str) : hdOK (c :: t) = ((isL c || c.toNat == 46) && !(c.toNat == 46 && sndD t)) := by cases t <;> rfl
theorem fst_hd {s : Str} (h : fstOK s = false) : hdOK s = false := by
  cases s with
  | nil => cases h
  | cons c t => simp only [fstOK] at h; simp only [hdOK, h]; rfl
theorem fst_at {s : Str} {c : UInt8} (h : s[0]? = some c) : fstOK s = (isL c || c.toNat == 46) := by
  cases s with
  | nil => simp at h
  | cons d t => simp at h; subst h; rfl
set_option maxHeartbeats 4000000 in
theorem specIsSyn_any (s : Str) (w : World) (hs : s.length ≤ maxLen) :
    Calls Try.prog 75 #[sv s] w fun e w' => e = .returned (.bool (isSyn s)) ∧ Below w.heap.size w w' := by
  have hs' : s.length ≤ 9223372036854775807 := hs
  go_enter Try.func75, Try.ntmps75
  go_wp2_with fail
  go_loop [3] (fun i => ∃ k : Nat, k ≤ s.length ∧ i = .int .i64 k ∧ (s.take k).all synB = true ∧ (0 < k → fstOK s = true)) (fun i => s.length - (intOf i).toNat)
  case atStart => exact ⟨0, by omega, rfl, by simp, by simp⟩
  case round =>
    obtain ⟨k, hk, rfl, hf, hf0⟩ := hrel
    have HF := Lib.hid hf
    have HF0 := Lib.hid hf0
    have HNo := Lib.hid (fun h => isSyn_no (s := s) h)
    clear hf hf0
    by_cases hlt : k < s.length
    · have HX := Lib.hid (List.getElem?_eq_getElem hlt)
      have hfst : k = 0 → fstOK s = (isL s[k] || s[k].toNat == 46) := fun h0 => by
        subst h0
        exact fst_at HX.out
      have HFst := Lib.hid hfst
      clear hfst
      go_wp2_with fail
      refine (l1Letter_any s[k] _).mono ?_
      rintro e w1 ⟨rfl, rfl⟩
      cases hL1 : isL s[k] with
      | true =>
        go_wp2_with fail
        go_round
        case rel => exact ⟨k + 1, by omega, by go_num, all_snoc HX.out HF.out (by simp [synB, hL1]), fun _ => by
            rcases Nat.eq_zero_or_pos k with h0 | h0
            · rw [HFst.out h0, hL1]; rfl
            · exact HF0.out h0⟩
        case measure => simp [intOf]; omega
      | false =>
        cases h46 : (s[k].toNat == 46) with
        | true =>
          have h46' : ((s[k].toNat : Int) != 46) = false := dot_bne s[k] 46 _ h46
          have H46 := Lib.hid h46
          clear h46
          go_wp2_with fail
          go_round
          case rel => exact ⟨k + 1, by omega, by go_num, all_snoc HX.out HF.out (by simp [synB, H46.out]), fun _ => by
              rcases Nat.eq_zero_or_pos k with h0 | h0
              · rw [HFst.out h0, H46.out]; simp
              · exact HF0.out h0⟩
          case measure => simp [intOf]; omega
        | false =>
          have h46' : ((s[k].toNat : Int) != 46) = true := dot_bne s[k] 46 _ h46
          have H46 := Lib.hid h46
          clear h46
          rcases Nat.eq_zero_or_pos k with h0 | h0
          · have hbad : fstOK s = false := by rw [HFst.out h0, hL1, H46.out]; rfl
            have HB := Lib.hid hbad
            have hk0 : ((k : Int) == 0) = true := by simp; omega
            clear hbad h0
            go_wp2_with fail
            go_ret
            exact ⟨ret_bool (HNo.out (.inr (.inr (.inr (fst_hd HB.out))))).symm, Below.refl _ _⟩
          · have hk0 : ((k : Int) == 0) = false := by simp; omega
            go_wp2_with fail
            refine (l1Digit_any s[k] _).mono ?_
            rintro e w1 ⟨rfl, rfl⟩
            cases hD1 : isD s[k] with
            | true =>
              go_wp2_with fail
              go_round
              case rel => exact ⟨k + 1, by omega, by go_num, all_snoc HX.out HF.out (by simp [synB, hD1]), fun _ => HF0.out h0⟩
              case measure => simp [intOf]; omega
            | false =>
              cases h95 : (s[k].toNat == 95) with
              | true =>
                have h95' : ((s[k].toNat : Int) != 95) = false := dot_bne s[k] 95 _ h95
                have H95 := Lib.hid h95
                clear h95
                go_wp2_with fail
                go_round
                case rel => exact ⟨k + 1, by omega, by go_num, all_snoc HX.out HF.out (by simp [synB, H95.out]), fun _ => HF0.out h0⟩
                case measure => simp [intOf]; omega
              | false =>
                have h95' : ((s[k].toNat : Int) != 95) = true := dot_bne s[k] 95 _ h95
                have hbad : synB s[k] = false := by simp only [synB, hL1, hD1, H46.out, h95]; rfl
                have HB := Lib.hid hbad
                clear hbad h95
                go_wp2_with fail
                go_ret
                exact ⟨ret_bool (HNo.out (.inr (.inr (.inl (all_bad HX.out HB.out))))).symm, Below.refl _ _⟩
    · obtain rfl : k = s.length := by omega
      have hall : s.all synB = true := by have := HF.out; rwa [List.take_length] at this
      have HA := Lib.hid hall
      clear hall
      go_wp2_with fail
      refine (specIsName_any s _ hs).mono ?_
      rintro e w1 ⟨rfl, rfl⟩
      cases hN : isNm s with
      | false =>
        go_wp2_with fail
        go_ret
        exact ⟨ret_bool (HNo.out (.inl hN)).symm, Below.refl _ _⟩
      | true =>
        have hl := isNm_len hN
        go_wp2_with fail
        refine (l1Reserved_any s _).mono ?_
        rintro e w1 ⟨rfl, hb1⟩
        cases hR : isRes s with
        | true =>
          go_wp2_with fail
          go_ret
          exact ⟨ret_bool (HNo.out (.inr (.inl hR))).symm, hb1⟩
        | false =>
          have hmain : isSyn s = hdOK s := by unfold isSyn; rw [hN, hR, HA.out]; simp
          have hfo := HF0.out (by omega)
          obtain ⟨c0, t, rfl⟩ : ∃ c t, s = c :: t := by cases s with | nil => simp at hl | cons c t => exact ⟨c, t, rfl⟩
          simp only [fstOK] at hfo
          have hmain2 : isSyn (c0 :: t) = !(c0.toNat == 46 && sndD t) := by rw [hmain, hd_cons, hfo, Bool.true_and]
          have HM := Lib.hid hmain2
          clear hmain hmain2 hN hR hfo HF HF0 HNo HA
          simp only [List.length_cons] at hl
          have l0 : (0 : Int) < (t.length : Int) + 1 := by omega
          cases hd : (c0.toNat == 46) with
          | false =>
            have hd' : ((c0.toNat : Int) != 46) = true := dot_bne c0 46 _ hd
            have hres : isSyn (c0 :: t) = true := by rw [HM.out, hd]; rfl
            have HR := Lib.hid hres
            clear hres hd
            go_wp2_with fail
            go_ret
            exact ⟨ret_bool HR.out.symm, hb1⟩
          | true =>
            have hd' : ((c0.toNat : Int) != 46) = false := dot_bne c0 46 _ hd
            cases t with
            | nil =>
              have hres : isSyn [c0] = true := by rw [HM.out, hd]; rfl
              have HR := Lib.hid hres
              clear hres hd
              go_wp2_with fail
              go_ret
              exact ⟨ret_bool HR.out.symm, hb1⟩
            | cons c1 u =>
              have hres : isSyn (c0 :: c1 :: u) = !isD c1 := by rw [HM.out, hd]; rfl
              have HR := Lib.hid hres
              clear hres hd
              have hlu : (1 : Int) < (u.length : Int) + 1 + 1 := by omega
              have hlu2 : (((u.length : Int) + 1 + 1) == 1) = false := by simp; omega
              go_wp2_with fail
              refine (l1Digit_any c1 _).mono ?_
              rintro e w2 ⟨rfl, rfl⟩
              cases hD : isD c1 with
              | true =>
                go_wp2_with fail
                go_ret
                exact ⟨ret_bool (by rw [HR.out, hD]; rfl), hb1⟩
              | false =>
                go_wp2_with fail
                go_ret
                exact ⟨ret_bool (by rw [HR.out, hD]; rfl), hb1⟩
def fmtN (s : Str) : Str := if isSyn s then s else if isNm s then 96 :: (s ++ [96]) else []
theorem isSyn_nm {s : Str} (h : isSyn s = true) : isNm s = true := by
  unfold isSyn at h; simp only [Bool.and_eq_true] at h; exact h.1.1.1
theorem implFormatName_any (s : Str) (w : World) (hs : s.length ≤ maxLen) :
    Calls Try.prog 101 #[sv s] w fun e w' => e = .returned (sv (fmtN s)) ∧ w = w' := by
  go_enter Try.func101, Try.ntmps101
  go_wp2_with fail
  refine (implIsSyn_any s _ hs).mono ?_
  rintro e w1 ⟨rfl, rfl⟩
  cases hS : isSyn s with
  | true =>
    go_wp2_with fail
    go_ret
    exact ⟨ret_str (by rw [fmtN, hS]; rfl), rfl⟩
  | false =>
    go_wp2_with fail
    refine (implIsName_any s _ hs).mono ?_
    rintro e w1 ⟨rfl, rfl⟩
    cases hN : isNm s with
    | false =>
      go_wp2_with fail
      go_ret
      exact ⟨ret_str (by rw [fmtN, hS, hN]; rfl), rfl⟩
    | true =>
      have hl := isNm_len hN
      go_wp2_with fail
      go_ret
      exact ⟨ret_str (by rw [fmtN, hS, hN]; rfl), rfl⟩
theorem specFormatName_any (s : Str) (w : World) (hs : s.length ≤ maxLen) :
    Calls Try.prog 92 #[sv s] w fun e w' => e = .returned (sv (fmtN s)) ∧ Below w.heap.size w w' := by
  go_enter Try.func92, Try.ntmps92
  go_wp2_with fail
  refine (specIsName_any s _ hs).mono ?_
  rintro e w1 ⟨rfl, rfl⟩
  cases hN : isNm s with
  | false =>
    have hS : isSyn s = false := by
      cases h : isSyn s with
      | false => rfl
      | true => rw [isSyn_nm h] at hN; cases hN
    go_wp2_with fail
    go_ret
    exact ⟨ret_str (by rw [fmtN, hS, hN]; rfl), Below.refl _ _⟩
  | true =>
    have hl := isNm_len hN
    go_wp2_with fail
    refine (specIsSyn_any s _ hs).mono ?_
    rintro e w1 ⟨rfl, hb1⟩
    cases hS : isSyn s with
    | true =>
      go_wp2_with fail
      go_ret
      exact ⟨ret_str (by rw [fmtN, hS]; rfl), hb1⟩
    | false =>
      go_wp2_with fail
      go_ret
      exact ⟨ret_str (by rw [fmtN, hS, hN]; rfl), hb1⟩
end Go.Proofs.Ytecebamhenlnoaa
