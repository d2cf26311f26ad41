/- Syntactic names: what IsSyntacticName and FormatName of the program and of the reference return. Syntactic names: what IsSyntacticName of the reference returns; FormatName of both. Items and labels as texts: what formatItem, formatLabel, joinTexts and their kin return. Vectors of texts: what TextVector returns for a few short texts. -/
import Derived.Test.YtekcpadlmfaihaaJI
import Derived.Test.YtekcpadlmfaihaaJF
import Derived.Test.YtekcpadlmfaihaaJH
set_option linter.unusedSimpArgs false
set_option linter.unusedVariables false
namespace Go.Proofs.Ytekcpadlmfaihaa
open Go.RowKit
theorem dot_beq (c : UInt8) (n : Nat) (b : Bool) (h : (c.toNat == n) = b) : (((c.toNat : Int)) == (n : Int)) = b := by
  rw [← h, Bool.eq_iff_iff]; simp; omega
theorem dot_bne (c : UInt8) (n : Nat) (b : Bool) (h : (c.toNat == n) = b) : (((c.toNat : Int)) != (n : Int)) = !b := by
  rw [← h, bne, dot_beq c n _ rfl]
set_option maxHeartbeats 4000000 in
theorem implIsSyn_any (s : Str) (w : World) (hs : s.length ≤ maxLen) :
    Calls Try.prog 89 #[sv s] w fun e w' => e = .returned (.bool (isSyn s)) ∧ w = w' := by
  go_enter Try.func89, Try.ntmps89
  go_wp2_with fail
  refine (implIsName_any s _ hs).mono ?_
  rintro e w1 ⟨rfl, rfl⟩
  cases hN : isNm s with
  | false =>
    go_wp2_with fail
    go_ret
    exact ⟨ret_bool (isSyn_no (.inl hN)).symm, rfl⟩
  | true =>
    have hl := isNm_len hN
    go_wp2_with fail
    refine (isReserved_any s _).mono ?_
    rintro e w1 ⟨rfl, rfl⟩
    cases hR : isRes s with
    | true =>
      go_wp2_with fail
      go_ret
      exact ⟨ret_bool (isSyn_no (.inr (.inl hR))).symm, rfl⟩
    | false =>
      obtain ⟨c0, t, rfl⟩ : ∃ c t, s = c :: t := by cases s with | nil => simp at hl | cons c t => exact ⟨c, t, rfl⟩
      have hmain : isSyn (c0 :: t) = ((c0 :: t).all synB && hdOK (c0 :: t)) := by unfold isSyn; rw [hN, hR]; simp
      have HM := Lib.hid hmain
      have HNo := Lib.hid (fun h => isSyn_no (s := c0 :: t) h)
      clear hmain hN hR hs
      simp only [List.length_cons] at hl
      have l0 : (0 : Int) < (t.length : Int) + 1 := by omega
      go_wp2_with fail
      refine (isLetter_any c0 _).mono ?_
      rintro e w1 ⟨rfl, rfl⟩
      cases hL : isL c0 with
      | false =>
        cases hd : (c0.toNat == 46) with
        | false =>
          have hd' : ((c0.toNat : Int) != 46) = true := dot_bne c0 46 _ hd
          have hh : hdOK (c0 :: t) = false := by simp only [hdOK, hL, hd]; rfl
          have HH := Lib.hid hh
          clear hh hd
          go_wp2_with fail
          go_ret
          exact ⟨ret_bool (HNo.out (.inr (.inr (.inr HH.out)))).symm, rfl⟩
        | true =>
          have hd' : ((c0.toNat : Int) != 46) = false := dot_bne c0 46 _ hd
          have hd2 : ((c0.toNat : Int) == 46) = true := dot_beq c0 46 _ hd
          cases t with
          | nil =>
            have hh : hdOK [c0] = true := by simp only [hdOK, hL, hd]; rfl
            have HH := Lib.hid hh
            clear hh hL hd
            go_wp2_with fail
            have hkey : ∀ s : Str, s = c0 :: [] → (s.all synB = true → isSyn (c0 :: []) = true) ∧ (s.all synB = false → isSyn (c0 :: []) = false) ∧ s.length ≤ 20 := by
              rintro s rfl
              refine ⟨fun h => ?_, fun h => HNo.out (.inr (.inr (.inl h))), ?_⟩
              · rw [HM.out, h, HH.out]; rfl
              · simp only [List.length_cons] at hl ⊢; omega
            obtain ⟨s, hss⟩ : ∃ s : Str, s = c0 :: [] := ⟨_, rfl⟩
            have HK := Lib.hid (hkey s hss)
            rw [← hss]
            have hlen := HK.out.2.2
            clear hss hkey
            have hlen' : (s.length : Int) ≤ 20 := by omega
            go_loop [3] (fun i => ∃ k : Nat, k ≤ s.length ∧ i = .int .i64 k ∧ (s.take k).all synB = true) (fun i => s.length - (intOf i).toNat)
            case atStart => exact ⟨0, by omega, rfl, by simp⟩
            case round =>
              obtain ⟨k, hk, rfl, hf⟩ := hrel
              have HF := Lib.hid hf
              clear hf
              by_cases hlt : k < s.length
              · have HX := Lib.hid (List.getElem?_eq_getElem hlt)
                go_wp2_with fail
                refine (isLetter_any s[k] _).mono ?_
                rintro e w1 ⟨rfl, rfl⟩
                cases hL1 : isL s[k] with
                | true =>
                  go_wp2_with fail
                  go_round
                  case rel => exact ⟨k + 1, by omega, by go_num, all_snoc HX.out HF.out (by simp [synB, hL1])⟩
                  case measure => simp [intOf]; omega
                | false =>
                  go_wp2_with fail
                  refine (isDigit_any s[k] _).mono ?_
                  rintro e w1 ⟨rfl, rfl⟩
                  cases hD1 : isD s[k] with
                  | true =>
                    go_wp2_with fail
                    go_round
                    case rel => exact ⟨k + 1, by omega, by go_num, all_snoc HX.out HF.out (by simp [synB, hD1])⟩
                    case measure => simp [intOf]; omega
                  | false =>
                    cases h46 : (s[k].toNat == 46) with
                    | true =>
                      have h46' : ((s[k].toNat : Int) != 46) = false := dot_bne s[k] 46 _ h46
                      have H46 := Lib.hid h46
                      clear h46
                      go_wp2_with fail
                      go_round
                      case rel => exact ⟨k + 1, by omega, by go_num, all_snoc HX.out HF.out (by simp [synB, H46.out])⟩
                      case measure => simp [intOf]; omega
                    | false =>
                      have h46' : ((s[k].toNat : Int) != 46) = true := dot_bne s[k] 46 _ h46
                      cases h95 : (s[k].toNat == 95) with
                      | true =>
                        have h95' : ((s[k].toNat : Int) != 95) = false := dot_bne s[k] 95 _ h95
                        have H95 := Lib.hid h95
                        clear h95 h46
                        go_wp2_with fail
                        go_round
                        case rel => exact ⟨k + 1, by omega, by go_num, all_snoc HX.out HF.out (by simp [synB, H95.out])⟩
                        case measure => simp [intOf]; omega
                      | false =>
                        have h95' : ((s[k].toNat : Int) != 95) = true := dot_bne s[k] 95 _ h95
                        have hbad : synB s[k] = false := by simp only [synB, hL1, hD1, h46, h95]; rfl
                        have HB := Lib.hid hbad
                        clear hbad h46 h95
                        go_wp2_with fail
                        go_ret
                        exact ⟨ret_bool (HK.out.2.1 (all_bad HX.out HB.out)).symm, rfl⟩
              · obtain rfl : k = s.length := by omega
                go_wp2_with fail
                go_ret
                refine ⟨ret_bool ?_, rfl⟩
                have := HF.out
                rw [List.take_length] at this
                exact (HK.out.1 this).symm
          | cons c1 u =>
            have hlu : (1 : Int) < (u.length : Int) + 1 + 1 := by omega
            go_wp2_with fail
            refine (isDigit_any c1 _).mono ?_
            rintro e w1 ⟨rfl, rfl⟩
            cases hD : isD c1 with
            | true =>
              have hh : hdOK (c0 :: c1 :: u) = false := by simp only [hdOK, hL, hd, hD]; rfl
              have HH := Lib.hid hh
              clear hh hd
              go_wp2_with fail
              go_ret
              exact ⟨ret_bool (HNo.out (.inr (.inr (.inr HH.out)))).symm, rfl⟩
            | false =>
              have hh : hdOK (c0 :: c1 :: u) = true := by simp only [hdOK, hL, hd, hD]; rfl
              have HH := Lib.hid hh
              clear hh hL hd
              go_wp2_with fail
              have hkey : ∀ s : Str, s = c0 :: (c1 :: u) → (s.all synB = true → isSyn (c0 :: (c1 :: u)) = true) ∧ (s.all synB = false → isSyn (c0 :: (c1 :: u)) = false) ∧ s.length ≤ 20 := by
                rintro s rfl
                refine ⟨fun h => ?_, fun h => HNo.out (.inr (.inr (.inl h))), ?_⟩
                · rw [HM.out, h, HH.out]; rfl
                · simp only [List.length_cons] at hl ⊢; omega
              obtain ⟨s, hss⟩ : ∃ s : Str, s = c0 :: (c1 :: u) := ⟨_, rfl⟩
              have HK := Lib.hid (hkey s hss)
              rw [← hss]
              have hlen := HK.out.2.2
              clear hss hkey
              have hlen' : (s.length : Int) ≤ 20 := by omega
              go_loop [3] (fun i => ∃ k : Nat, k ≤ s.length ∧ i = .int .i64 k ∧ (s.take k).all synB = true) (fun i => s.length - (intOf i).toNat)
              case atStart => exact ⟨0, by omega, rfl, by simp⟩
              case round =>
                obtain ⟨k, hk, rfl, hf⟩ := hrel
                have HF := Lib.hid hf
                clear hf
                by_cases hlt : k < s.length
                · have HX := Lib.hid (List.getElem?_eq_getElem hlt)
                  go_wp2_with fail
                  refine (isLetter_any s[k] _).mono ?_
                  rintro e w1 ⟨rfl, rfl⟩
                  cases hL1 : isL s[k] with
                  | true =>
                    go_wp2_with fail
                    go_round
                    case rel => exact ⟨k + 1, by omega, by go_num, all_snoc HX.out HF.out (by simp [synB, hL1])⟩
                    case measure => simp [intOf]; omega
                  | false =>
                    go_wp2_with fail
                    refine (isDigit_any s[k] _).mono ?_
                    rintro e w1 ⟨rfl, rfl⟩
                    cases hD1 : isD s[k] with
                    | true =>
                      go_wp2_with fail
                      go_round
                      case rel => exact ⟨k + 1, by omega, by go_num, all_snoc HX.out HF.out (by simp [synB, hD1])⟩
                      case measure => simp [intOf]; omega
                    | false =>
                      cases h46 : (s[k].toNat == 46) with
                      | true =>
                        have h46' : ((s[k].toNat : Int) != 46) = false := dot_bne s[k] 46 _ h46
                        have H46 := Lib.hid h46
                        clear h46
                        go_wp2_with fail
                        go_round
                        case rel => exact ⟨k + 1, by omega, by go_num, all_snoc HX.out HF.out (by simp [synB, H46.out])⟩
                        case measure => simp [intOf]; omega
                      | false =>
                        have h46' : ((s[k].toNat : Int) != 46) = true := dot_bne s[k] 46 _ h46
                        cases h95 : (s[k].toNat == 95) with
                        | true =>
                          have h95' : ((s[k].toNat : Int) != 95) = false := dot_bne s[k] 95 _ h95
                          have H95 := Lib.hid h95
                          clear h95 h46
                          go_wp2_with fail
                          go_round
                          case rel => exact ⟨k + 1, by omega, by go_num, all_snoc HX.out HF.out (by simp [synB, H95.out])⟩
                          case measure => simp [intOf]; omega
                        | false =>
                          have h95' : ((s[k].toNat : Int) != 95) = true := dot_bne s[k] 95 _ h95
                          have hbad : synB s[k] = false := by simp only [synB, hL1, hD1, h46, h95]; rfl
                          have HB := Lib.hid hbad
                          clear hbad h46 h95
                          go_wp2_with fail
                          go_ret
                          exact ⟨ret_bool (HK.out.2.1 (all_bad HX.out HB.out)).symm, rfl⟩
                · obtain rfl : k = s.length := by omega
                  go_wp2_with fail
                  go_ret
                  refine ⟨ret_bool ?_, rfl⟩
                  have := HF.out
                  rw [List.take_length] at this
                  exact (HK.out.1 this).symm
      | true =>
        have hne : (c0.toNat == 46) = false := by
          have := hL
          simp [isL] at this
          simp; omega
        have hd2 : ((c0.toNat : Int) == 46) = false := dot_beq c0 46 _ hne
        have hh : hdOK (c0 :: t) = true := by simp only [hdOK, hL, hne]; rfl
        have HH := Lib.hid hh
        clear hh hL hne
        go_wp2_with fail
        have hkey : ∀ s : Str, s = c0 :: t → (s.all synB = true → isSyn (c0 :: t) = true) ∧ (s.all synB = false → isSyn (c0 :: t) = false) ∧ s.length ≤ 20 := by
          rintro s rfl
          refine ⟨fun h => ?_, fun h => HNo.out (.inr (.inr (.inl h))), ?_⟩
          · rw [HM.out, h, HH.out]; rfl
          · simp only [List.length_cons] at hl ⊢; omega
        obtain ⟨s, hss⟩ : ∃ s : Str, s = c0 :: t := ⟨_, rfl⟩
        have HK := Lib.hid (hkey s hss)
        rw [← hss]
        have hlen := HK.out.2.2
        clear hss hkey
        have hlen' : (s.length : Int) ≤ 20 := by omega
        go_loop [3] (fun i => ∃ k : Nat, k ≤ s.length ∧ i = .int .i64 k ∧ (s.take k).all synB = true) (fun i => s.length - (intOf i).toNat)
        case atStart => exact ⟨0, by omega, rfl, by simp⟩
        case round =>
          obtain ⟨k, hk, rfl, hf⟩ := hrel
          have HF := Lib.hid hf
          clear hf
          by_cases hlt : k < s.length
          · have HX := Lib.hid (List.getElem?_eq_getElem hlt)
            go_wp2_with fail
            refine (isLetter_any s[k] _).mono ?_
            rintro e w1 ⟨rfl, rfl⟩
            cases hL1 : isL s[k] with
            | true =>
              go_wp2_with fail
              go_round
              case rel => exact ⟨k + 1, by omega, by go_num, all_snoc HX.out HF.out (by simp [synB, hL1])⟩
              case measure => simp [intOf]; omega
            | false =>
              go_wp2_with fail
              refine (isDigit_any s[k] _).mono ?_
              rintro e w1 ⟨rfl, rfl⟩
              cases hD1 : isD s[k] with
              | true =>
                go_wp2_with fail
                go_round
                case rel => exact ⟨k + 1, by omega, by go_num, all_snoc HX.out HF.out (by simp [synB, hD1])⟩
                case measure => simp [intOf]; omega
              | false =>
                cases h46 : (s[k].toNat == 46) with
                | true =>
                  have h46' : ((s[k].toNat : Int) != 46) = false := dot_bne s[k] 46 _ h46
                  have H46 := Lib.hid h46
                  clear h46
                  go_wp2_with fail
                  go_round
                  case rel => exact ⟨k + 1, by omega, by go_num, all_snoc HX.out HF.out (by simp [synB, H46.out])⟩
                  case measure => simp [intOf]; omega
                | false =>
                  have h46' : ((s[k].toNat : Int) != 46) = true := dot_bne s[k] 46 _ h46
                  cases h95 : (s[k].toNat == 95) with
                  | true =>
                    have h95' : ((s[k].toNat : Int) != 95) = false := dot_bne s[k] 95 _ h95
                    have H95 := Lib.hid h95
                    clear h95 h46
                    go_wp2_with fail
                    go_round
                    case rel => exact ⟨k + 1, by omega, by go_num, all_snoc HX.out HF.out (by simp [synB, H95.out])⟩
                    case measure => simp [intOf]; omega
                  | false =>
                    have h95' : ((s[k].toNat : Int) != 95) = true := dot_bne s[k] 95 _ h95
                    have hbad : synB s[k] = false := by simp only [synB, hL1, hD1, h46, h95]; rfl
                    have HB := Lib.hid hbad
                    clear hbad h46 h95
                    go_wp2_with fail
                    go_ret
                    exact ⟨ret_bool (HK.out.2.1 (all_bad HX.out HB.out)).symm, rfl⟩
          · obtain rfl : k = s.length := by omega
            go_wp2_with fail
            go_ret
            refine ⟨ret_bool ?_, rfl⟩
            have := HF.out
            rw [List.take_length] at this
            exact (HK.out.1 this).symm
end Go.Proofs.Ytekcpadlmfaihaa
namespace Go.Proofs.Ytekcpadlmfaihaa
open Go.RowKit
def fstOK : Str → Bool
  | [] => true
  | c :: _ => isL c || c.toNat == 46
def sndD : Str → Bool
  | d :: _ => isD d
  | [] => false
theorem hd_cons (c : UInt8) (t : Str) : hdOK (c :: t) = ((isL c || c.toNat == 46) && !(c.toNat == 46 && sndD t)) := by cases t <;> rfl
theorem fst_hd {s : Str} (h : fstOK s = false) : hdOK s = false := by
  cases s with
  | nil => cases h
  | cons c t => simp only [fstOK] at h; simp only [hdOK, h]; rfl
theorem fst_at {s : Str} {c : UInt8} (h : s[0]? = some c) : fstOK s = (isL c || c.toNat == 46) := by
  cases s with
  | nil => simp at h
  | cons d t => simp at h; subst h; rfl
set_option maxHeartbeats 4000000 in
theorem specIsSyn_any (s : Str) (w : World) (hs : s.length ≤ maxLen) :
    Calls Try.prog 87 #[sv s] w fun e w' => e = .returned (.bool (isSyn s)) ∧ Below w.heap.size w w' := by
  have hs' : s.length ≤ 9223372036854775807 := hs
  go_enter Try.func87, Try.ntmps87
  go_wp2_with fail
  go_loop [3] (fun i => ∃ k : Nat, k ≤ s.length ∧ i = .int .i64 k ∧ (s.take k).all synB = true ∧ (0 < k → fstOK s = true)) (fun i => s.length - (intOf i).toNat)
  case atStart => exact ⟨0, by omega, rfl, by simp, by simp⟩
  case round =>
    obtain ⟨k, hk, rfl, hf, hf0⟩ := hrel
    have HF := Lib.hid hf
    have HF0 := Lib.hid hf0
    have HNo := Lib.hid (fun h => isSyn_no (s := s) h)
    clear hf hf0
    by_cases hlt : k < s.length
    · have HX := Lib.hid (List.getElem?_eq_getElem hlt)
      have hfst : k = 0 → fstOK s = (isL s[k] || s[k].toNat == 46) := fun h0 => by
        subst h0
        exact fst_at HX.out
      have HFst := Lib.hid hfst
      clear hfst
      go_wp2_with fail
      refine (l1Letter_any s[k] _).mono ?_
      rintro e w1 ⟨rfl, rfl⟩
      cases hL1 : isL s[k] with
      | true =>
        go_wp2_with fail
        go_round
        case rel => exact ⟨k + 1, by omega, by go_num, all_snoc HX.out HF.out (by simp [synB, hL1]), fun _ => by
            rcases Nat.eq_zero_or_pos k with h0 | h0
            · rw [HFst.out h0, hL1]; rfl
            · exact HF0.out h0⟩
        case measure => simp [intOf]; omega
      | false =>
        cases h46 : (s[k].toNat == 46) with
        | true =>
          have h46' : ((s[k].toNat : Int) != 46) = false := dot_bne s[k] 46 _ h46
          have H46 := Lib.hid h46
          clear h46
          go_wp2_with fail
          go_round
          case rel => exact ⟨k + 1, by omega, by go_num, all_snoc HX.out HF.out (by simp [synB, H46.out]), fun _ => by
              rcases Nat.eq_zero_or_pos k with h0 | h0
              · rw [HFst.out h0, H46.out]; simp
              · exact HF0.out h0⟩
          case measure => simp [intOf]; omega
        | false =>
          have h46' : ((s[k].toNat : Int) != 46) = true := dot_bne s[k] 46 _ h46
          have H46 := Lib.hid h46
          clear h46
          rcases Nat.eq_zero_or_pos k with h0 | h0
          · have hbad : fstOK s = false := by rw [HFst.out h0, hL1, H46.out]; rfl
            have HB := Lib.hid hbad
            have hk0 : ((k : Int) == 0) = true := by simp; omega
            clear hbad h0
            go_wp2_with fail
            go_ret
            exact ⟨ret_bool (HNo.out (.inr (.inr (.inr (fst_hd HB.out))))).symm, Below.refl _ _⟩
          · have hk0 : ((k : Int) == 0) = false := by simp; omega
            go_wp2_with fail
            refine (l1Digit_any s[k] _).mono ?_
            rintro e w1 ⟨rfl, rfl⟩
            cases hD1 : isD s[k] with
            | true =>
              go_wp2_with fail
              go_round
              case rel => exact ⟨k + 1, by omega, by go_num, all_snoc HX.out HF.out (by simp [synB, hD1]), fun _ => HF0.out h0⟩
              case measure => simp [intOf]; omega
            | false =>
              cases h95 : (s[k].toNat == 95) with
              | true =>
                have h95' : ((s[k].toNat : Int) != 95) = false := dot_bne s[k] 95 _ h95
                have H95 := Lib.hid h95
                clear h95
                go_wp2_with fail
                go_round
                case rel => exact ⟨k + 1, by omega, by go_num, all_snoc HX.out HF.out (by simp [synB, H95.out]), fun _ => HF0.out h0⟩
                case measure => simp [intOf]; omega
              | false =>
                have h95' : ((s[k].toNat : Int) != 95) = true := dot_bne s[k] 95 _ h95
                have hbad : synB s[k] = false := by simp only [synB, hL1, hD1, H46.out, h95]; rfl
                have HB := Lib.hid hbad
                clear hbad h95
                go_wp2_with fail
                go_ret
                exact ⟨ret_bool (HNo.out (.inr (.inr (.inl (all_bad HX.out HB.out))))).symm, Below.refl _ _⟩
    · obtain rfl : k = s.length := by omega
      have hall : s.all synB = true := by have := HF.out; rwa [List.take_length] at this
      have HA := Lib.hid hall
      clear hall
      go_wp2_with fail
      refine (specIsName_any s _ hs).mono ?_
      rintro e w1 ⟨rfl, rfl⟩
      cases hN : isNm s with
      | false =>
        go_wp2_with fail
        go_ret
        exact ⟨ret_bool (HNo.out (.inl hN)).symm, Below.refl _ _⟩
      | true =>
        have hl := isNm_len hN
        go_wp2_with fail
        refine (l1Reserved_any s _).mono ?_
        rintro e w1 ⟨rfl, hb1⟩
        cases hR : isRes s with
        | true =>
          go_wp2_with fail
          go_ret
          exact ⟨ret_bool (HNo.out (.inr (.inl hR))).symm, hb1⟩
        | false =>
          have hmain : isSyn s = hdOK s := by unfold isSyn; rw [hN, hR, HA.out]; simp
          have hfo := HF0.out (by omega)
          obtain ⟨c0, t, rfl⟩ : ∃ c t, s = c :: t := by cases s with | nil => simp at hl | cons c t => exact ⟨c, t, rfl⟩
          simp only [fstOK] at hfo
          have hmain2 : isSyn (c0 :: t) = !(c0.toNat == 46 && sndD t) := by rw [hmain, hd_cons, hfo, Bool.true_and]
          have HM := Lib.hid hmain2
          clear hmain hmain2 hN hR hfo HF HF0 HNo HA
          simp only [List.length_cons] at hl
          have l0 : (0 : Int) < (t.length : Int) + 1 := by omega
          cases hd : (c0.toNat == 46) with
          | false =>
            have hd' : ((c0.toNat : Int) != 46) = true := dot_bne c0 46 _ hd
            have hres : isSyn (c0 :: t) = true := by rw [HM.out, hd]; rfl
            have HR := Lib.hid hres
            clear hres hd
            go_wp2_with fail
            go_ret
            exact ⟨ret_bool HR.out.symm, hb1⟩
          | true =>
            have hd' : ((c0.toNat : Int) != 46) = false := dot_bne c0 46 _ hd
            cases t with
            | nil =>
              have hres : isSyn [c0] = true := by rw [HM.out, hd]; rfl
              have HR := Lib.hid hres
              clear hres hd
              go_wp2_with fail
              go_ret
              exact ⟨ret_bool HR.out.symm, hb1⟩
            | cons c1 u =>
              have hres : isSyn (c0 :: c1 :: u) = !isD c1 := by rw [HM.out, hd]; rfl
              have HR := Lib.hid hres
              clear hres hd
              have hlu : (1 : Int) < (u.length : Int) + 1 + 1 := by omega
              have hlu2 : (((u.length : Int) + 1 + 1) == 1) = false := by simp; omega
              go_wp2_with fail
              refine (l1Digit_any c1 _).mono ?_
              rintro e w2 ⟨rfl, rfl⟩
              cases hD : isD c1 with
              | true =>
                go_wp2_with fail
                go_ret
                exact ⟨ret_bool (by rw [HR.out, hD]; rfl), hb1⟩
              | false =>
                go_wp2_with fail
                go_ret
                exact ⟨ret_bool (by rw [HR.out, hD]; rfl), hb1⟩
def fmtN (s : Str) : Str := if isSyn s then s else if isNm s then 96 :: (s ++ [96]) else []
theorem isSyn_nm {s : Str} (h : isSyn s = true) : isNm s = true := by
  unfold isSyn at h; simp only [Bool.and_eq_true] at h; exact h.1.1.1
theorem implFormatName_any (s : Str) (w : World) (hs : s.length ≤ maxLen) :
    Calls Try.prog 56 #[sv s] w fun e w' => e = .returned (sv (fmtN s)) ∧ w = w' := by
  go_enter Try.func56, Try.ntmps56
  go_wp2_with fail
  refine (implIsSyn_any s _ hs).mono ?_
  rintro e w1 ⟨rfl, rfl⟩
  cases hS : isSyn s with
  | true =>
    go_wp2_with fail
    go_ret
    exact ⟨ret_str (by rw [fmtN, hS]; rfl), rfl⟩
  | false =>
    go_wp2_with fail
    refine (implIsName_any s _ hs).mono ?_
    rintro e w1 ⟨rfl, rfl⟩
    cases hN : isNm s with
    | false =>
      go_wp2_with fail
      go_ret
      exact ⟨ret_str (by rw [fmtN, hS, hN]; rfl), rfl⟩
    | true =>
      have hl := isNm_len hN
      go_wp2_with fail
      go_ret
      exact ⟨ret_str (by rw [fmtN, hS, hN]; rfl), rfl⟩
theorem specFormatName_any (s : Str) (w : World) (hs : s.length ≤ maxLen) :
    Calls Try.prog 53 #[sv s] w fun e w' => e = .returned (sv (fmtN s)) ∧ Below w.heap.size w w' := by
  go_enter Try.func53, Try.ntmps53
  go_wp2_with fail
  refine (specIsName_any s _ hs).mono ?_
  rintro e w1 ⟨rfl, rfl⟩
  cases hN : isNm s with
  | false =>
    have hS : isSyn s = false := by
      cases h : isSyn s with
      | false => rfl
      | true => rw [isSyn_nm h] at hN; cases hN
    go_wp2_with fail
    go_ret
    exact ⟨ret_str (by rw [fmtN, hS, hN]; rfl), Below.refl _ _⟩
  | true =>
    have hl := isNm_len hN
    go_wp2_with fail
    refine (specIsSyn_any s _ hs).mono ?_
    rintro e w1 ⟨rfl, hb1⟩
    cases hS : isSyn s with
    | true =>
      go_wp2_with fail
      go_ret
      exact ⟨ret_str (by rw [fmtN, hS]; rfl), hb1⟩
    | false =>
      go_wp2_with fail
      go_ret
      exact ⟨ret_str (by rw [fmtN, hS, hN]; rfl), hb1⟩
end Go.Proofs.Ytekcpadlmfaihaa
namespace Go.Proofs.Ytekcpadlmfaihaa
open Go.RowKit
def nam (l : List Str) (k : Nat) : Str := (l[k]?).getD []
def lbl (s : Str) : Str := if s = [] then [] else if isNm s then fmtN s ++ [32, 61, 32] else quo s ++ [32, 61, 32]
def shw (kind : Int) (x : Item) : Str :=
  if kind = 1 then (if isMiss x then [78, 65] else if x.num = 1 then [84, 82, 85, 69] else [70, 65, 76, 83, 69])
  else if kind = 2 then (if isMiss x then [78, 65, 95, 110, 117, 109, 98, 101, 114, 95] else fmtNum x)
  else (if isMiss x then [78, 65, 95, 99, 104, 97, 114, 97, 99, 116, 101, 114, 95] else quo x.text)
theorem quo_len (s : Str) : (quo s).length ≤ 4 * s.length + 2 := by
  unfold quo
  have : (s.flatMap qB).length ≤ 4 * s.length := by
    induction s with
    | nil => simp
    | cons a t ih => rw [List.flatMap_cons, List.length_append, List.length_cons]; have := qB_len a; omega
  simp only [List.length_cons, List.length_append, List.length_nil]; omega
theorem fmtN_len (s : Str) : (fmtN s).length ≤ s.length + 2 := by
  unfold fmtN; split
  · omega
  · split
    · simp
    · simp
set_option maxHeartbeats 1000000 in
theorem nameAt_any (v : Vec) (cs : List Value) (k : Nat) (w : World) (h : rep w w.heap.size v.toD cs) :
    Calls Try.prog 127 #[av cs, .int .i64 k] w fun e w' => e = .returned (sv (nam v.names k)) ∧ Below w.heap.size w w' := by
  obtain ⟨Ai, ni, ci, Ap, np, cp, An, nn, cn, Ac, nc, cc, Al, nl, cl, rfl, hv⟩ := vec_open h
  have q0 := (Below.refl w.heap.size w).alloc (Nat.le_refl _) (.cells (vc v Ai ni ci Ap np cp An nn cn Ac nc cc Al nl cl).toArray 34)
  have hl := hv.na.len
  by_cases hk : k < nn
  · obtain ⟨b, off, x, rfl, hb, hx, hc⟩ := hv.na.at_ hk
    have h0 := hc 0 _ rfl
    have hki : (k : Int) < nn := by omega
    have HN := Lib.hid (show nam v.names k = x by rw [nam, hx]; rfl)
    simp only [Nat.mul_one, Nat.add_zero] at h0
    clear hc hx hl
    go_enter Try.func127, Try.ntmps127
    go_wp2_with fail
    go_ret
    exact ⟨ret_str HN.out.symm, q0⟩
  · have HN := Lib.hid (show nam v.names k = [] by rw [nam, List.getElem?_eq_none (by omega)]; rfl)
    have hki : ¬ (k : Int) < nn := by omega
    clear hl
    go_enter Try.func127, Try.ntmps127
    go_wp2_with fail
    go_ret
    exact ⟨ret_str HN.out.symm, q0⟩
set_option maxHeartbeats 1000000 in
theorem formatLabel_any (s : Str) (w : World) (hs : (s.length : Int) ≤ 1000000) :
    Calls Try.prog 126 #[sv s] w fun e w' => e = .returned (sv (lbl s)) ∧ Below w.heap.size w w' := by
  have hm : s.length ≤ maxLen := by unfold maxLen; omega
  have HF := Lib.hid (show lbl s = if s = [] then [] else if isNm s then fmtN s ++ [32, 61, 32] else quo s ++ [32, 61, 32] from rfl)
  have l1 := quo_len s
  have l2 := fmtN_len s
  cases he : s.isEmpty with
  | true =>
    have H0 := Lib.hid (show s = [] by simpa using he)
    go_enter Try.func126, Try.ntmps126
    go_wp2_with fail
    go_ret
    exact ⟨ret_str (by rw [HF.out, if_pos H0.out]), Below.refl _ _⟩
  | false =>
    have H0 := Lib.hid (show ¬ s = [] by simpa using he)
    go_enter Try.func126, Try.ntmps126
    go_wp2_with fail
    refine (implIsName_any s _ hm).mono ?_
    rintro e w1 ⟨rfl, rfl⟩
    cases hN : isNm s with
    | true =>
      have HN := Lib.hid hN
      go_wp2_with fail
      refine (implFormatName_any s _ hm).mono ?_
      rintro e w1 ⟨rfl, rfl⟩
      go_wp2_with fail
      go_ret
      exact ⟨ret_str (by rw [HF.out, if_neg H0.out, HN.out, if_pos rfl]), Below.refl _ _⟩
    | false =>
      have HN := Lib.hid hN
      go_wp2_with fail
      refine (implQuote_any s _ (by omega)).mono ?_
      rintro e w1 ⟨rfl, hb1⟩
      go_wp2_with fail
      go_ret
      exact ⟨ret_str (by rw [HF.out, if_neg H0.out, HN.out, if_neg (by simp)]), hb1⟩
set_option maxHeartbeats 1000000 in
theorem l4Label_any (s : Str) (w : World) (hs : (s.length : Int) ≤ 1000000) :
    Calls Try.prog 108 #[sv s] w fun e w' => e = .returned (sv (lbl s)) ∧ Below w.heap.size w w' := by
  have hm : s.length ≤ maxLen := by unfold maxLen; omega
  have HF := Lib.hid (show lbl s = if s = [] then [] else if isNm s then fmtN s ++ [32, 61, 32] else quo s ++ [32, 61, 32] from rfl)
  have l1 := quo_len s
  have l2 := fmtN_len s
  cases he : s.isEmpty with
  | true =>
    have H0 := Lib.hid (show s = [] by simpa using he)
    go_enter Try.func108, Try.ntmps108
    go_wp2_with fail
    go_ret
    exact ⟨ret_str (by rw [HF.out, if_pos H0.out]), Below.refl _ _⟩
  | false =>
    have H0 := Lib.hid (show ¬ s = [] by simpa using he)
    go_enter Try.func108, Try.ntmps108
    go_wp2_with fail
    refine (specIsName_any s _ hm).mono ?_
    rintro e w1 ⟨rfl, rfl⟩
    cases hN : isNm s with
    | true =>
      have HN := Lib.hid hN
      go_wp2_with fail
      refine (specFormatName_any s _ hm).mono ?_
      rintro e w1 ⟨rfl, hb1⟩
      go_wp2_with fail
      go_ret
      exact ⟨ret_str (by rw [HF.out, if_neg H0.out, HN.out, if_pos rfl]), hb1⟩
    | false =>
      have HN := Lib.hid hN
      go_wp2_with fail
      refine (specQuote_any s _ (by omega)).mono ?_
      rintro e w1 ⟨rfl, rfl⟩
      go_wp2_with fail
      go_ret
      exact ⟨ret_str (by rw [HF.out, if_neg H0.out, HN.out, if_neg (by simp)]), Below.refl _ _⟩
theorem isMissing_it (x : Item) (w : World) (v : Value) (hv : v = itv x) : Calls Try.prog 120 #[v] w fun e w' => e = .returned (.bool (isMiss x)) ∧ Below w.heap.size w w' := by subst hv; exact isMissing_any x w
set_option maxRecDepth 100000 in
set_option maxHeartbeats 2000000 in
theorem formatItem_any (kind : Int) (x : Item) (w : World) (hx : (x.text.length : Int) ≤ 1000000) :
    Calls Try.prog 125 #[.int .i64 kind, itv x] w fun e w' => e = .returned (sv (shw kind x)) ∧ Below w.heap.size w w' := by
  have q0 := (Below.refl w.heap.size w).alloc (Nat.le_refl _) (.cells #[.int .i64 x.num, .int .i64 x.den, sv x.text] 101)
  have HF := Lib.hid (show shw kind x = if kind = 1 then (if isMiss x then [78, 65] else if x.num = 1 then [84, 82, 85, 69] else [70, 65, 76, 83, 69])
    else if kind = 2 then (if isMiss x then [78, 65, 95, 110, 117, 109, 98, 101, 114, 95] else fmtNum x)
    else (if isMiss x then [78, 65, 95, 99, 104, 97, 114, 97, 99, 116, 101, 114, 95] else quo x.text) from rfl)
  cases k1 : (kind == 1) with
  | true =>
    have K1 := Lib.hid (of_beq k1)
    go_enter Try.func125, Try.ntmps125
    go_wp2_with fail
    refine (isMissing_it x _ _ rfl).mono ?_
    rintro e w1 ⟨rfl, hb1⟩
    obtain ⟨hc1, hf1⟩ := bcell hb1
    simp only [wsize_alloc] at hc1 hf1
    cases hm : isMiss x with
    | true =>
      have HM := Lib.hid hm
      go_wp2_with fail
      go_ret
      exact ⟨ret_str (by rw [HF.out, if_pos K1.out, HM.out]; rfl), bth q0 hb1⟩
    | false =>
      have HM := Lib.hid hm
      cases hn : (x.num == 1) with
      | true =>
        have HN := Lib.hid (of_beq hn)
        go_wp2_with fail
        go_ret
        exact ⟨ret_str (by rw [HF.out, if_pos K1.out, HM.out, if_neg (by simp), if_pos HN.out]), bth q0 hb1⟩
      | false =>
        have HN := Lib.hid (of_nbeq hn)
        go_wp2_with fail
        go_ret
        exact ⟨ret_str (by rw [HF.out, if_pos K1.out, HM.out, if_neg (by simp), if_neg HN.out]), bth q0 hb1⟩
  | false =>
    have K1 := Lib.hid (of_nbeq k1)
    cases k2 : (kind == 2) with
    | true =>
      have K2 := Lib.hid (of_beq k2)
      go_enter Try.func125, Try.ntmps125
      go_wp2_with fail
      refine (isMissing_it x _ _ rfl).mono ?_
      rintro e w1 ⟨rfl, hb1⟩
      obtain ⟨hc1, hf1⟩ := bcell hb1
      simp only [wsize_alloc] at hc1 hf1
      cases hm : isMiss x with
      | true =>
        have HM := Lib.hid hm
        go_wp2_with fail
        go_ret
        exact ⟨ret_str (by rw [HF.out, if_neg K1.out, if_pos K2.out, HM.out]; rfl), bth q0 hb1⟩
      | false =>
        have HM := Lib.hid hm
        go_wp2_with fail
        refine (implFormatNumber_any x _).mono ?_
        rintro e w2 ⟨rfl, hb2⟩
        go_wp2_with fail
        go_ret
        exact ⟨ret_str (by rw [HF.out, if_neg K1.out, if_pos K2.out, HM.out, if_neg (by simp)]), bth (bth q0 hb1) hb2⟩
    | false =>
      have K2 := Lib.hid (of_nbeq k2)
      go_enter Try.func125, Try.ntmps125
      go_wp2_with fail
      refine (isMissing_it x _ _ rfl).mono ?_
      rintro e w1 ⟨rfl, hb1⟩
      obtain ⟨hc1, hf1⟩ := bcell hb1
      simp only [wsize_alloc] at hc1 hf1
      cases hm : isMiss x with
      | true =>
        have HM := Lib.hid hm
        go_wp2_with fail
        go_ret
        exact ⟨ret_str (by rw [HF.out, if_neg K1.out, if_neg K2.out, HM.out]; rfl), bth q0 hb1⟩
      | false =>
        have HM := Lib.hid hm
        go_wp2_with fail
        refine (implQuote_any x.text _ (by omega)).mono ?_
        rintro e w2 ⟨rfl, hb2⟩
        go_wp2_with fail
        go_ret
        exact ⟨ret_str (by rw [HF.out, if_neg K1.out, if_neg K2.out, HM.out, if_neg (by simp)]), bth (bth q0 hb1) hb2⟩
theorem logical_num {x : Item} (h : itemOK 1 x = true) (hm : isMiss x = false) : x.num = 0 ∨ x.num = 1 := by
  simp [itemOK, hm] at h
  omega
set_option maxRecDepth 100000 in
set_option maxHeartbeats 2000000 in
theorem l4Show_any (kind : Int) (x : Item) (w : World) (hx : (x.text.length : Int) ≤ 1000000) (hok : itemOK kind x = true) :
    Calls Try.prog 109 #[.int .i64 kind, itv x] w fun e w' => e = .returned (sv (shw kind x)) ∧ Below w.heap.size w w' := by
  have q0 := (Below.refl w.heap.size w).alloc (Nat.le_refl _) (.cells #[.int .i64 x.num, .int .i64 x.den, sv x.text] 101)
  have HF := Lib.hid (show shw kind x = if kind = 1 then (if isMiss x then [78, 65] else if x.num = 1 then [84, 82, 85, 69] else [70, 65, 76, 83, 69])
    else if kind = 2 then (if isMiss x then [78, 65, 95, 110, 117, 109, 98, 101, 114, 95] else fmtNum x)
    else (if isMiss x then [78, 65, 95, 99, 104, 97, 114, 97, 99, 116, 101, 114, 95] else quo x.text) from rfl)
  have HM := Lib.hid (den_ne hok)
  have HO := Lib.hid hok
  clear hok
  cases hd : (x.den == 0) with
  | true =>
    have HM1 := Lib.hid (show isMiss x = true by rw [HM.out]; simpa using hd)
    cases k1 : (kind == 1) with
    | true =>
      have K1 := Lib.hid (of_beq k1)
      go_enter Try.func109, Try.ntmps109
      go_wp2_with fail
      go_ret
      exact ⟨ret_str (by rw [HF.out, if_pos K1.out, HM1.out]; rfl), q0⟩
    | false =>
      have K1 := Lib.hid (of_nbeq k1)
      cases k2 : (kind == 2) with
      | true =>
        have K2 := Lib.hid (of_beq k2)
        go_enter Try.func109, Try.ntmps109
        go_wp2_with fail
        go_ret
        exact ⟨ret_str (by rw [HF.out, if_neg K1.out, if_pos K2.out, HM1.out]; rfl), q0⟩
      | false =>
        have K2 := Lib.hid (of_nbeq k2)
        go_enter Try.func109, Try.ntmps109
        go_wp2_with fail
        go_ret
        exact ⟨ret_str (by rw [HF.out, if_neg K1.out, if_neg K2.out, HM1.out]; rfl), q0⟩
  | false =>
    have HM1 := Lib.hid (show isMiss x = false by rw [HM.out]; simpa using hd)
    cases k1 : (kind == 1) with
    | true =>
      have K1 := Lib.hid (of_beq k1)
      rcases logical_num (by have := HO.out; rw [K1.out] at this; exact this) HM1.out with hn | hn
      all_goals
        have HN := Lib.hid hn
        obtain ⟨nu, de, te⟩ := x
        simp only at hn
        subst hn
        go_enter Try.func109, Try.ntmps109
        go_wp2_with fail
        go_ret
        refine ⟨ret_str (by rw [HF.out, if_pos K1.out, HM1.out]; rfl), ?_⟩
        (repeat' (first | with_reducible assumption | with_reducible exact Below.refl _ _ | with_reducible refine bel_dw ?_ | with_reducible refine bel_al ?_ ?_ | with_reducible refine bel_set ?_ ?_ | with_reducible refine bel_call ?_ (by with_reducible assumption) ?_ | ((try simp only [wsize_drew, wsize_alloc, wsize_set]); omega)))
    | false =>
      have K1 := Lib.hid (of_nbeq k1)
      cases k2 : (kind == 2) with
      | true =>
        have K2 := Lib.hid (of_beq k2)
        go_enter Try.func109, Try.ntmps109
        go_wp2_with fail
        refine (specFormatNumber_any x _).mono ?_
        rintro e w2 ⟨rfl, hb2⟩
        go_wp2_with fail
        go_ret
        exact ⟨ret_str (by rw [HF.out, if_neg K1.out, if_pos K2.out, HM1.out, if_neg (by simp)]), bth q0 hb2⟩
      | false =>
        have K2 := Lib.hid (of_nbeq k2)
        go_enter Try.func109, Try.ntmps109
        go_wp2_with fail
        refine (specQuote_any x.text _ (by omega)).mono ?_
        rintro e w2 ⟨rfl, rfl⟩
        go_wp2_with fail
        go_ret
        exact ⟨ret_str (by rw [HF.out, if_neg K1.out, if_neg K2.out, HM1.out, if_neg (by simp)]), q0⟩
def jn : List Str → Str
  | [] => []
  | s :: t => s ++ t.flatMap fun x => 44 :: 32 :: x
theorem jn_one (s : Str) : jn [s] = s := by simp [jn]
theorem jn_snoc {l : List Str} (h : l ≠ []) (x : Str) : jn (l ++ [x]) = (jn l ++ [44, 32]) ++ x := by
  cases l with
  | nil => exact absurd rfl h
  | cons a t => simp [jn]
theorem jn_take {l : List Str} {k : Nat} {x : Str} (h : l[k]? = some x) : jn (l.take (k + 1)) = if k = 0 then x else (jn (l.take k) ++ [44, 32]) ++ x := by
  rw [take_snoc' h]
  split
  · next hk => subst hk; rw [List.take_zero]; exact jn_one x
  · next hk =>
    refine jn_snoc ?_ x
    intro he
    have := (List.getElem?_eq_some_iff.1 h).1
    have h2 := congrArg List.length he
    rw [List.length_take, List.length_nil] at h2
    omega
theorem jn_len (l : List Str) (B : Nat) (h : ∀ x ∈ l, x.length ≤ B) : (jn l).length ≤ l.length * (B + 2) := by
  cases l with
  | nil => simp [jn]
  | cons a t =>
    have h1 : (t.flatMap fun x => 44 :: 32 :: x).length ≤ t.length * (B + 2) := by
      have ht : ∀ x ∈ t, x.length ≤ B := fun x hx => h x (List.mem_cons_of_mem _ hx)
      clear h
      induction t with
      | nil => simp
      | cons b t ih =>
        rw [List.flatMap_cons, List.length_append, List.length_cons, List.length_cons, List.length_cons, Nat.succ_mul]
        have := ht b List.mem_cons_self
        have := ih fun x hx => ht x (List.mem_cons_of_mem _ hx)
        omega
    have := h a List.mem_cons_self
    rw [jn, List.length_append, List.length_cons, Nat.succ_mul]
    omega
set_option maxRecDepth 100000 in
set_option maxHeartbeats 2000000 in
theorem joinTexts_any (l : List Str) (A : Option Addr) (n c : Nat) (w : World) (hr : Reads encS 1 w w.heap.size A n l) (hn : (n : Int) ≤ 50) (B : Nat) (hB : (B : Int) ≤ 100000000000000000) (hl : ∀ x ∈ l, x.length ≤ B) :
    Calls Try.prog 128 #[.slice A n c, sv [44, 32]] w fun e w' => e = .returned (sv (jn l)) ∧ w = w' := by
  have hlen := hr.len
  have HLen := Lib.hid hlen
  clear hlen
  go_enter Try.func128, Try.ntmps128
  go_wp2
  go_loop [5, 10] (fun v5 v10 => ∃ k : Nat, k ≤ n ∧ v10 = .int .i64 k ∧ v5 = sv (jn (l.take k))) (fun _ v10 => n - (intOf v10).toNat)
  case atStart => exact ⟨0, Nat.zero_le _, rfl, rfl⟩
  case round =>
    obtain ⟨k, hk, rfl, rfl⟩ := hrel
    by_cases hlt : k < n
    · obtain ⟨b, off, x, rfl, hb, hx, hc⟩ := hr.at_ hlt
      have h0 := hc 0 _ rfl
      simp only [Nat.mul_one, Nat.add_zero] at h0
      have hxl := hl x (List.mem_of_getElem? hx)
      have hjl := jn_len (l.take k) B (fun y hy => hl y (List.mem_of_mem_take hy))
      have hjt : (l.take k).length ≤ 50 := by have := List.length_take_le k l; omega
      have hjb : ((jn (l.take k)).length : Int) ≤ 5000000000000000200 := by
        have := Nat.mul_le_mul_right (B + 2) hjt
        omega
      have HJ := Lib.hid (jn_take hx)
      clear hc hx hjl hjt
      by_cases hk0 : k = 0
      · have hkp : ¬ (0 : Int) < k := by omega
        have HK := Lib.hid hk0
        clear hk0
        go_wp2
        go_round
        case rel => exact ⟨k + 1, by omega, by go_num, by rw [HJ.out, if_pos HK.out, HK.out, List.take_zero]; rfl⟩
        case measure => simp only [intOf]; omega
      · have hkp : (0 : Int) < k := by omega
        go_wp2
        go_round
        case rel => exact ⟨k + 1, by omega, by go_num, by rw [HJ.out, if_neg hk0]; simp⟩
        case measure => simp only [intOf]; omega
    · obtain rfl : k = n := by omega
      go_wp2
      go_ret
      exact ⟨ret_str (by rw [List.take_of_length_le (by rw [HLen.out]; omega)]), rfl⟩
end Go.Proofs.Ytekcpadlmfaihaa
namespace Go.Proofs.Ytekcpadlmfaihaa
open Go.RowKit
def tIt (s : Str) : Item := ⟨0, 1, s⟩
def txtV (l : List Str) : Vec := ⟨3, l.map tIt, [], [], [], [], 0, 0⟩
theorem wf0 : (Lit.int .i64 0).wf = true := by decide
theorem wf1 : (Lit.int .i64 1).wf = true := by decide
theorem wf3 : (Lit.int .i64 3).wf = true := by decide
theorem textItem_any (s : Str) (w : World) : Calls Try.prog 129 #[sv s] w fun e w' => e = .returned (.agg #[.int .i64 0, .int .i64 1, sv s]) ∧ Below w.heap.size w w' := by
  go_enter Try.func129, Try.ntmps129
  go_wp2_with fail
  exact bodyPost_ret (v := .agg #[.int .i64 0, .int .i64 1, sv s]) (by simp [results, Try.results129, go_sem]) rfl ⟨rfl, (Below.refl _ _).alloc (Nat.le_refl _) _⟩
theorem l4Text_any (s : Str) (w : World) : Calls Try.prog 124 #[sv s] w fun e w' => e = .returned (.agg #[.int .i64 0, .int .i64 1, sv s]) ∧ Below w.heap.size w w' := by
  go_enter Try.func124, Try.ntmps124
  go_wp2_with fail
  exact bodyPost_ret (v := .agg #[.int .i64 0, .int .i64 1, sv s]) (by simp [results, Try.results124, go_sem]) rfl ⟨rfl, (Below.refl _ _).alloc (Nat.le_refl _) _⟩
abbrev zv8 : List Value := [.int .i64 0, .slice none 0 0, .slice none 0 0, .slice none 0 0, .slice none 0 0, .slice none 0 0, .int .i64 0, .int .i64 0]
def tvL (l : List Str) (w : World) (n : Nat) (i : Value) (wr : World) : Prop := ∃ (k : Nat) (Ao : Option Addr) (co : Nat) (FP : List Nat), k ≤ n ∧ i = .int .i64 k ∧
  Blk wr (w.heap.size + 1) 34 [.int .i64 3, .slice Ao k co, .slice none 0 0, .slice none 0 0, .slice none 0 0, .slice none 0 0, .int .i64 0, .int .i64 0] ∧ Blk wr w.heap.size 34 zv8 ∧
  own Try.prog wr (.sl ((l.take k).map fun s => (tIt s).toD)) 31 FP [.slice Ao k co] ∧ Fresh (w.heap.size + 2) FP ∧ Below w.heap.size w wr
theorem own_tIt {w : World} {x : Str} (h : x.length ≤ 60) : own Try.prog w (tIt x).toD 101 [] [.int .i64 0, .int .i64 1, sv x] := own_item (tIt x) ⟨wf0, wf1, by unfold maxLen tIt; simp only; omega⟩ rfl
set_option maxRecDepth 100000 in
set_option maxHeartbeats 4000000 in
theorem implTextVector_any (l : List Str) (A : Option Addr) (n c : Nat) (w : World) (hr : Reads encS 1 w w.heap.size A n l) (hn : (n : Int) ≤ 40) (hl : ∀ x ∈ l, x.length ≤ 60) :
    Calls Try.prog 115 #[.slice A n c] w (NewSt (txtV l).toD 34 w) := by
  have HLen := Lib.hid hr.len
  have q0 := ((Below.refl w.heap.size w).alloc (Nat.le_refl _) (.cells zv8.toArray 34)).alloc (by simp only [wsize_alloc]; omega) (.cells #[.int .i64 3, .slice none 0 0, .slice none 0 0, .slice none 0 0, .slice none 0 0, .slice none 0 0, .int .i64 0, .int .i64 0] 34)
  have k0 : Blk (w.alloc (.cells zv8.toArray 34)) w.heap.size 34 zv8 := Blk.new'
  have k1 : Blk ((w.alloc (.cells zv8.toArray 34)).alloc (.cells #[.int .i64 3, .slice none 0 0, .slice none 0 0, .slice none 0 0, .slice none 0 0, .slice none 0 0, .int .i64 0, .int .i64 0] 34)) (w.heap.size + 1) 34 [.int .i64 3, .slice none 0 0, .slice none 0 0, .slice none 0 0, .slice none 0 0, .slice none 0 0, .int .i64 0, .int .i64 0] := by
    have := Blk.new' (w := w.alloc (.cells zv8.toArray 34)) (t := 34) (l := [.int .i64 3, .slice none 0 0, .slice none 0 0, .slice none 0 0, .slice none 0 0, .slice none 0 0, .int .i64 0, .int .i64 0])
    simp only [wsize_alloc] at this
    exact this
  have HL := Lib.hid hl
  clear hl
  go_enter Try.func115, Try.ntmps115
  go_wp2_with fail
  go_loopw [13] (fun i wr => tvL l w n i wr) (fun i _ => n - (intOf i).toNat)
  case atStart => exact ⟨0, none, 0, [], by omega, rfl, k1, k0.al, by rw [List.take_zero]; exact own_nil Try.underlying31, Fresh.nil, q0⟩
  case round =>
    clear k0 k1 q0
    obtain ⟨k, Ao, co, FP, hk, rfl, kg, kz, oP, fr, bb⟩ := hrel
    have z0 := kg.lt
    by_cases hlt : k < n
    · obtain ⟨b, off, x, rfl, hb, hx, hc⟩ := (hr.below bb).at_ hlt
      have h0 := hc 0 _ rfl
      simp only [Nat.mul_one, Nat.add_zero] at h0
      have hx60 := HL.out x (List.mem_of_getElem? hx)
      have hxi : ¬ (60 : Int) < x.length := by omega
      have HX := Lib.hid (take_snoc' hx)
      clear hc hx
      have eg := kg.cell 1
      simp only [List.getElem?_cons_zero, List.getElem?_cons_succ] at eg
      have zf := kg.frozen 1
      have lP := own_lo oP
      go_upto_region 9 with fail
      go_region_law (first
        | (go_simp; go_at_call 129; refine (textItem_any x _).mono ?_; rintro e w1 ⟨rfl, hb1⟩; obtain ⟨hc1, hf1⟩ := bcell hb1; have z1 := hb1.size; (try simp only [wsize_drew, wsize_alloc, wsize_set] at hc1 hf1 z1); have yg : w.heap.size + 1 < w1.heap.size := by omega)
        | (refine step_appD (A := Ao) (n := k) (c := co) (b := w1.heap.size) (m := 1) (xs := (l.take k).map fun s => (tIt s).toD) (F := FP) (d := (tIt x).toD) (F' := []) (te := 101) (cs := [.int .i64 0, .int .i64 1, sv x]) tyItem ?_ ?_ (.tmp 22) (.tmp 25) ?_ ?_ ?_ ?_ ?_ ?_ ?_ ?_ ?_ ?_ ?_; (kernel_rfl); (rfl); (rfl); (rfl); (focus (repeat' (first | with_reducible assumption | with_reducible refine own_dw ?_ | with_reducible refine own_al ?_ | with_reducible refine own_pk ?_ ?_ | with_reducible exact notin_nil | with_reducible refine notin_app ?_ ?_ | (with_reducible refine Fresh.notin (by with_reducible assumption) ?_; ((try simp only [wsize_drew, wsize_alloc, wsize_set]); omega)) | (with_reducible refine Lo.notin (by with_reducible assumption) ?_; ((try simp only [wsize_drew, wsize_alloc, wsize_set]); omega)) | with_reducible refine own_below ?_ (by with_reducible assumption)))); (rfl); (focus (repeat' (first | with_reducible assumption | with_reducible exact Blk.new' | with_reducible exact Blk.newd | with_reducible apply Blk.set8 | (with_reducible refine Blk.pk ?_ ?_; ((try simp only [wsize_drew, wsize_alloc, wsize_set]); omega)) | with_reducible refine Blk.dw ?_ | with_reducible refine Blk.al ?_ | with_reducible refine Blk.next ?_ (by with_reducible assumption)))); (exact own_tIt hx60); (rfl); (rw [List.append_nil]; exact fr.1); (unfold maxLen; omega); (omega); intro gg cc w2 FP2 oP2 ap2 md2; have kg2 := Blk.mod (t := 34) (cs := [.int .i64 3, .slice Ao k co, .slice none 0 0, .slice none 0 0, .slice none 0 0, .slice none 0 0, .int .i64 0, .int .i64 0]) (g := w.heap.size + 1) (by (repeat' (first | with_reducible assumption | with_reducible exact Blk.new' | with_reducible exact Blk.newd | with_reducible apply Blk.set8 | (with_reducible refine Blk.pk ?_ ?_; ((try simp only [wsize_drew, wsize_alloc, wsize_set]); omega)) | with_reducible refine Blk.dw ?_ | with_reducible refine Blk.al ?_ | with_reducible refine Blk.next ?_ (by with_reducible assumption)))) md2 (fr.notin (by omega)); have eg2 := kg2.cell 1; (simp only [List.getElem?_cons_zero, List.getElem?_cons_succ] at eg2); have zf2 := kg2.frozen 1))
      all_goals
        go_wp2_with fail
        go_roundw
        case rel =>
          have z2 := md2.size
          simp only [wsize_drew, wsize_alloc, wsize_set] at z2
          have ng : w.heap.size + 1 ∉ FP2 := ap2.notin (C := w.heap.size + 2) (fr.notin (by omega)) (by simp) (by omega) (by ((try simp only [wsize_drew, wsize_alloc, wsize_set]); omega))
          refine ⟨k + 1, some ⟨gg, 0, none⟩, cc, FP2, by omega, by go_num, kg2.set_ 1 _, ?_, ?_, ?_, ?_⟩
          · have := Blk.mod (t := 34) (cs := zv8) (g := w.heap.size) (by (repeat' (first | with_reducible assumption | with_reducible exact Blk.new' | with_reducible exact Blk.newd | with_reducible apply Blk.set8 | (with_reducible refine Blk.pk ?_ ?_; ((try simp only [wsize_drew, wsize_alloc, wsize_set]); omega)) | with_reducible refine Blk.dw ?_ | with_reducible refine Blk.al ?_ | with_reducible refine Blk.next ?_ (by with_reducible assumption)))) md2 (fr.notin (by omega))
            exact this.pk (by simp only; omega)
          · rw [HX.out, List.map_append, List.map_cons, List.map_nil]
            (repeat' (first | with_reducible assumption | with_reducible refine own_dw ?_ | with_reducible refine own_al ?_ | with_reducible refine own_pk ?_ ?_ | with_reducible exact notin_nil | with_reducible refine notin_app ?_ ?_ | (with_reducible refine Fresh.notin (by with_reducible assumption) ?_; ((try simp only [wsize_drew, wsize_alloc, wsize_set]); omega)) | (with_reducible refine Lo.notin (by with_reducible assumption) ?_; ((try simp only [wsize_drew, wsize_alloc, wsize_set]); omega)) | with_reducible refine own_below ?_ (by with_reducible assumption)))
          · refine ⟨ap2.1, fun y hy => ?_⟩
            rcases ap2.2 y hy with h1 | h1 | h1
            · exact fr.2 y h1
            · simp at h1
            · rw [h1]; ((try simp only [wsize_drew, wsize_alloc, wsize_set]); omega)
          · have B2 := bel_mod (B := w.heap.size) (a := w) (by (repeat' (first | with_reducible assumption | with_reducible exact Below.refl _ _ | with_reducible refine bel_dw ?_ | with_reducible refine bel_al ?_ ?_ | with_reducible refine bel_set ?_ ?_ | with_reducible refine bel_call ?_ (by with_reducible assumption) ?_ | ((try simp only [wsize_drew, wsize_alloc, wsize_set]); omega)))) md2 (fun y hy => by have := fr.2 y hy; omega) (by ((try simp only [wsize_drew, wsize_alloc, wsize_set]); omega))
            (repeat' (first | with_reducible assumption | with_reducible exact Below.refl _ _ | with_reducible refine bel_dw ?_ | with_reducible refine bel_al ?_ ?_ | with_reducible refine bel_set ?_ ?_ | with_reducible refine bel_call ?_ (by with_reducible assumption) ?_ | ((try simp only [wsize_drew, wsize_alloc, wsize_set]); omega)))
        case measure => simp [intOf]; omega
    · obtain rfl : k = n := by omega
      obtain ⟨r0, r1, r2, r3, r4, r5, r6, r7⟩ := kz.c8
      have hR1 : w.heap.size < wr.heap.size := by omega
      obtain ⟨e0, e1, e2, e3, e4, e5, e6, e7⟩ := kg.c8
      have zr := fun i => kz.frozen i
      have zr0 := zr 0; have zr1 := zr 1; have zr2 := zr 2; have zr3 := zr 3; have zr4 := zr 4; have zr5 := zr 5; have zr6 := zr 6; have zr7 := zr 7
      clear zr
      go_wp2_with fail
      rw [List.take_of_length_le (by rw [HLen.out]; omega)] at oP
      refine bodyPost_ret (v := .agg #[.int .i64 3, .slice Ao k co, .slice none 0 0, .slice none 0 0, .slice none 0 0, .slice none 0 0, .int .i64 0, .int .i64 0]) (by simp [results, Try.results115, go_sem, r0, r1, r2, r3, r4, r5, r6, r7, hR1]) rfl ⟨_, FP ++ ([] ++ ([] ++ ([] ++ ([] ++ [])))), rfl, ?_, ?_, ?_⟩
      · refine Vector_own (x := txtV l) wf3 ?_ (own_nil Try.underlying32) (own_nil Try.underlying24) (own_nil Try.underlying24) (own_nil Try.underlying24) wf0 wf0
        have e9 : (txtV l).items.map Item.toD = l.map fun s => (tIt s).toD := by simp [txtV, Function.comp_def]
        rw [e9]
        have lo := own_lo oP
        have fn : w.heap.size ∉ FP := fr.notin (by omega)
        repeat' (first | with_reducible assumption | with_reducible refine own_pk ?_ ?_)
      · simpa using fr.mono (by omega)
      · (repeat' (first | with_reducible assumption | with_reducible exact Below.refl _ _ | with_reducible refine bel_dw ?_ | with_reducible refine bel_al ?_ ?_ | with_reducible refine bel_set ?_ ?_ | with_reducible refine bel_call ?_ (by with_reducible assumption) ?_ | ((try simp only [wsize_drew, wsize_alloc, wsize_set]); omega)))
end Go.Proofs.Ytekcpadlmfaihaa
