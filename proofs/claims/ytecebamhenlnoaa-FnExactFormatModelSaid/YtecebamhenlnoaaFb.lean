/- Syntactic names: what IsSyntacticName and FormatName of the program and of the reference return. -/
import Derived.Test.YtecebamhenlnoaaFa
namespace Go.Proofs.Ytecebamhenlnoaa
open Go.RowKit
theorem dot_beq (c : UInt8) (n : Nat) (b : Bool) (h : (c.toNat == n) = b) : (((c.toNat : Int)) == (n : Int)) = b := by
  rw [← h, Bool.eq_iff_iff]; simp; omega
theorem dot_bne (c : UInt8) (n : Nat) (b : Bool) (h : (c.toNat == n) = b) : (((c.toNat : Int)) != (n : Int)) = !b := by
  rw [← h, bne, dot_beq c n _ rfl]
set_option maxHeartbeats 4000000 in
theorem implIsSyn_any (s : Str) (w : World) (hs : s.length ≤ maxLen) :
    Calls Try.prog 79 #[sv s] w fun e w' => e = .returned (.bool (isSyn s)) ∧ w = w' := by
  go_enter Try.func79, Try.ntmps79
  go_wp2_with fail
  refine (implIsName_any s _ hs).mono ?_
  rintro e w1 ⟨rfl, rfl⟩
  cases hN : isNm s with
  | false =>
    go_wp2_with fail
    go_ret
    exact ⟨ret_bool (isSyn_no (.inl hN)).symm, rfl⟩
  | true =>
    have hl := isNm_len hN
    go_wp2_with fail
    refine (isReserved_any s _).mono ?_
    rintro e w1 ⟨rfl, rfl⟩
    cases hR : isRes s with
    | true =>
      go_wp2_with fail
      go_ret
      exact ⟨ret_bool (isSyn_no (.inr (.inl hR))).symm, rfl⟩
    | false =>
      obtain ⟨c0, t, rfl⟩ : ∃ c t, s = c :: t := by cases s with | nil => simp at hl | cons c t => exact ⟨c, t, rfl⟩
      have hmain : isSyn (c0 :: t) = ((c0 :: t).all synB && hdOK (c0 :: t)) := by unfold isSyn; rw [hN, hR]; simp
      have HM := Lib.hid hmain
      have HNo := Lib.hid (fun h => isSyn_no (s := c0 :: t) h)
      clear hmain hN hR hs
      simp only [List.length_cons] at hl
      have l0 : (0 : Int) < (t.length : Int) + 1 := by omega
      go_wp2_with fail
      refine (isLetter_any c0 _).mono ?_
      rintro e w1 ⟨rfl, rfl⟩
      cases hL : isL c0 with
      | false =>
        cases hd : (c0.toNat == 46) with
        | false =>
          have hd' : ((c0.toNat : Int) != 46) = true := dot_bne c0 46 _ hd
          have hh : hdOK (c0 :: t) = false := by simp only [hdOK, hL, hd]; rfl
          have HH := Lib.hid hh
          clear hh hd
          go_wp2_with fail
          go_ret
          exact ⟨ret_bool (HNo.out (.inr (.inr (.inr HH.out)))).symm, rfl⟩
        | true =>
          have hd' : ((c0.toNat : Int) != 46) = false := dot_bne c0 46 _ hd
          have hd2 : ((c0.toNat : Int) == 46) = true := dot_beq c0 46 _ hd
          cases t with
          | nil =>
            have hh : hdOK [c0] = true := by simp only [hdOK, hL, hd]; rfl
            have HH := Lib.hid hh
            clear hh hL hd
            go_wp2_with fail
            have hkey : ∀ s : Str, s = c0 :: [] → (s.all synB = true → isSyn (c0 :: []) = true) ∧ (s.all synB = false → isSyn (c0 :: []) = false) ∧ s.length ≤ 20 := by
              rintro s rfl
              refine ⟨fun h => ?_, fun h => HNo.out (.inr (.inr (.inl h))), ?_⟩
              · rw [HM.out, h, HH.out]; rfl
              · simp only [List.length_cons] at hl ⊢; omega
            obtain ⟨s, hss⟩ : ∃ s : Str, s = c0 :: [] := ⟨_, rfl⟩
            have HK := Lib.hid (hkey s hss)
            rw [← hss]
            have hlen := HK.out.2.2
            clear hss hkey
            have hlen' : (s.length : Int) ≤ 20 := by omega
            go_loop [3] (fun i => ∃ k : Nat, k ≤ s.length ∧ i = .int .i64 k ∧ (s.take k).all synB = true) (fun i => s.length - (intOf i).toNat)
            case atStart => exact ⟨0, by omega, rfl, by simp⟩
            case round =>
              obtain ⟨k, hk, rfl, hf⟩ := hrel
              have HF := Lib.hid hf
              clear hf
              by_cases hlt : k < s.length
              · have HX := Lib.hid (List.getElem?_eq_getElem hlt)
                go_wp2_with fail
                refine (isLetter_any s[k] _).mono ?_
                rintro e w1 ⟨rfl, rfl⟩
                cases hL1 : isL s[k] with
                | true =>
                  go_wp2_with fail
                  go_round
                  case rel => exact ⟨k + 1, by omega, by go_num, all_snoc HX.out HF.out (by simp [synB, hL1])⟩
                  case measure => simp [intOf]; omega
                | false =>
                  go_wp2_with fail
                  refine (isDigit_any s[k] _).mono ?_
                  rintro e w1 ⟨rfl, rfl⟩
                  cases hD1 : isD s[k] with
                  | true =>
                    go_wp2_with fail
                    go_round
                    case rel => exact ⟨k + 1, by omega, by go_num, all_snoc HX.out HF.out (by simp [synB, hD1])⟩
                    case measure => simp [intOf]; omega
                  | false =>
                    cases h46 : (s[k].toNat == 46) with
                    | true =>
                      have h46' : ((s[k].toNat : Int) != 46) = false := dot_bne s[k] 46 _ h46
                      have H46 := Lib.hid h46
                      clear h46
                      go_wp2_with fail
                      go_round
                      case rel => exact ⟨k + 1, by omega, by go_num, all_snoc HX.out HF.out (by simp [synB, H46.out])⟩
                      case measure => simp [intOf]; omega
                    | false =>
                      have h46' : ((s[k].toNat : Int) != 46) = true := dot_bne s[k] 46 _ h46
                      cases h95 : (s[k].toNat == 95) with
                      | true =>
                        have h95' : ((s[k].toNat : Int) != 95) = false := dot_bne s[k] 95 _ h95
                        have H95 := Lib.hid h95
                        clear h95 h46
                        go_wp2_with fail
                        go_round
                        case rel => exact ⟨k + 1, by omega, by go_num, all_snoc HX.out HF.out (by simp [synB, H95.out])⟩
                        case measure => simp [intOf]; omega
                      | false =>
                        have h95' : ((s[k].toNat : Int) != 95) = true := dot_bne s[k] 95 _ h95
                        have hbad : synB s[k] = false := by simp only [synB, hL1, hD1, h46, h95]; rfl
                        have HB := Lib.hid hbad
                        clear hbad h46 h95
                        go_wp2_with fail
                        go_ret
                        exact ⟨ret_bool (HK.out.2.1 (all_bad HX.out HB.out)).symm, rfl⟩
              · obtain rfl : k = s.length := by omega
                go_wp2_with fail
                go_ret
                refine ⟨ret_bool ?_, rfl⟩
                have := HF.out
                rw [List.take_length] at this
                exact (HK.out.1 this).symm
          | cons c1 u =>
            have hlu : (1 : Int) < (u.length : Int) + 1 + 1 := by omega
            go_wp2_with fail
            refine (isDigit_any c1 _).mono ?_
            rintro e w1 ⟨rfl, rfl⟩
            cases hD : isD c1 with
            | true =>
              have hh : hdOK (c0 :: c1 :: u) = false := by simp only [hdOK, hL, hd, hD]; rfl
              have HH := Lib.hid hh
              clear hh hd
              go_wp2_with fail
              go_ret
              exact ⟨ret_bool (HNo.out (.inr (.inr (.inr HH.out)))).symm, rfl⟩
            | false =>
              have hh : hdOK (c0 :: c1 :: u) = true := by simp only [hdOK, hL, hd, hD]; rfl
              have HH := Lib.hid hh
              clear hh hL hd
              go_wp2_with fail
              have hkey : ∀ s : Str, s = c0 :: (c1 :: u) → (s.all synB = true → isSyn (c0 :: (c1 :: u)) = true) ∧ (s.all synB = false → isSyn (c0 :: (c1 :: u)) = false) ∧ s.length ≤ 20 := by
                rintro s rfl
                refine ⟨fun h => ?_, fun h => HNo.out (.inr (.inr (.inl h))), ?_⟩
                · rw [HM.out, h, HH.out]; rfl
                · simp only [List.length_cons] at hl ⊢; omega
              obtain ⟨s, hss⟩ : ∃ s : Str, s = c0 :: (c1 :: u) := ⟨_, rfl⟩
              have HK := Lib.hid (hkey s hss)
              rw [← hss]
              have hlen := HK.out.2.2
              clear hss hkey
              have hlen' : (s.length : Int) ≤ 20 := by omega
              go_loop [3] (fun i => ∃ k : Nat, k ≤ s.length ∧ i = .int .i64 k ∧ (s.take k).all synB = true) (fun i => s.length - (intOf i).toNat)
              case atStart => exact ⟨0, by omega, rfl, by simp⟩
              case round =>
                obtain ⟨k, hk, rfl, hf⟩ := hrel
                have HF := Lib.hid hf
                clear hf
                by_cases hlt : k < s.length
                · have HX := Lib.hid (List.getElem?_eq_getElem hlt)
                  go_wp2_with fail
                  refine (isLetter_any s[k] _).mono ?_
                  rintro e w1 ⟨rfl, rfl⟩
                  cases hL1 : isL s[k] with
                  | true =>
                    go_wp2_with fail
                    go_round
                    case rel => exact ⟨k + 1, by omega, by go_num, all_snoc HX.out HF.out (by simp [synB, hL1])⟩
                    case measure => simp [intOf]; omega
                  | false =>
                    go_wp2_with fail
                    refine (isDigit_any s[k] _).mono ?_
                    rintro e w1 ⟨rfl, rfl⟩
                    cases hD1 : isD s[k] with
                    | true =>
                      go_wp2_with fail
                      go_round
                      case rel => exact ⟨k + 1, by omega, by go_num, all_snoc HX.out HF.out (by simp [synB, hD1])⟩
                      case measure => simp [intOf]; omega
                    | false =>
                      cases h46 : (s[k].toNat == 46) with
                      | true =>
                        have h46' : ((s[k].toNat : Int) != 46) = false := dot_bne s[k] 46 _ h46
                        have H46 := Lib.hid h46
                        clear h46
                        go_wp2_with fail
                        go_round
                        case rel => exact ⟨k + 1, by omega, by go_num, all_snoc HX.out HF.out (by simp [synB, H46.out])⟩
                        case measure => simp [intOf]; omega
                      | false =>
                        have h46' : ((s[k].toNat : Int) != 46) = true := dot_bne s[k] 46 _ h46
                        cases h95 : (s[k].toNat == 95) with
                        | true =>
                          have h95' : ((s[k].toNat : Int) != 95) = false := dot_bne s[k] 95 _ h95
                          have H95 := Lib.hid h95
                          clear h95 h46
                          go_wp2_with fail
                          go_round
                          case rel => exact ⟨k + 1, by omega, by go_num, all_snoc HX.out HF.out (by simp [synB, H95.out])⟩
                          case measure => simp [intOf]; omega
                        | false =>
                          have h95' : ((s[k].toNat : Int) != 95) = true := dot_bne s[k] 95 _ h95
                          have hbad : synB s[k] = false := by simp only [synB, hL1, hD1, h46, h95]; rfl
                          have HB := Lib.hid hbad
                          clear hbad h46 h95
                          go_wp2_with fail
                          go_ret
                          exact ⟨ret_bool (HK.out.2.1 (all_bad HX.out HB.out)).symm, rfl⟩
                · obtain rfl : k = s.length := by omega
                  go_wp2_with fail
                  go_ret
                  refine ⟨ret_bool ?_, rfl⟩
                  have := HF.out
                  rw [List.take_length] at this
                  exact (HK.out.1 this).symm
      | true =>
        have hne : (c0.toNat == 46) = false := by
          have := hL
          simp [isL] at this
          simp; omega
        have hd2 : ((c0.toNat : Int) == 46) = false := dot_beq c0 46 _ hne
        have hh : hdOK (c0 :: t) = true := by simp only [hdOK, hL, hne]; rfl
        have HH := Lib.hid hh
        clear hh hL hne
        go_wp2_with fail
        have hkey : ∀ s : Str, s = c0 :: t → (s.all synB = true → isSyn (c0 :: t) = true) ∧ (s.all synB = false → isSyn (c0 :: t) = false) ∧ s.length ≤ 20 := by
          rintro s rfl
          refine ⟨fun h => ?_, fun h => HNo.out (.inr (.inr (.inl h))), ?_⟩
          · rw [HM.out, h, HH.out]; rfl
          · simp only [List.length_cons] at hl ⊢; omega
        obtain ⟨s, hss⟩ : ∃ s : Str, s = c0 :: t := ⟨_, rfl⟩
        have HK := Lib.hid (hkey s hss)
        rw [← hss]
        have hlen := HK.out.2.2
        clear hss hkey
        have hlen' : (s.length : Int) ≤ 20 := by omega
        go_loop [3] (fun i => ∃ k : Nat, k ≤ s.length ∧ i = .int .i64 k ∧ (s.take k).all synB = true) (fun i => s.length - (intOf i).toNat)
        case atStart => exact ⟨0, by omega, rfl, by simp⟩
        case round =>
          obtain ⟨k, hk, rfl, hf⟩ := hrel
          have HF := Lib.hid hf
          clear hf
          by_cases hlt : k < s.length
          · have HX := Lib.hid (List.getElem?_eq_getElem hlt)
            go_wp2_with fail
            refine (isLetter_any s[k] _).mono ?_
            rintro e w1 ⟨rfl, rfl⟩
            cases hL1 : isL s[k] with
            | true =>
              go_wp2_with fail
              go_round
              case rel => exact ⟨k + 1, by omega, by go_num, all_snoc HX.out HF.out (by simp [synB, hL1])⟩
              case measure => simp [intOf]; omega
            | false =>
              go_wp2_with fail
              refine (isDigit_any s[k] _).mono ?_
              rintro e w1 ⟨rfl, rfl⟩
              cases hD1 : isD s[k] with
              | true =>
                go_wp2_with fail
                go_round
                case rel => exact ⟨k + 1, by omega, by go_num, all_snoc HX.out HF.out (by simp [synB, hD1])⟩
                case measure => simp [intOf]; omega
              | false =>
                cases h46 : (s[k].toNat == 46) with
                | true =>
                  have h46' : ((s[k].toNat : Int) != 46) = false := dot_bne s[k] 46 _ h46
                  have H46 := Lib.hid h46
                  clear h46
                  go_wp2_with fail
                  go_round
                  case rel => exact ⟨k + 1, by omega, by go_num, all_snoc HX.out HF.out (by simp [synB, H46.out])⟩
                  case measure => simp [intOf]; omega
                | false =>
                  have h46' : ((s[k].toNat : Int) != 46) = true := dot_bne s[k] 46 _ h46
                  cases h95 : (s[k].toNat == 95) with
                  | true =>
                    have h95' : ((s[k].toNat : Int) != 95) = false := dot_bne s[k] 95 _ h95
                    have H95 := Lib.hid h95
                    clear h95 h46
                    go_wp2_with fail
                    go_round
                    case rel => exact ⟨k + 1, by omega, by go_num, all_snoc HX.out HF.out (by simp [synB, H95.out])⟩
                    case measure => simp [intOf]; omega
                  | false =>
                    have h95' : ((s[k].toNat : Int) != 95) = true := dot_bne s[k] 95 _ h95
                    have hbad : synB s[k] = false := by simp only [synB, hL1, hD1, h46, h95]; rfl
                    have HB := Lib.hid hbad
                    clear hbad h46 h95
                    go_wp2_with fail
                    go_ret
                    exact ⟨ret_bool (HK.out.2.1 (all_bad HX.out HB.out)).symm, rfl⟩
          · obtain rfl : k = s.length := by omega
            go_wp2_with fail
            go_ret
            refine ⟨ret_bool ?_, rfl⟩
            have := HF.out
            rw [List.take_length] at this
            exact (HK.out.1 this).symm
end Go.Proofs.Ytecebamhenlnoaa
