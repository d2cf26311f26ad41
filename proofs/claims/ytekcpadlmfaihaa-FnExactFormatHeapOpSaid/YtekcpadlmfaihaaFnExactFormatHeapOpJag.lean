/- Letters, digits, reserved words, syntactic names: what the functions of the program and of the reference return. Syntactic names: what IsSyntacticName and FormatName of the program and of the reference return. Syntactic names: what IsSyntacticName of the reference returns; FormatName of both. Parts of the validity of vectors: what length, labelsValid, itemValid and their kin return. Labels and names of vectors: what labelsValid, allEmpty and their kin return. Depth and cells of vectors; functions in them: what nest, cells, hasFunction and their kin return. -/
import Derived.Test.YtekcpadlmfaihaaFnExactFormatHeapOpJaa
import Derived.Test.YtekcpadlmfaihaaFnExactFormatHeapOpJaf
import Derived.Test.YtekcpadlmfaihaaFnExactFormatHeapOpJad
namespace Go.Proofs.Ytekcpadlmfaihaa
open Go.RowKit
def isL (c : UInt8) : Bool := decide (97 ≤ c.toNat ∧ c.toNat ≤ 122 ∨ 65 ≤ c.toNat ∧ c.toNat ≤ 90)
def isD (c : UInt8) : Bool := decide (48 ≤ c.toNat ∧ c.toNat ≤ 57)
theorem isLetter_any (c : UInt8) (w : World) : Calls Try.prog 112 #[.int .u8 (c.toNat : Int)] w fun e w' => e = .returned (.bool (isL c)) ∧ w = w' := by
  have hc := c.toNat_lt
  have hcase : (97 ≤ (c.toNat : Int) ∧ (c.toNat : Int) ≤ 122) ∨ (97 ≤ (c.toNat : Int) ∧ ¬ (c.toNat : Int) ≤ 122) ∨ (¬ 97 ≤ (c.toNat : Int) ∧ 65 ≤ (c.toNat : Int)) ∨ (¬ 97 ≤ (c.toNat : Int) ∧ ¬ 65 ≤ (c.toNat : Int)) := by omega
  rcases hcase with ⟨h1, h2⟩ | ⟨h1, h2⟩ | ⟨h1, h2⟩ | ⟨h1, h2⟩
  all_goals
    go_enter Try.func112, Try.ntmps112
    go_wp2
    go_ret
    refine ⟨ret_bool ?_, rfl⟩
    rw [Bool.eq_iff_iff]
    simp [isL] <;> omega
theorem l1Letter_any (c : UInt8) (w : World) : Calls Try.prog 105 #[.int .u8 (c.toNat : Int)] w fun e w' => e = .returned (.bool (isL c)) ∧ w = w' := by
  have hc := c.toNat_lt
  have hcase : (97 ≤ (c.toNat : Int) ∧ (c.toNat : Int) ≤ 122) ∨ (97 ≤ (c.toNat : Int) ∧ ¬ (c.toNat : Int) ≤ 122) ∨ (¬ 97 ≤ (c.toNat : Int) ∧ 65 ≤ (c.toNat : Int)) ∨ (¬ 97 ≤ (c.toNat : Int) ∧ ¬ 65 ≤ (c.toNat : Int)) := by omega
  rcases hcase with ⟨h1, h2⟩ | ⟨h1, h2⟩ | ⟨h1, h2⟩ | ⟨h1, h2⟩
  all_goals
    go_enter Try.func105, Try.ntmps105
    go_wp2
    go_ret
    refine ⟨ret_bool ?_, rfl⟩
    rw [Bool.eq_iff_iff]
    simp [isL] <;> omega
theorem isDigit_any (c : UInt8) (w : World) : Calls Try.prog 113 #[.int .u8 (c.toNat : Int)] w fun e w' => e = .returned (.bool (isD c)) ∧ w = w' := by
  have hc := c.toNat_lt
  have hcase : (48 ≤ (c.toNat : Int)) ∨ (¬ 48 ≤ (c.toNat : Int)) := by omega
  rcases hcase with h1 | h1
  all_goals
    go_enter Try.func113, Try.ntmps113
    go_wp2
    go_ret
    refine ⟨ret_bool ?_, rfl⟩
    rw [Bool.eq_iff_iff]
    simp [isD] <;> omega
theorem l1Digit_any (c : UInt8) (w : World) : Calls Try.prog 106 #[.int .u8 (c.toNat : Int)] w fun e w' => e = .returned (.bool (isD c)) ∧ w = w' := by
  have hc := c.toNat_lt
  have hcase : (48 ≤ (c.toNat : Int)) ∨ (¬ 48 ≤ (c.toNat : Int)) := by omega
  rcases hcase with h1 | h1
  all_goals
    go_enter Try.func106, Try.ntmps106
    go_wp2
    go_ret
    refine ⟨ret_bool ?_, rfl⟩
    rw [Bool.eq_iff_iff]
    simp [isD] <;> omega
def resv : List Str := [[105, 102], [101, 108, 115, 101], [102, 111, 114], [105, 110], [119, 104, 105, 108, 101], [98, 114, 101, 97, 107], [110, 101, 120, 116], [102, 117, 110, 99, 116, 105, 111, 110], [114, 101, 116, 117, 114, 110], [84, 82, 85, 69], [70, 65, 76, 83, 69], [78, 85, 76, 76], [78, 65], [78, 65, 95, 110, 117, 109, 98, 101, 114, 95], [78, 65, 95, 99, 104, 97, 114, 97, 99, 116, 101, 114, 95], [116, 114, 121, 67, 97, 116, 99, 104], [119, 105, 116, 104, 67, 97, 108, 108, 105, 110, 103, 72, 97, 110, 100, 108, 101, 114, 115], [119, 105, 116, 104, 82, 101, 115, 116, 97, 114, 116], [105, 110, 118, 111, 107, 101, 82, 101, 115, 116, 97, 114, 116], [109, 105, 115, 115, 105, 110, 103], [111, 110, 46, 101, 120, 105, 116], [85, 115, 101, 77, 101, 116, 104, 111, 100], [78, 101, 120, 116, 77, 101, 116, 104, 111, 100]]
def isRes (s : Str) : Bool := resv.contains s
set_option maxHeartbeats 2000000 in
theorem isReserved_any (s : Str) (w : World) : Calls Try.prog 111 #[sv s] w fun e w' => e = .returned (.bool (isRes s)) ∧ w = w' := by
  by_cases hm : s ∈ resv
  · have hres : isRes s = true := by unfold isRes; simpa using hm
    rw [hres]
    clear hres
    simp only [resv, List.mem_cons, List.not_mem_nil, or_false] at hm
    rcases hm with rfl | rfl | rfl | rfl | rfl | rfl | rfl | rfl | rfl | rfl | rfl | rfl | rfl | rfl | rfl | rfl | rfl | rfl | rfl | rfl | rfl | rfl | rfl
    all_goals
      go_enter Try.func111, Try.ntmps111
      go_wp2
      go_ret
      exact ⟨rfl, rfl⟩
  · have hres : isRes s = false := by unfold isRes; simpa using hm
    rw [hres]
    clear hres
    simp only [resv, List.mem_cons, List.not_mem_nil, or_false, not_or] at hm
    obtain ⟨n0, n1, n2, n3, n4, n5, n6, n7, n8, n9, n10, n11, n12, n13, n14, n15, n16, n17, n18, n19, n20, n21, n22⟩ := hm

    replace n0 : (s == [105, 102]) = false := by simpa using n0
    replace n1 : (s == [101, 108, 115, 101]) = false := by simpa using n1
    replace n2 : (s == [102, 111, 114]) = false := by simpa using n2
    replace n3 : (s == [105, 110]) = false := by simpa using n3
    replace n4 : (s == [119, 104, 105, 108, 101]) = false := by simpa using n4
    replace n5 : (s == [98, 114, 101, 97, 107]) = false := by simpa using n5
    replace n6 : (s == [110, 101, 120, 116]) = false := by simpa using n6
    replace n7 : (s == [102, 117, 110, 99, 116, 105, 111, 110]) = false := by simpa using n7
    replace n8 : (s == [114, 101, 116, 117, 114, 110]) = false := by simpa using n8
    replace n9 : (s == [84, 82, 85, 69]) = false := by simpa using n9
    replace n10 : (s == [70, 65, 76, 83, 69]) = false := by simpa using n10
    replace n11 : (s == [78, 85, 76, 76]) = false := by simpa using n11
    replace n12 : (s == [78, 65]) = false := by simpa using n12
    replace n13 : (s == [78, 65, 95, 110, 117, 109, 98, 101, 114, 95]) = false := by simpa using n13
    replace n14 : (s == [78, 65, 95, 99, 104, 97, 114, 97, 99, 116, 101, 114, 95]) = false := by simpa using n14
    replace n15 : (s == [116, 114, 121, 67, 97, 116, 99, 104]) = false := by simpa using n15
    replace n16 : (s == [119, 105, 116, 104, 67, 97, 108, 108, 105, 110, 103, 72, 97, 110, 100, 108, 101, 114, 115]) = false := by simpa using n16
    replace n17 : (s == [119, 105, 116, 104, 82, 101, 115, 116, 97, 114, 116]) = false := by simpa using n17
    replace n18 : (s == [105, 110, 118, 111, 107, 101, 82, 101, 115, 116, 97, 114, 116]) = false := by simpa using n18
    replace n19 : (s == [109, 105, 115, 115, 105, 110, 103]) = false := by simpa using n19
    replace n20 : (s == [111, 110, 46, 101, 120, 105, 116]) = false := by simpa using n20
    replace n21 : (s == [85, 115, 101, 77, 101, 116, 104, 111, 100]) = false := by simpa using n21
    replace n22 : (s == [78, 101, 120, 116, 77, 101, 116, 104, 111, 100]) = false := by simpa using n22
    go_enter Try.func111, Try.ntmps111
    go_wp2
    go_ret
    exact ⟨rfl, rfl⟩
set_option maxHeartbeats 1000000 in
theorem l1Reserved_any (s : Str) (w : World) : Calls Try.prog 107 #[sv s] w fun e w' => e = .returned (.bool (isRes s)) ∧ Below w.heap.size w w' := by
  go_enter Try.func107, Try.ntmps107
  go_wp2_with fail
  refine (l1Has_any _ 23 23 resv s _ ?_ (by unfold maxLen; omega)).mono ?_
  · have hbl := Blk.new_ w 9 (resv.flatMap encS).toArray
    exact Blk.reads (l := resv) encS_len hbl hbl.lt
  rintro e w1 ⟨rfl, rfl⟩
  go_wp2_with fail
  go_ret
  exact ⟨ret_bool (by simp [isRes]), (Below.refl _ _).alloc (Nat.le_refl _) _⟩
def synB (c : UInt8) : Bool := isL c || isD c || c.toNat == 46 || c.toNat == 95
def hdOK : Str → Bool
  | [] => false
  | c :: t => (isL c || c.toNat == 46) && !(c.toNat == 46 && (match t with | d :: _ => isD d | [] => false))
def isSyn (s : Str) : Bool := isNm s && !isRes s && s.all synB && hdOK s
theorem isNm_len {s : Str} (h : isNm s = true) : 1 ≤ s.length ∧ s.length ≤ 20 := by
  rw [isNm, Bool.and_eq_true] at h; simpa using h.2
theorem isSyn_no {s : Str} (h : isNm s = false ∨ isRes s = true ∨ s.all synB = false ∨ hdOK s = false) : isSyn s = false := by
  unfold isSyn
  rcases h with h | h | h | h <;> simp [h]
end Go.Proofs.Ytekcpadlmfaihaa
namespace Go.Proofs.Ytekcpadlmfaihaa
open Go.RowKit
theorem dot_beq (c : UInt8) (n : Nat) (b : Bool) (h : (c.toNat == n) = b) : (((c.toNat : Int)) == (n : Int)) = b := by
  rw [← h, Bool.eq_iff_iff]; simp; omega
theorem dot_bne (c : UInt8) (n : Nat) (b : Bool) (h : (c.toNat == n) = b) : (((c.toNat : Int)) != (n : Int)) = !b := by
  rw [← h, bne, dot_beq c n _ rfl]
set_option maxHeartbeats 4000000 in
theorem implIsSyn_any (s : Str) (w : World) (hs : s.length ≤ maxLen) :
    Calls Try.prog 89 #[sv s] w fun e w' => e = .returned (.bool (isSyn s)) ∧ w = w' := by
  go_enter Try.func89, Try.ntmps89
  go_wp2_with fail
  refine (implIsName_any s _ hs).mono ?_
  rintro e w1 ⟨rfl, rfl⟩
  cases hN : isNm s with
  | false =>
    go_wp2_with fail
    go_ret
    exact ⟨ret_bool (isSyn_no (.inl hN)).symm, rfl⟩
  | true =>
    have hl := isNm_len hN
    go_wp2_with fail
    refine (isReserved_any s _).mono ?_
    rintro e w1 ⟨rfl, rfl⟩
    cases hR : isRes s with
    | true =>
      go_wp2_with fail
      go_ret
      exact ⟨ret_bool (isSyn_no (.inr (.inl hR))).symm, rfl⟩
    | false =>
      obtain ⟨c0, t, rfl⟩ : ∃ c t, s = c :: t := by cases s with | nil => simp at hl | cons c t => exact ⟨c, t, rfl⟩
      have hmain : isSyn (c0 :: t) = ((c0 :: t).all synB && hdOK (c0 :: t)) := by unfold isSyn; rw [hN, hR]; simp
      have HM := Lib.hid hmain
      have HNo := Lib.hid (fun h => isSyn_no (s := c0 :: t) h)
      clear hmain hN hR hs
      simp only [List.length_cons] at hl
      have l0 : (0 : Int) < (t.length : Int) + 1 := by omega
      go_wp2_with fail
      refine (isLetter_any c0 _).mono ?_
      rintro e w1 ⟨rfl, rfl⟩
      cases hL : isL c0 with
      | false =>
        cases hd : (c0.toNat == 46) with
        | false =>
          have hd' : ((c0.toNat : Int) != 46) = true := dot_bne c0 46 _ hd
          have hh : hdOK (c0 :: t) = false := by simp only [hdOK, hL, hd]; rfl
          have HH := Lib.hid hh
          clear hh hd
          go_wp2_with fail
          go_ret
          exact ⟨ret_bool (HNo.out (.inr (.inr (.inr HH.out)))).symm, rfl⟩
        | true =>
          have hd' : ((c0.toNat : Int) != 46) = false := dot_bne c0 46 _ hd
          have hd2 : ((c0.toNat : Int) == 46) = true := dot_beq c0 46 _ hd
          cases t with
          | nil =>
            have hh : hdOK [c0] = true := by simp only [hdOK, hL, hd]; rfl
            have HH := Lib.hid hh
            clear hh hL hd
            go_wp2_with fail
            have hkey : ∀ s : Str, s = c0 :: [] → (s.all synB = true → isSyn (c0 :: []) = true) ∧ (s.all synB = false → isSyn (c0 :: []) = false) ∧ s.length ≤ 20 := by
              rintro s rfl
              refine ⟨fun h => ?_, fun h => HNo.out (.inr (.inr (.inl h))), ?_⟩
              · rw [HM.out, h, HH.out]; rfl
              · simp only [List.length_cons] at hl ⊢; omega
            obtain ⟨s, hss⟩ : ∃ s : Str, s = c0 :: [] := ⟨_, rfl⟩
            have HK := Lib.hid (hkey s hss)
            rw [← hss]
            have hlen := HK.out.2.2
            clear hss hkey
            have hlen' : (s.length : Int) ≤ 20 := by omega
            go_loop [3] (fun i => ∃ k : Nat, k ≤ s.length ∧ i = .int .i64 k ∧ (s.take k).all synB = true) (fun i => s.length - (intOf i).toNat)
            case atStart => exact ⟨0, by omega, rfl, by simp⟩
            case round =>
              obtain ⟨k, hk, rfl, hf⟩ := hrel
              have HF := Lib.hid hf
              clear hf
              by_cases hlt : k < s.length
              · have HX := Lib.hid (List.getElem?_eq_getElem hlt)
                go_wp2_with fail
                refine (isLetter_any s[k] _).mono ?_
                rintro e w1 ⟨rfl, rfl⟩
                cases hL1 : isL s[k] with
                | true =>
                  go_wp2_with fail
                  go_round
                  case rel => exact ⟨k + 1, by omega, by go_num, all_snoc HX.out HF.out (by simp [synB, hL1])⟩
                  case measure => simp [intOf]; omega
                | false =>
                  go_wp2_with fail
                  refine (isDigit_any s[k] _).mono ?_
                  rintro e w1 ⟨rfl, rfl⟩
                  cases hD1 : isD s[k] with
                  | true =>
                    go_wp2_with fail
                    go_round
                    case rel => exact ⟨k + 1, by omega, by go_num, all_snoc HX.out HF.out (by simp [synB, hD1])⟩
                    case measure => simp [intOf]; omega
                  | false =>
                    cases h46 : (s[k].toNat == 46) with
                    | true =>
                      have h46' : ((s[k].toNat : Int) != 46) = false := dot_bne s[k] 46 _ h46
                      have H46 := Lib.hid h46
                      clear h46
                      go_wp2_with fail
                      go_round
                      case rel => exact ⟨k + 1, by omega, by go_num, all_snoc HX.out HF.out (by simp [synB, H46.out])⟩
                      case measure => simp [intOf]; omega
                    | false =>
                      have h46' : ((s[k].toNat : Int) != 46) = true := dot_bne s[k] 46 _ h46
                      cases h95 : (s[k].toNat == 95) with
                      | true =>
                        have h95' : ((s[k].toNat : Int) != 95) = false := dot_bne s[k] 95 _ h95
                        have H95 := Lib.hid h95
                        clear h95 h46
                        go_wp2_with fail
                        go_round
                        case rel => exact ⟨k + 1, by omega, by go_num, all_snoc HX.out HF.out (by simp [synB, H95.out])⟩
                        case measure => simp [intOf]; omega
                      | false =>
                        have h95' : ((s[k].toNat : Int) != 95) = true := dot_bne s[k] 95 _ h95
                        have hbad : synB s[k] = false := by simp only [synB, hL1, hD1, h46, h95]; rfl
                        have HB := Lib.hid hbad
                        clear hbad h46 h95
                        go_wp2_with fail
                        go_ret
                        exact ⟨ret_bool (HK.out.2.1 (all_bad HX.out HB.out)).symm, rfl⟩
              · obtain rfl : k = s.length := by omega
                go_wp2_with fail
                go_ret
                refine ⟨ret_bool ?_, rfl⟩
                have := HF.out
                rw [List.take_length] at this
                exact (HK.out.1 this).symm
          | cons c1 u =>
            have hlu : (1 : Int) < (u.length : Int) + 1 + 1 := by omega
            go_wp2_with fail
            refine (isDigit_any c1 _).mono ?_
            rintro e w1 ⟨rfl, rfl⟩
            cases hD : isD c1 with
            | true =>
              have hh : hdOK (c0 :: c1 :: u) = false := by simp only [hdOK, hL, hd, hD]; rfl
              have HH := Lib.hid hh
              clear hh hd
              go_wp2_with fail
              go_ret
              exact ⟨ret_bool (HNo.out (.inr (.inr (.inr HH.out)))).symm, rfl⟩
            | false =>
              have hh : hdOK (c0 :: c1 :: u) = true := by simp only [hdOK, hL, hd, hD]; rfl
              have HH := Lib.hid hh
              clear hh hL hd
              go_wp2_with fail
              have hkey : ∀ s : Str, s = c0 :: (c1 :: u) → (s.all synB = true → isSyn (c0 :: (c1 :: u)) = true) ∧ (s.all synB = false → isSyn (c0 :: (c1 :: u)) = false) ∧ s.length ≤ 20 := by
                rintro s rfl
                refine ⟨fun h => ?_, fun h => HNo.out (.inr (.inr (.inl h))), ?_⟩
                · rw [HM.out, h, HH.out]; rfl
                · simp only [List.length_cons] at hl ⊢; omega
              obtain ⟨s, hss⟩ : ∃ s : Str, s = c0 :: (c1 :: u) := ⟨_, rfl⟩
              have HK := Lib.hid (hkey s hss)
              rw [← hss]
              have hlen := HK.out.2.2
              clear hss hkey
              have hlen' : (s.length : Int) ≤ 20 := by omega
              go_loop [3] (fun i => ∃ k : Nat, k ≤ s.length ∧ i = .int .i64 k ∧ (s.take k).all synB = true) (fun i => s.length - (intOf i).toNat)
              case atStart => exact ⟨0, by omega, rfl, by simp⟩
              case round =>
                obtain ⟨k, hk, rfl, hf⟩ := hrel
                have HF := Lib.hid hf
                clear hf
                by_cases hlt : k < s.length
                · have HX := Lib.hid (List.getElem?_eq_getElem hlt)
                  go_wp2_with fail
                  refine (isLetter_any s[k] _).mono ?_
                  rintro e w1 ⟨rfl, rfl⟩
                  cases hL1 : isL s[k] with
                  | true =>
                    go_wp2_with fail
                    go_round
                    case rel => exact ⟨k + 1, by omega, by go_num, all_snoc HX.out HF.out (by simp [synB, hL1])⟩
                    case measure => simp [intOf]; omega
                  | false =>
                    go_wp2_with fail
                    refine (isDigit_any s[k] _).mono ?_
                    rintro e w1 ⟨rfl, rfl⟩
                    cases hD1 : isD s[k] with
                    | true =>
                      go_wp2_with fail
                      go_round
                      case rel => exact ⟨k + 1, by omega, by go_num, all_snoc HX.out HF.out (by simp [synB, hD1])⟩
                      case measure => simp [intOf]; omega
                    | false =>
                      cases h46 : (s[k].toNat == 46) with
                      | true =>
                        have h46' : ((s[k].toNat : Int) != 46) = false := dot_bne s[k] 46 _ h46
                        have H46 := Lib.hid h46
                        clear h46
                        go_wp2_with fail
                        go_round
                        case rel => exact ⟨k + 1, by omega, by go_num, all_snoc HX.out HF.out (by simp [synB, H46.out])⟩
                        case measure => simp [intOf]; omega
                      | false =>
                        have h46' : ((s[k].toNat : Int) != 46) = true := dot_bne s[k] 46 _ h46
                        cases h95 : (s[k].toNat == 95) with
                        | true =>
                          have h95' : ((s[k].toNat : Int) != 95) = false := dot_bne s[k] 95 _ h95
                          have H95 := Lib.hid h95
                          clear h95 h46
                          go_wp2_with fail
                          go_round
                          case rel => exact ⟨k + 1, by omega, by go_num, all_snoc HX.out HF.out (by simp [synB, H95.out])⟩
                          case measure => simp [intOf]; omega
                        | false =>
                          have h95' : ((s[k].toNat : Int) != 95) = true := dot_bne s[k] 95 _ h95
                          have hbad : synB s[k] = false := by simp only [synB, hL1, hD1, h46, h95]; rfl
                          have HB := Lib.hid hbad
                          clear hbad h46 h95
                          go_wp2_with fail
                          go_ret
                          exact ⟨ret_bool (HK.out.2.1 (all_bad HX.out HB.out)).symm, rfl⟩
                · obtain rfl : k = s.length := by omega
                  go_wp2_with fail
                  go_ret
                  refine ⟨ret_bool ?_, rfl⟩
                  have := HF.out
                  rw [List.take_length] at this
                  exact (HK.out.1 this).symm
      | true =>
        have hne : (c0.toNat == 46) = false := by
          have := hL
          simp [isL] at this
          simp; omega
        have hd2 : ((c0.toNat : Int) == 46) = false := dot_beq c0 46 _ hne
        have hh : hdOK (c0 :: t) = true := by simp only [hdOK, hL, hne]; rfl
        have HH := Lib.hid hh
        clear hh hL hne
        go_wp2_with fail
        have hkey : ∀ s : Str, s = c0 :: t → (s.all synB = true → isSyn (c0 :: t) = true) ∧ (s.all synB = false → isSyn (c0 :: t) = false) ∧ s.length ≤ 20 := by
          rintro s rfl
          refine ⟨fun h => ?_, fun h => HNo.out (.inr (.inr (.inl h))), ?_⟩
          · rw [HM.out, h, HH.out]; rfl
          · simp only [List.length_cons] at hl ⊢; omega
        obtain ⟨s, hss⟩ : ∃ s : Str, s = c0 :: t := ⟨_, rfl⟩
        have HK := Lib.hid (hkey s hss)
        rw [← hss]
        have hlen := HK.out.2.2
        clear hss hkey
        have hlen' : (s.length : Int) ≤ 20 := by omega
        go_loop [3] (fun i => ∃ k : Nat, k ≤ s.length ∧ i = .int .i64 k ∧ (s.take k).all synB = true) (fun i => s.length - (intOf i).toNat)
        case atStart => exact ⟨0, by omega, rfl, by simp⟩
        case round =>
          obtain ⟨k, hk, rfl, hf⟩ := hrel
          have HF := Lib.hid hf
          clear hf
          by_cases hlt : k < s.length
          · have HX := Lib.hid (List.getElem?_eq_getElem hlt)
            go_wp2_with fail
            refine (isLetter_any s[k] _).mono ?_
            rintro e w1 ⟨rfl, rfl⟩
            cases hL1 : isL s[k] with
            | true =>
              go_wp2_with fail
              go_round
              case rel => exact ⟨k + 1, by omega, by go_num, all_snoc HX.out HF.out (by simp [synB, hL1])⟩
              case measure => simp [intOf]; omega
            | false =>
              go_wp2_with fail
              refine (isDigit_any s[k] _).mono ?_
              rintro e w1 ⟨rfl, rfl⟩
              cases hD1 : isD s[k] with
              | true =>
                go_wp2_with fail
                go_round
                case rel => exact ⟨k + 1, by omega, by go_num, all_snoc HX.out HF.out (by simp [synB, hD1])⟩
                case measure => simp [intOf]; omega
              | false =>
                cases h46 : (s[k].toNat == 46) with
                | true =>
                  have h46' : ((s[k].toNat : Int) != 46) = false := dot_bne s[k] 46 _ h46
                  have H46 := Lib.hid h46
                  clear h46
                  go_wp2_with fail
                  go_round
                  case rel => exact ⟨k + 1, by omega, by go_num, all_snoc HX.out HF.out (by simp [synB, H46.out])⟩
                  case measure => simp [intOf]; omega
                | false =>
                  have h46' : ((s[k].toNat : Int) != 46) = true := dot_bne s[k] 46 _ h46
                  cases h95 : (s[k].toNat == 95) with
                  | true =>
                    have h95' : ((s[k].toNat : Int) != 95) = false := dot_bne s[k] 95 _ h95
                    have H95 := Lib.hid h95
                    clear h95 h46
                    go_wp2_with fail
                    go_round
                    case rel => exact ⟨k + 1, by omega, by go_num, all_snoc HX.out HF.out (by simp [synB, H95.out])⟩
                    case measure => simp [intOf]; omega
                  | false =>
                    have h95' : ((s[k].toNat : Int) != 95) = true := dot_bne s[k] 95 _ h95
                    have hbad : synB s[k] = false := by simp only [synB, hL1, hD1, h46, h95]; rfl
                    have HB := Lib.hid hbad
                    clear hbad h46 h95
                    go_wp2_with fail
                    go_ret
                    exact ⟨ret_bool (HK.out.2.1 (all_bad HX.out HB.out)).symm, rfl⟩
          · obtain rfl : k = s.length := by omega
            go_wp2_with fail
            go_ret
            refine ⟨ret_bool ?_, rfl⟩
            have := HF.out
            rw [List.take_length] at this
            exact (HK.out.1 this).symm
end Go.Proofs.Ytekcpadlmfaihaa
namespace Go.Proofs.Ytekcpadlmfaihaa
open Go.RowKit
def fstOK : Str → Bool
  | [] => true
  | c :: _ => isL c || c.toNat == 46
def sndD : Str → Bool
  | d :: _ => isD d
  | [] => false
theorem hd_cons (c : UInt8) (t : Str) : hdOK (c :: t) = ((isL c || c.toNat == 46) && !(c.toNat == 46 && sndD t)) := by cases t <;> rfl
theorem fst_hd {s : Str} (h : fstOK s = false) : hdOK s = false := by
  cases s with
  | nil => cases h
  | cons c t => simp only [fstOK] at h; simp only [hdOK, h]; rfl
theorem fst_at {s : Str} {c : UInt8} (h : s[0]? = some c) : fstOK s = (isL c || c.toNat == 46) := by
  cases s with
  | nil => simp at h
  | cons d t => simp at h; subst h; rfl
set_option maxHeartbeats 4000000 in
theorem specIsSyn_any (s : Str) (w : World) (hs : s.length ≤ maxLen) :
    Calls Try.prog 87 #[sv s] w fun e w' => e = .returned (.bool (isSyn s)) ∧ Below w.heap.size w w' := by
  have hs' : s.length ≤ 9223372036854775807 := hs
  go_enter Try.func87, Try.ntmps87
  go_wp2_with fail
  go_loop [3] (fun i => ∃ k : Nat, k ≤ s.length ∧ i = .int .i64 k ∧ (s.take k).all synB = true ∧ (0 < k → fstOK s = true)) (fun i => s.length - (intOf i).toNat)
  case atStart => exact ⟨0, by omega, rfl, by simp, by simp⟩
  case round =>
    obtain ⟨k, hk, rfl, hf, hf0⟩ := hrel
    have HF := Lib.hid hf
    have HF0 := Lib.hid hf0
    have HNo := Lib.hid (fun h => isSyn_no (s := s) h)
    clear hf hf0
    by_cases hlt : k < s.length
    · have HX := Lib.hid (List.getElem?_eq_getElem hlt)
      have hfst : k = 0 → fstOK s = (isL s[k] || s[k].toNat == 46) := fun h0 => by
        subst h0
        exact fst_at HX.out
      have HFst := Lib.hid hfst
      clear hfst
      go_wp2_with fail
      refine (l1Letter_any s[k] _).mono ?_
      rintro e w1 ⟨rfl, rfl⟩
      cases hL1 : isL s[k] with
      | true =>
        go_wp2_with fail
        go_round
        case rel => exact ⟨k + 1, by omega, by go_num, all_snoc HX.out HF.out (by simp [synB, hL1]), fun _ => by
            rcases Nat.eq_zero_or_pos k with h0 | h0
            · rw [HFst.out h0, hL1]; rfl
            · exact HF0.out h0⟩
        case measure => simp [intOf]; omega
      | false =>
        cases h46 : (s[k].toNat == 46) with
        | true =>
          have h46' : ((s[k].toNat : Int) != 46) = false := dot_bne s[k] 46 _ h46
          have H46 := Lib.hid h46
          clear h46
          go_wp2_with fail
          go_round
          case rel => exact ⟨k + 1, by omega, by go_num, all_snoc HX.out HF.out (by simp [synB, H46.out]), fun _ => by
              rcases Nat.eq_zero_or_pos k with h0 | h0
              · rw [HFst.out h0, H46.out]; simp
              · exact HF0.out h0⟩
          case measure => simp [intOf]; omega
        | false =>
          have h46' : ((s[k].toNat : Int) != 46) = true := dot_bne s[k] 46 _ h46
          have H46 := Lib.hid h46
          clear h46
          rcases Nat.eq_zero_or_pos k with h0 | h0
          · have hbad : fstOK s = false := by rw [HFst.out h0, hL1, H46.out]; rfl
            have HB := Lib.hid hbad
            have hk0 : ((k : Int) == 0) = true := by simp; omega
            clear hbad h0
            go_wp2_with fail
            go_ret
            exact ⟨ret_bool (HNo.out (.inr (.inr (.inr (fst_hd HB.out))))).symm, Below.refl _ _⟩
          · have hk0 : ((k : Int) == 0) = false := by simp; omega
            go_wp2_with fail
            refine (l1Digit_any s[k] _).mono ?_
            rintro e w1 ⟨rfl, rfl⟩
            cases hD1 : isD s[k] with
            | true =>
              go_wp2_with fail
              go_round
              case rel => exact ⟨k + 1, by omega, by go_num, all_snoc HX.out HF.out (by simp [synB, hD1]), fun _ => HF0.out h0⟩
              case measure => simp [intOf]; omega
            | false =>
              cases h95 : (s[k].toNat == 95) with
              | true =>
                have h95' : ((s[k].toNat : Int) != 95) = false := dot_bne s[k] 95 _ h95
                have H95 := Lib.hid h95
                clear h95
                go_wp2_with fail
                go_round
                case rel => exact ⟨k + 1, by omega, by go_num, all_snoc HX.out HF.out (by simp [synB, H95.out]), fun _ => HF0.out h0⟩
                case measure => simp [intOf]; omega
              | false =>
                have h95' : ((s[k].toNat : Int) != 95) = true := dot_bne s[k] 95 _ h95
                have hbad : synB s[k] = false := by simp only [synB, hL1, hD1, H46.out, h95]; rfl
                have HB := Lib.hid hbad
                clear hbad h95
                go_wp2_with fail
                go_ret
                exact ⟨ret_bool (HNo.out (.inr (.inr (.inl (all_bad HX.out HB.out))))).symm, Below.refl _ _⟩
    · obtain rfl : k = s.length := by omega
      have hall : s.all synB = true := by have := HF.out; rwa [List.take_length] at this
      have HA := Lib.hid hall
      clear hall
      go_wp2_with fail
      refine (specIsName_any s _ hs).mono ?_
      rintro e w1 ⟨rfl, rfl⟩
      cases hN : isNm s with
      | false =>
        go_wp2_with fail
        go_ret
        exact ⟨ret_bool (HNo.out (.inl hN)).symm, Below.refl _ _⟩
      | true =>
        have hl := isNm_len hN
        go_wp2_with fail
        refine (l1Reserved_any s _).mono ?_
        rintro e w1 ⟨rfl, hb1⟩
        cases hR : isRes s with
        | true =>
          go_wp2_with fail
          go_ret
          exact ⟨ret_bool (HNo.out (.inr (.inl hR))).symm, hb1⟩
        | false =>
          have hmain : isSyn s = hdOK s := by unfold isSyn; rw [hN, hR, HA.out]; simp
          have hfo := HF0.out (by omega)
          obtain ⟨c0, t, rfl⟩ : ∃ c t, s = c :: t := by cases s with | nil => simp at hl | cons c t => exact ⟨c, t, rfl⟩
          simp only [fstOK] at hfo
          have hmain2 : isSyn (c0 :: t) = !(c0.toNat == 46 && sndD t) := by rw [hmain, hd_cons, hfo, Bool.true_and]
          have HM := Lib.hid hmain2
          clear hmain hmain2 hN hR hfo HF HF0 HNo HA
          simp only [List.length_cons] at hl
          have l0 : (0 : Int) < (t.length : Int) + 1 := by omega
          cases hd : (c0.toNat == 46) with
          | false =>
            have hd' : ((c0.toNat : Int) != 46) = true := dot_bne c0 46 _ hd
            have hres : isSyn (c0 :: t) = true := by rw [HM.out, hd]; rfl
            have HR := Lib.hid hres
            clear hres hd
            go_wp2_with fail
            go_ret
            exact ⟨ret_bool HR.out.symm, hb1⟩
          | true =>
            have hd' : ((c0.toNat : Int) != 46) = false := dot_bne c0 46 _ hd
            cases t with
            | nil =>
              have hres : isSyn [c0] = true := by rw [HM.out, hd]; rfl
              have HR := Lib.hid hres
              clear hres hd
              go_wp2_with fail
              go_ret
              exact ⟨ret_bool HR.out.symm, hb1⟩
            | cons c1 u =>
              have hres : isSyn (c0 :: c1 :: u) = !isD c1 := by rw [HM.out, hd]; rfl
              have HR := Lib.hid hres
              clear hres hd
              have hlu : (1 : Int) < (u.length : Int) + 1 + 1 := by omega
              have hlu2 : (((u.length : Int) + 1 + 1) == 1) = false := by simp; omega
              go_wp2_with fail
              refine (l1Digit_any c1 _).mono ?_
              rintro e w2 ⟨rfl, rfl⟩
              cases hD : isD c1 with
              | true =>
                go_wp2_with fail
                go_ret
                exact ⟨ret_bool (by rw [HR.out, hD]; rfl), hb1⟩
              | false =>
                go_wp2_with fail
                go_ret
                exact ⟨ret_bool (by rw [HR.out, hD]; rfl), hb1⟩
def fmtN (s : Str) : Str := if isSyn s then s else if isNm s then 96 :: (s ++ [96]) else []
theorem isSyn_nm {s : Str} (h : isSyn s = true) : isNm s = true := by
  unfold isSyn at h; simp only [Bool.and_eq_true] at h; exact h.1.1.1
theorem implFormatName_any (s : Str) (w : World) (hs : s.length ≤ maxLen) :
    Calls Try.prog 56 #[sv s] w fun e w' => e = .returned (sv (fmtN s)) ∧ w = w' := by
  go_enter Try.func56, Try.ntmps56
  go_wp2_with fail
  refine (implIsSyn_any s _ hs).mono ?_
  rintro e w1 ⟨rfl, rfl⟩
  cases hS : isSyn s with
  | true =>
    go_wp2_with fail
    go_ret
    exact ⟨ret_str (by rw [fmtN, hS]; rfl), rfl⟩
  | false =>
    go_wp2_with fail
    refine (implIsName_any s _ hs).mono ?_
    rintro e w1 ⟨rfl, rfl⟩
    cases hN : isNm s with
    | false =>
      go_wp2_with fail
      go_ret
      exact ⟨ret_str (by rw [fmtN, hS, hN]; rfl), rfl⟩
    | true =>
      have hl := isNm_len hN
      go_wp2_with fail
      go_ret
      exact ⟨ret_str (by rw [fmtN, hS, hN]; rfl), rfl⟩
theorem specFormatName_any (s : Str) (w : World) (hs : s.length ≤ maxLen) :
    Calls Try.prog 53 #[sv s] w fun e w' => e = .returned (sv (fmtN s)) ∧ Below w.heap.size w w' := by
  go_enter Try.func53, Try.ntmps53
  go_wp2_with fail
  refine (specIsName_any s _ hs).mono ?_
  rintro e w1 ⟨rfl, rfl⟩
  cases hN : isNm s with
  | false =>
    have hS : isSyn s = false := by
      cases h : isSyn s with
      | false => rfl
      | true => rw [isSyn_nm h] at hN; cases hN
    go_wp2_with fail
    go_ret
    exact ⟨ret_str (by rw [fmtN, hS, hN]; rfl), Below.refl _ _⟩
  | true =>
    have hl := isNm_len hN
    go_wp2_with fail
    refine (specIsSyn_any s _ hs).mono ?_
    rintro e w1 ⟨rfl, hb1⟩
    cases hS : isSyn s with
    | true =>
      go_wp2_with fail
      go_ret
      exact ⟨ret_str (by rw [fmtN, hS]; rfl), hb1⟩
    | false =>
      go_wp2_with fail
      go_ret
      exact ⟨ret_str (by rw [fmtN, hS, hN]; rfl), hb1⟩
end Go.Proofs.Ytekcpadlmfaihaa
namespace Go.Proofs.Ytekcpadlmfaihaa
open Go.RowKit
abbrev av (cs : List Value) : Value := .agg cs.toArray
def lenV (v : Vec) : Nat := if v.kind = 5 then 1 else v.items.length + v.parts.length
theorem lenV_le (v : Vec) : lenV v ≤ v.items.length + v.parts.length + 1 := by unfold lenV; split <;> omega
set_option maxHeartbeats 1000000 in
theorem length_any (v : Vec) (cs : List Value) (w : World) (h : rep w w.heap.size v.toD cs) (hl : v.items.length + v.parts.length ≤ 9223372036854775807) :
    Calls Try.prog 100 #[av cs] w fun e w' => e = .returned (.int .i64 (lenV v)) ∧ Below w.heap.size w w' := by
  obtain ⟨Ai, ni, ci, Ap, np, cp, An, nn, cn, Ac, nc, cc, Al, nl, cl, rfl, hv⟩ := vec_open h
  rw [hv.it.len, hv.pab.2.2] at hl
  have HI := Lib.hid hv.it.len
  have HP := Lib.hid hv.pab.2.2
  by_cases hk : v.kind = 5
  · have hd : (v.kind == 5) = true := by simpa using hk
    have HK := Lib.hid hk
    clear hk
    go_enter Try.func100, Try.ntmps100
    go_wp2_with fail
    go_ret
    exact ⟨ret_int (by rw [lenV, if_pos HK.out]; rfl), (Below.refl _ _).alloc (Nat.le_refl _) _⟩
  · have hd : (v.kind == 5) = false := by simpa using hk
    go_enter Try.func100, Try.ntmps100
    go_wp2_with fail
    go_ret
    exact ⟨ret_int (by rw [lenV, if_neg hk, HI.out, HP.out]; omega), (Below.refl _ _).alloc (Nat.le_refl _) _⟩
set_option maxHeartbeats 1000000 in
theorem l4Len_any (v : Vec) (cs : List Value) (w : World) (h : rep w w.heap.size v.toD cs) (hl : v.items.length + v.parts.length ≤ 9223372036854775807) :
    Calls Try.prog 94 #[av cs] w fun e w' => e = .returned (.int .i64 (lenV v)) ∧ Below w.heap.size w w' := by
  obtain ⟨Ai, ni, ci, Ap, np, cp, An, nn, cn, Ac, nc, cc, Al, nl, cl, rfl, hv⟩ := vec_open h
  rw [hv.it.len, hv.pab.2.2] at hl
  have HI := Lib.hid hv.it.len
  have HP := Lib.hid hv.pab.2.2
  by_cases hk : v.kind = 5
  · have hd : (v.kind == 5) = true := by simpa using hk
    have HK := Lib.hid hk
    clear hk
    go_enter Try.func94, Try.ntmps94
    go_wp2_with fail
    go_ret
    exact ⟨ret_int (by rw [lenV, if_pos HK.out]; rfl), (Below.refl _ _).alloc (Nat.le_refl _) _⟩
  · have hd : (v.kind == 5) = false := by simpa using hk
    go_enter Try.func94, Try.ntmps94
    go_wp2_with fail
    go_ret
    exact ⟨ret_int (by rw [lenV, if_neg hk, HI.out, HP.out]; omega), (Below.refl _ _).alloc (Nat.le_refl _) _⟩
def atomK (k : Int) : Bool := decide (1 ≤ k ∧ k ≤ 3)
theorem isAtomic_any (v : Vec) (cs : List Value) (w : World) (h : rep w w.heap.size v.toD cs) :
    Calls Try.prog 34 #[av cs] w fun e w' => e = .returned (.bool (atomK v.kind)) ∧ Below w.heap.size w w' := by
  obtain ⟨Ai, ni, ci, Ap, np, cp, An, nn, cn, Ac, nc, cc, Al, nl, cl, rfl, hv⟩ := vec_open h
  go_enter Try.func34, Try.ntmps34
  go_wp2_with fail
  all_goals (go_ret; refine ⟨ret_bool ?_, (Below.refl _ _).alloc (Nat.le_refl _) _⟩)
  all_goals (rw [atomK, eq_comm, Bool.eq_iff_iff]; simp_all <;> omega)
def itemOK (kind : Int) (x : Item) : Bool :=
  isMiss x || (if kind = 1 then x.text.isEmpty && (x.den == 1) && (x.num == 0 || x.num == 1) else if kind = 2 then isNum x else if kind = 3 then (x.num == 0) && (x.den == 1) && decide (x.text.length ≤ 60) else false)
set_option maxHeartbeats 2000000 in
theorem itemValid_any (kind : Int) (x : Item) (w : World) (hx : itOK x) : Calls Try.prog 119 #[.int .i64 kind, itv x] w fun e w' => e = .returned (.bool (itemOK kind x)) ∧ Below w.heap.size w w' := by
  have hl : x.text.length ≤ 9223372036854775807 := hx.2.2
  have q0 := (Below.refl w.heap.size w).alloc (Nat.le_refl _) (.cells #[.int .i64 x.num, .int .i64 x.den, sv x.text] 101)
  go_enter Try.func119, Try.ntmps119
  go_wp2_with fail
  refine (isMissing_any x _).mono ?_
  rintro e w1 ⟨rfl, hb1⟩
  obtain ⟨hc1, _⟩ := bcell hb1
  simp only [wsize_alloc] at hc1
  have q1 := bth q0 hb1
  cases hm : isMiss x with
  | true =>
    go_wp2_with fail
    go_ret
    exact ⟨ret_bool (by rw [itemOK, hm]; rfl), q1⟩
  | false =>
    by_cases k1 : kind = 1
    · subst k1
      go_wp2_with fail
      all_goals (go_ret; refine ⟨ret_bool ?_, q1⟩)
      all_goals (rw [itemOK, hm, eq_comm, Bool.false_or]; simp [*])
    by_cases k2 : kind = 2
    · subst k2
      go_wp2_with (first | (go_at_call 131; ((with_reducible refine (implIsNumber_any x _).mono ?_); rintro e w2 ⟨rfl, hb2⟩)))
      go_ret
      exact ⟨ret_bool (by rw [itemOK, hm]; rfl), bth q1 hb2⟩
    by_cases k3 : kind = 3
    · subst k3
      go_wp2_with fail
      all_goals (go_ret; refine ⟨ret_bool ?_, q1⟩)
      all_goals (rw [itemOK, hm, eq_comm, Bool.false_or, Bool.eq_iff_iff]; simp [*] <;> omega)
    have e1 : (kind == 1) = false := by simpa using k1
    have e2 : (kind == 2) = false := by simpa using k2
    have e3 : (kind == 3) = false := by simpa using k3
    have HR := Lib.hid (show itemOK kind x = false by rw [itemOK, hm, if_neg k1, if_neg k2, if_neg k3]; rfl)
    clear k1 k2 k3
    go_wp2_with fail
    go_ret
    exact ⟨ret_bool HR.out.symm, q1⟩
set_option maxHeartbeats 2000000 in
theorem l4Item_any (kind : Int) (x : Item) (w : World) (hx : itOK x) : Calls Try.prog 97 #[.int .i64 kind, itv x] w fun e w' => e = .returned (.bool (itemOK kind x)) ∧ Below w.heap.size w w' := by
  have hl : x.text.length ≤ 9223372036854775807 := hx.2.2
  have q0 := (Below.refl w.heap.size w).alloc (Nat.le_refl _) (.cells #[.int .i64 x.num, .int .i64 x.den, sv x.text] 101)
  cases hm : isMiss x with
  | true =>
    obtain rfl : x = ⟨0, 0, []⟩ := by simpa [isMiss] using hm
    clear hm
    go_enter Try.func97, Try.ntmps97
    go_wp2_with fail
    go_ret
    exact ⟨rfl, q0⟩
  | false =>
    have hne : ¬ x = ⟨0, 0, []⟩ := by intro h; rw [h] at hm; cases hm
    have h3 : ¬ (x.num = 0 ∧ x.den = 0 ∧ x.text = []) := by rintro ⟨a, b, c⟩; apply hne; cases x; simp_all
    have H3 := Lib.hid h3
    clear hne h3
    by_cases k1 : kind = 1
    · subst k1
      go_enter Try.func97, Try.ntmps97
      go_wp2_with (first | (go_at_call 26; ((with_reducible refine (l1In_any _ _ _ _).mono ?_); rintro e w1 ⟨rfl, rfl⟩)))
      all_goals first | (exfalso; apply H3.out; exact ⟨by assumption, by assumption, by assumption⟩) | (go_ret; refine ⟨ret_bool ?_, (Below.refl _ _).alloc (Nat.le_refl _) _⟩)
      all_goals (rw [itemOK, hm, eq_comm, Bool.false_or, Bool.eq_iff_iff]; simp [*] <;> omega)
    by_cases k2 : kind = 2
    · subst k2
      go_enter Try.func97, Try.ntmps97
      go_wp2_with (first | (go_at_call 116; ((with_reducible refine (specIsNumber_any ⟨_, _, _⟩ _).mono ?_); rintro e w2 ⟨rfl, hb2⟩)))
      all_goals first | (exfalso; apply H3.out; exact ⟨by assumption, by assumption, by assumption⟩) | (go_ret; refine ⟨ret_bool ?_, by first | exact bth ((Below.refl _ _).alloc (Nat.le_refl _) _) hb2 | exact (Below.refl _ _).alloc (Nat.le_refl _) _⟩)
      all_goals (rw [itemOK, hm]; cases x; simp_all)
    by_cases k3 : kind = 3
    · subst k3
      go_enter Try.func97, Try.ntmps97
      go_wp2_with fail
      all_goals first | (exfalso; apply H3.out; exact ⟨by assumption, by assumption, by assumption⟩) | (go_ret; refine ⟨ret_bool ?_, (Below.refl _ _).alloc (Nat.le_refl _) _⟩)
      all_goals (rw [itemOK, hm, eq_comm, Bool.false_or, Bool.eq_iff_iff]; simp [*] <;> omega)
    have e1 : (kind == 1) = false := by simpa using k1
    have e2 : (kind == 2) = false := by simpa using k2
    have e3 : (kind == 3) = false := by simpa using k3
    have HR := Lib.hid (show itemOK kind x = false by rw [itemOK, hm, if_neg k1, if_neg k2, if_neg k3]; rfl)
    clear k1 k2 k3
    go_enter Try.func97, Try.ntmps97
    go_wp2_with fail
    all_goals first | (exfalso; apply H3.out; exact ⟨by assumption, by assumption, by assumption⟩) | (go_ret; exact ⟨ret_bool HR.out.symm, (Below.refl _ _).alloc (Nat.le_refl _) _⟩)
end Go.Proofs.Ytekcpadlmfaihaa
namespace Go.Proofs.Ytekcpadlmfaihaa
open Go.RowKit
theorem Reads.tk {α : Type} {enc : α → List Value} {s : Nat} {w : World} {B n k : Nat} {A : Option Addr} {l : List α} (h : Reads enc s w B A n l) (hk : k ≤ n) : Reads enc s w B A k (l.take k) := by
  refine ⟨by rw [List.length_take, h.1]; omega, fun h0 => ?_⟩
  obtain ⟨b, off, e, hb, hc⟩ := h.2 (by omega)
  refine ⟨b, off, e, hb, fun i x j u hx hu => hc i x j u ?_ hu⟩
  rw [List.getElem?_take] at hx
  split at hx
  · exact hx
  · cases hx
def labF : List Str → List Str → Bool
  | _, [] => true
  | seen, e :: t => (!e.isEmpty && decide (e.length ≤ 60) && !seen.contains e) && labF (seen ++ [e]) t
def labV (l : List Str) (most : Nat) : Bool := decide (l.length ≤ most) && labF [] l
theorem labF_drop {l : List Str} {k : Nat} {e : Str} (h : l[k]? = some e) : labF (l.take k) (l.drop k) = ((!e.isEmpty && decide (e.length ≤ 60) && !(l.take k).contains e) && labF (l.take (k + 1)) (l.drop (k + 1))) := by
  obtain ⟨hk, he⟩ := List.getElem?_eq_some_iff.1 h
  rw [List.drop_eq_getElem_cons hk, he, labF, take_snoc' h]
set_option maxHeartbeats 2000000 in
theorem labelsValid_any (A : Option Addr) (n c : Nat) (l : List Str) (most : Nat) (w : World) (hr : Reads encS 1 w w.heap.size A n l) (hs : ∀ e ∈ l, e.length ≤ maxLen) (hn : n ≤ c) (hc : c ≤ maxLen) (hm : (most : Int) ≤ 1000) :
    Calls Try.prog 117 #[.slice A n c, .int .i64 most] w fun e w' => e = .returned (.bool (labV l most)) ∧ Below w.heap.size w w' := by
  unfold maxLen at hc
  have hll := hr.len
  by_cases hq : most < n
  · have hd : decide ((most : Int) < (n : Int)) = true := by simp; omega
    have HR := Lib.hid (show labV l most = false by rw [labV, hll, decide_eq_false (by omega)]; rfl)
    clear hll
    go_enter Try.func117, Try.ntmps117
    go_wp2_with fail
    go_ret
    exact ⟨ret_bool HR.out.symm, Below.refl _ _⟩
  have HR := Lib.hid (show labV l most = labF [] l by rw [labV, hll, decide_eq_true (by omega)]; rfl)
  have HL := Lib.hid hll
  have hd : decide ((most : Int) < (n : Int)) = false := by simp; omega
  clear hll
  go_enter Try.func117, Try.ntmps117
  go_wp2_with fail
  go_loop [13] (fun i => ∃ k : Nat, k ≤ n ∧ i = .int .i64 k ∧ labF [] l = labF (l.take k) (l.drop k)) (fun i => n - (intOf i).toNat)
  case atStart => exact ⟨0, by omega, rfl, rfl⟩
  case round =>
    obtain ⟨k, hk, rfl, hf⟩ := hrel
    have HF := Lib.hid hf
    clear hf
    by_cases hlt : k < n
    · obtain ⟨b, off, x, rfl, hbl, hx, hc0⟩ := hr.atS hlt
      have hxl : x.length ≤ 9223372036854775807 := hs _ (List.mem_of_getElem? hx)
      have HD := Lib.hid (labF_drop hx)
      have hbad : (!x.isEmpty && decide (x.length ≤ 60) && !(l.take k).contains x) = false → labV l most = false := fun h => by rw [HR.out, HF.out, HD.out, h]; rfl
      have HB := Lib.hid hbad
      clear hx hbad
      have hrt := hr.tk (k := k) (by omega)
      cases hxe : x.isEmpty with
      | true =>
        obtain rfl : x = [] := by simpa using hxe
        go_wp2_with fail
        go_ret
        exact ⟨ret_bool (HB.out rfl).symm, Below.refl _ _⟩
      | false =>
        by_cases h60 : (60 : Int) < (x.length : Int)
        · go_wp2_with fail
          go_ret
          exact ⟨ret_bool (HB.out (by rw [hxe, decide_eq_false (by omega)]; rfl)).symm, Below.refl _ _⟩
        have hd60 : decide ((60 : Int) < (x.length : Int)) = false := by simp; omega
        go_wp2_with fail
        refine (hasText_any _ k _ _ x _ hrt (by unfold maxLen; omega)).mono ?_
        rintro e w1 ⟨rfl, rfl⟩
        cases hct : (l.take k).contains x with
        | true =>
          go_wp2_with fail
          go_ret
          exact ⟨ret_bool (HB.out (by rw [hct]; simp)).symm, Below.refl _ _⟩
        | false =>
          go_wp2_with fail
          go_round
          case rel => exact ⟨k + 1, by omega, by go_num, by rw [HF.out, HD.out, hxe, hct, decide_eq_true (by omega)]; rfl⟩
          case measure => simp [intOf]; omega
    · obtain rfl : k = n := by omega
      go_wp2_with fail
      go_ret
      exact ⟨ret_bool (by rw [HR.out, HF.out, List.drop_of_length_le (by rw [HL.out]; omega)]; rfl), Below.refl _ _⟩
theorem ix_first (l : List Str) (e : Str) (k i : Nat) (h : l[k]? = some e) : decide (ix l e i < ((i + k : Nat) : Int)) = (l.take k).contains e := by
  induction l generalizing k i with
  | nil => simp at h
  | cons a t ih =>
    cases k with
    | zero => simp at h; subst h; simp [ix]
    | succ k =>
      simp at h
      rw [ix, List.take_succ_cons, List.contains_cons]
      by_cases hae : a = e
      · subst hae; simp; omega
      · rw [if_neg hae, show i + (k + 1) = i + 1 + k by omega, ih k (i + 1) h]
        have : (e == a) = false := by simpa using fun h' => hae h'.symm
        rw [this]; rfl
set_option maxHeartbeats 2000000 in
theorem l4Labels_any (A : Option Addr) (n c : Nat) (l : List Str) (most : Nat) (w : World) (hr : Reads encS 1 w w.heap.size A n l) (hs : ∀ e ∈ l, e.length ≤ maxLen) (hn : n ≤ c) (hc : c ≤ maxLen) (hm : (most : Int) ≤ 1000) :
    Calls Try.prog 96 #[.slice A n c, .int .i64 most] w fun e w' => e = .returned (.bool (labV l most)) ∧ Below w.heap.size w w' := by
  unfold maxLen at hc
  have HL := Lib.hid hr.len
  go_enter Try.func96, Try.ntmps96
  go_wp2_with fail
  go_loopw [5] (fun i wr => ∃ k : Nat, k ≤ n ∧ k ≤ most + 1 ∧ i = .int .i64 k ∧ labF [] l = labF (l.take k) (l.drop k) ∧ Below w.heap.size w wr) (fun i _ => n - (intOf i).toNat)
  case atStart => exact ⟨0, by omega, by omega, rfl, rfl, Below.refl _ _⟩
  case round =>
    obtain ⟨k, hk, hkm, rfl, hf, hb⟩ := hrel
    have HF := Lib.hid hf
    clear hf
    by_cases hlt : k < n
    · by_cases hkm2 : k ≤ most
      · obtain ⟨b, off, x, rfl, hbl, hx, hc0⟩ := (hr.below hb).atS hlt
        have hxl : x.length ≤ 9223372036854775807 := hs _ (List.mem_of_getElem? hx)
        have HD := Lib.hid (labF_drop hx)
        have hix := ix_first l x k 0 hx
        rw [Nat.zero_add] at hix
        have hbad : (!x.isEmpty && decide (x.length ≤ 60) && !(l.take k).contains x) = false → labV l most = false := fun h => by rw [labV, HF.out, HD.out, h]; simp
        have HB := Lib.hid hbad
        clear hx hbad
        have i1 : (0 : Int) ≤ (k : Int) := by omega
        have i2 : (k : Int) < (n : Int) := by omega
        have hr2 := (hr.below hb).more hb.size
        cases hxe : x.isEmpty with
        | true =>
          obtain rfl : x = [] := by simpa using hxe
          go_wp2_with fail
          go_ret
          exact ⟨ret_bool (HB.out rfl).symm, hb⟩
        | false =>
          by_cases h60 : (60 : Int) < (x.length : Int)
          · go_wp2_with fail
            go_ret
            exact ⟨ret_bool (HB.out (by rw [hxe, decide_eq_false (by omega)]; rfl)).symm, hb⟩
          have hd60 : decide ((60 : Int) < (x.length : Int)) = false := by simp; omega
          go_wp2_with fail
          refine (l1Find_any _ n _ l x _ hr2 (by unfold maxLen; omega)).mono ?_
          rintro e w1 ⟨rfl, rfl⟩
          cases hct : (l.take k).contains x with
          | true =>
            rw [hct] at hix
            go_wp2_with fail
            go_ret
            exact ⟨ret_bool (HB.out (by rw [hct]; simp)).symm, hb⟩
          | false =>
            rw [hct] at hix
            go_wp2_with fail
            go_roundw
            case rel => exact ⟨k + 1, by omega, by omega, by go_num, by rw [HF.out, HD.out, hxe, hct, decide_eq_true (by omega)]; rfl, hb⟩
            case measure => simp [intOf]; omega
      · have hd1 : decide ((k : Int) ≤ (most : Int)) = false := by simp; omega
        have hd2 : decide ((n : Int) ≤ (most : Int)) = false := by simp; omega
        go_wp2_with fail
        go_ret
        exact ⟨ret_bool (by rw [labV, HL.out, decide_eq_false (by omega)]; rfl), hb⟩
    · obtain rfl : k = n := by omega
      have hres : labV l most = decide (k ≤ most) := by
        rw [labV, HF.out, List.drop_of_length_le (by rw [HL.out]; omega), HL.out, labF, Bool.and_true]
      have HRs := Lib.hid hres
      clear hres
      go_wp2_with fail
      go_ret
      exact ⟨ret_bool HRs.out.symm, hb⟩
def allE (l : List Str) : Bool := l.all List.isEmpty
set_option maxHeartbeats 1000000 in
theorem allEmpty_any (A : Option Addr) (n c : Nat) (l : List Str) (w : World) (hr : Reads encS 1 w w.heap.size A n l) (hn : n ≤ maxLen) :
    Calls Try.prog 118 #[.slice A n c] w fun e w' => e = .returned (.bool (allE l)) ∧ Below w.heap.size w w' := by
  unfold maxLen at hn
  have HL := Lib.hid hr.len
  go_enter Try.func118, Try.ntmps118
  go_wp2_with fail
  go_loop [7] (fun i => ∃ k : Nat, k ≤ n ∧ i = .int .i64 k ∧ (l.take k).all List.isEmpty = true) (fun i => n - (intOf i).toNat)
  case atStart => exact ⟨0, by omega, rfl, by simp⟩
  case round =>
    obtain ⟨k, hk, rfl, hf⟩ := hrel
    have HF := Lib.hid hf
    clear hf
    by_cases hlt : k < n
    · obtain ⟨b, off, x, rfl, hbl, hx, hc0⟩ := hr.atS hlt
      have HX := Lib.hid hx
      clear hx
      cases hxe : x.isEmpty with
      | true =>
        obtain rfl : x = [] := by simpa using hxe
        go_wp2_with fail
        go_round
        case rel => exact ⟨k + 1, by omega, by go_num, all_snoc HX.out HF.out rfl⟩
        case measure => simp [intOf]; omega
      | false =>
        go_wp2_with fail
        go_ret
        exact ⟨ret_bool (all_bad HX.out hxe).symm, Below.refl _ _⟩
    · obtain rfl : k = n := by omega
      go_wp2_with fail
      go_ret
      exact ⟨ret_bool (by have := HF.out; rw [List.take_of_length_le (by rw [HL.out]; omega)] at this; exact this.symm), Below.refl _ _⟩
def named (l : List Str) : Bool := l.all (fun s => decide (s.length ≤ 60)) && (l.isEmpty || !allE l)
set_option maxHeartbeats 1000000 in
theorem l4Named_any (A : Option Addr) (n c : Nat) (l : List Str) (w : World) (hr : Reads encS 1 w w.heap.size A n l) (hs : ∀ e ∈ l, e.length ≤ maxLen) (hn : n ≤ maxLen) :
    Calls Try.prog 95 #[.slice A n c] w fun e w' => e = .returned (.bool (named l)) ∧ Below w.heap.size w w' := by
  unfold maxLen at hn
  have HL := Lib.hid hr.len
  obtain ⟨p0, hp0⟩ : ∃ p0 : Bool, ((n : Int) == 0) = p0 := ⟨_, rfl⟩
  go_enter Try.func95, Try.ntmps95
  go_wp2_with fail
  have HP := Lib.hid hp0
  clear hp0
  go_loop [3, 4] (fun v i => ∃ (k : Nat) (q : Bool), k ≤ n ∧ i = .int .i64 k ∧ v = .bool q ∧ (l.take k).all (fun s => decide (s.length ≤ 60)) = true ∧ q = (p0 || !allE (l.take k))) (fun _ i => n - (intOf i).toNat)
  case atStart => exact ⟨0, p0, by omega, rfl, rfl, by simp, by simp [allE]⟩
  case round =>
    obtain ⟨k, q, hk, rfl, rfl, hf, hq⟩ := hrel
    have HF := Lib.hid hf
    have HQ := Lib.hid hq
    clear hf hq
    by_cases hlt : k < n
    · obtain ⟨b, off, x, rfl, hbl, hx, hc0⟩ := hr.atS hlt
      have hxl : x.length ≤ 9223372036854775807 := hs _ (List.mem_of_getElem? hx)
      have HX := Lib.hid hx
      have HT := Lib.hid (take_snoc' hx)
      clear hx
      have i1 : (0 : Int) ≤ (k : Int) := by omega
      have i2 : (k : Int) < (n : Int) := by omega
      by_cases h60 : (60 : Int) < (x.length : Int)
      · go_wp2_with fail
        go_ret
        exact ⟨ret_bool (by rw [named, all_bad HX.out (decide_eq_false (by omega))]; rfl), Below.refl _ _⟩
      have hd60 : decide ((60 : Int) < (x.length : Int)) = false := by simp; omega
      have hall := all_snoc HX.out HF.out (decide_eq_true (show x.length ≤ 60 by omega))
      have HA := Lib.hid hall
      clear hall
      have hq2 : (q || !x.isEmpty) = (p0 || !allE (l.take (k + 1))) := by
        rw [HQ.out, HT.out]
        unfold allE
        rw [List.all_append]
        cases p0 <;> cases (l.take k).all List.isEmpty <;> simp
      have HQ2 := Lib.hid hq2
      clear hq2
      cases q with
      | true =>
        go_wp2_with fail
        go_round
        case rel => exact ⟨k + 1, true, by omega, by go_num, rfl, HA.out, HQ2.out⟩
        case measure => simp [intOf]; omega
      | false =>
        cases hxe : x.isEmpty with
        | true =>
          rw [hxe] at HQ2
          obtain rfl : x = [] := by simpa using hxe
          go_wp2_with fail
          go_round
          case rel => exact ⟨k + 1, false, by omega, by go_num, rfl, HA.out, HQ2.out⟩
          case measure => simp [intOf]; omega
        | false =>
          rw [hxe] at HQ2
          go_wp2_with fail
          go_round
          case rel => exact ⟨k + 1, true, by omega, by go_num, rfl, HA.out, HQ2.out⟩
          case measure => simp [intOf]; omega
    · obtain rfl : k = n := by omega
      have hres : named l = q := by
        have h1 := HF.out
        have h2 := HQ.out
        rw [List.take_of_length_le (by rw [HL.out]; omega)] at h1 h2
        rw [named, h1, h2, ← HP.out, Bool.true_and]
        congr 1
        rw [← HL.out, Bool.eq_iff_iff]; simp
      have HRs := Lib.hid hres
      clear hres
      go_wp2_with fail
      go_ret
      exact ⟨ret_bool HRs.out.symm, Below.refl _ _⟩
end Go.Proofs.Ytekcpadlmfaihaa
namespace Go.Proofs.Ytekcpadlmfaihaa
open Go.RowKit
def nestV : Nat → Vec → Nat
  | 0, _ => 1
  | r + 1, v => v.parts.foldl (fun o p => max o (1 + nestV r p)) 0
theorem foldl_max_le {α : Type} (f : α → Nat) (l : List α) (o M : Nat) (h : ∀ x ∈ l, f x ≤ M) (ho : o ≤ M) : l.foldl (fun o p => max o (f p)) o ≤ M := by
  induction l generalizing o with
  | nil => exact ho
  | cons a t ih =>
    rw [List.foldl_cons]
    exact ih _ (fun x hx => h x (List.mem_cons_of_mem _ hx)) (by have := h a List.mem_cons_self; omega)
theorem nestV_le (r : Nat) (v : Vec) : nestV r v ≤ r + 1 := by
  induction r generalizing v with
  | zero => simp [nestV]
  | succ r ih => rw [nestV]; exact foldl_max_le (fun p => 1 + nestV r p) _ _ _ (fun x _ => by have := ih x; omega) (by omega)
theorem foldl_snoc {α β : Type} (f : β → α → β) (o : β) {l : List α} {k : Nat} {x : α} (h : l[k]? = some x) : (l.take (k + 1)).foldl f o = f ((l.take k).foldl f o) x := by
  rw [take_snoc' h, List.foldl_append]; rfl
set_option maxRecDepth 100000 in
set_option maxHeartbeats 2000000 in
theorem nest_any (r : Nat) (hr : r ≤ 100) : ∀ (v : Vec) (cs : List Value) (w : World), rep w w.heap.size v.toD cs →
    Calls Try.prog 76 #[av cs, .int .i64 r] w fun e w' => e = .returned (.int .i64 (nestV r v)) ∧ Below w.heap.size w w' := by
  induction r with
  | zero =>
    intro v cs w h
    obtain ⟨Ai, ni, ci, Ap, np, cp, An, nn, cn, Ac, nc, cc, Al, nl, cl, rfl, hv⟩ := vec_open h
    go_enter Try.func76, Try.ntmps76
    go_wp2_with fail
    go_ret
    exact ⟨rfl, (Below.refl _ _).alloc (Nat.le_refl _) _⟩
  | succ r ih =>
    intro v cs w h
    have ih := ih (by omega)
    obtain ⟨Ai, ni, ci, Ap, np, cp, An, nn, cn, Ac, nc, cc, Al, nl, cl, rfl, hv⟩ := vec_open h
    have q0 := (Below.refl w.heap.size w).alloc (Nat.le_refl _) (.cells (vc v Ai ni ci Ap np cp An nn cn Ac nc cc Al nl cl).toArray 34)
    have hpl := hv.pab
    unfold maxLen at hpl
    have HPL := Lib.hid hpl.2.2
    have hpb : np ≤ 9223372036854775807 := by omega
    have HIH := Lib.hid ih
    clear ih hpl
    have hne : ((r : Int) + 1 == 0) = false := by simp; omega
    rw [show (((r + 1 : Nat)) : Int) = (r : Int) + 1 from rfl]
    go_enter Try.func76, Try.ntmps76
    go_wp2_with fail
    go_loopw [5, 13] (fun u i wr => ∃ k m : Nat, k ≤ np ∧ i = .int .i64 k ∧ u = .int .i64 m ∧ m = (v.parts.take k).foldl (fun o p => max o (1 + nestV r p)) 0 ∧ m ≤ 102 ∧ Below w.heap.size w wr) (fun _ i _ => np - (intOf i).toNat)
    case atStart => exact ⟨0, 0, by omega, rfl, rfl, rfl, by omega, q0⟩
    case round =>
      obtain ⟨k, m, hk, rfl, rfl, hm, hm2, hb⟩ := hrel
      have HM := Lib.hid hm
      clear hm
      by_cases hlt : k < np
      · obtain ⟨b, off, x, Ai', ni', ci', Ap', np', cp', An', nn', cn', Ac', nc', cc', Al', nl', cl', rfl, hbl, hx, hrx, hvx, c0, c1, c2, c3, c4, c5, c6, c7⟩ := parts_at (rep_below hv.pa hb) hlt
        have HX := Lib.hid (foldl_snoc (fun o p => max o (1 + nestV r p)) 0 hx)
        have hnl := nestV_le r x
        clear hx
        have q1 := hb.alloc hb.size (.cells (vc x Ai' ni' ci' Ap' np' cp' An' nn' cn' Ac' nc' cc' Al' nl' cl').toArray 34)
        go_wp2_with fail
        refine (HIH.out x _ _ (rep_in hrx (Below.alloc (Below.refl _ _) hb.size _) (by simp only [wsize_alloc]; have := hb.size; omega))).mono ?_
        rintro e w1 ⟨rfl, hb1⟩
        go_wp2_with fail
        all_goals
          go_roundw
          case rel => exact ⟨k + 1, (v.parts.take (k + 1)).foldl (fun o p => max o (1 + nestV r p)) (0 : Nat), by omega, by go_num, by rw [HX.out, ← HM.out]; congr 1; omega, rfl, by rw [HX.out, ← HM.out]; omega, bth q1 hb1⟩
          case measure => simp [intOf]; omega
      · obtain rfl : k = np := by omega
        go_wp2_with fail
        go_ret
        exact ⟨ret_int (by rw [nestV, HM.out, List.take_of_length_le (by rw [HPL.out]; omega)]), hb⟩
end Go.Proofs.Ytekcpadlmfaihaa
