/- Numbers as texts: what FormatInt of the reference returns, for all ints. -/
import Derived.Test.YtecebamhenlnoaaMk
namespace Go.Proofs.Ytecebamhenlnoaa
open Go.RowKit
/-- The decimal form of a number. -/
def fmtI (n : Int) : Str := if n = 0 then [48] else if n < 0 then 45 :: dgs n.natAbs n.natAbs [] else dgs n.natAbs n.natAbs []
theorem digit_slice (d : Nat) (h : d < 10) : (List.drop d [48, 49, 50, 51, 52, 53, 54, 55, 56, 57]).take 1 = [(48 : UInt8) + UInt8.ofNat d] := by
  have : ∀ d : Fin 10, (List.drop d.val [48, 49, 50, 51, 52, 53, 54, 55, 56, 57]).take 1 = [(48 : UInt8) + UInt8.ofNat d.val] := by decide
  exact this ⟨d, h⟩
set_option maxHeartbeats 1000000 in
theorem specFormatInt_any (n : Int) (w : World) (h0 : -9223372036854775808 ≤ n) (h1 : n ≤ 9223372036854775807) :
    Calls Try.prog 84 #[.int .i64 n] w fun e w' => e = .returned (sv (fmtI n)) ∧ w = w' := by
  go_enter Try.func84, Try.ntmps84
  go_wp2
  go_loop [3, 4] (fun v i => ∃ (x : Int) (s : Str), i = .int .i64 x ∧ v = sv s ∧ x.natAbs + 2 * s.length ≤ n.natAbs + 1 ∧ (x ≠ 0 → x.natAbs + 2 * s.length ≤ n.natAbs) ∧ dgs n.natAbs n.natAbs [] = dgs x.natAbs x.natAbs s ∧ -9223372036854775808 ≤ x ∧ x ≤ 9223372036854775807) (fun _ i => (intOf i).natAbs)
  case atStart => exact ⟨n, [], rfl, rfl, by simp, by simp, rfl, h0, h1⟩
  case round =>
    obtain ⟨x, s, rfl, rfl, hl, hl', hdg, hx0, hx1⟩ := hrel
    have hsl : s.length ≤ 4611686018427387905 := by omega
    have HD := Lib.hid hdg
    clear hdg
    by_cases hx : x = 0
    · subst hx
      by_cases hn : n = 0
      · subst hn
        go_wp2
        go_ret
        exact ⟨rfl, rfl⟩
      · have hnb : (n == 0) = false := by simpa using hn
        go_wp2
        · go_ret
          exact ⟨ret_str (by rw [fmtI, if_neg hn, if_pos (by omega), HD.out]; rfl), rfl⟩
        · go_ret
          exact ⟨ret_str (by rw [fmtI, if_neg hn, if_neg (by omega), HD.out]; rfl), rfl⟩
    · have hnb : (x != 0) = true := by simpa using hx
      have hl2 := hl' hx
      clear hl'
      have e1 : (x.tmod 10).natAbs = x.natAbs % 10 := by rw [Int.natAbs_tmod]; rfl
      have e2 : (x.tdiv 10).natAbs = x.natAbs / 10 := by rw [Int.natAbs_tdiv]; rfl
      have b1 : -9 ≤ x.tmod 10 := by omega
      have b2 : x.tmod 10 ≤ 9 := by omega
      have b3 : -9223372036854775808 ≤ x.tdiv 10 ∧ x.tdiv 10 ≤ 9223372036854775807 := by omega
      have b4 : x.tdiv 10 = 0 → x.natAbs < 10 := by omega
      have HS := Lib.hid (dgs_step x.natAbs s (by omega))
      by_cases hneg : x.tmod 10 < 0
      · have hdi : (List.drop (-x.tmod 10).toNat [48, 49, 50, 51, 52, 53, 54, 55, 56, 57]).take 1 = [(48 : UInt8) + UInt8.ofNat (x.natAbs % 10)] := by
          rw [digit_slice _ (by omega)]
          have : (-x.tmod 10).toNat = x.natAbs % 10 := by omega
          rw [this]
        have E1 := Lib.hid e1
        have E2 := Lib.hid e2
        have B4 := Lib.hid b4
        have HDI := Lib.hid hdi
        clear e1 e2 b4 hdi
        go_wp2
        have ht : (-x.tmod 10 + 1).toNat - (-x.tmod 10).toNat = 1 := by omega
        rw [ht, HDI.out]
        have e2 := E2.out
        have b4 := B4.out
        clear ht
        go_round
        case rel => exact ⟨x.tdiv 10, (48 + UInt8.ofNat (x.natAbs % 10)) :: s, rfl, rfl, by rw [List.length_cons]; omega, by rw [List.length_cons]; omega, by rw [HD.out, HS.out, e2], b3.1, b3.2⟩
        case measure => simp only [intOf]; omega
      · have hdi : (List.drop (x.tmod 10).toNat [48, 49, 50, 51, 52, 53, 54, 55, 56, 57]).take 1 = [(48 : UInt8) + UInt8.ofNat (x.natAbs % 10)] := by
          rw [digit_slice _ (by omega)]
          have : (x.tmod 10).toNat = x.natAbs % 10 := by omega
          rw [this]
        have E1 := Lib.hid e1
        have E2 := Lib.hid e2
        have B4 := Lib.hid b4
        have HDI := Lib.hid hdi
        clear e1 e2 b4 hdi
        go_wp2
        have ht : (x.tmod 10 + 1).toNat - (x.tmod 10).toNat = 1 := by omega
        rw [ht, HDI.out]
        have e2 := E2.out
        have b4 := B4.out
        clear ht
        go_round
        case rel => exact ⟨x.tdiv 10, (48 + UInt8.ofNat (x.natAbs % 10)) :: s, rfl, rfl, by rw [List.length_cons]; omega, by rw [List.length_cons]; omega, by rw [HD.out, HS.out, e2], b3.1, b3.2⟩
        case measure => simp only [intOf]; omega
end Go.Proofs.Ytecebamhenlnoaa
