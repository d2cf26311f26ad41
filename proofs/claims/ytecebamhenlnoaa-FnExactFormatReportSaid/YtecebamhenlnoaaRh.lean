/- The law FnExactFormatReport, walked out of the contracts of its callees. -/
import Derived.Test.YtecebamhenlnoaaRg
import Derived.Test.YtecebamhenlnoaaRf
namespace Go.Proofs.Ytecebamhenlnoaa
open Go.RowKit
set_option maxHeartbeats 1000000 in
theorem fnExactFormatReport_walk (A : Option Addr) (len cap : Nat) (l : List Pair) (w : World) (hr : Reads enc2 2 w w.heap.size A len l) (hs : ∀ e ∈ l, e.1.length ≤ maxLen ∧ e.2.length ≤ maxLen) (hlen : len ≤ maxLen) :
    Calls Try.prog 8 #[.slice A len cap] w fun e w' => e = .returned (.bool true) ∧ Below w.heap.size w w' := by
  go_enter Try.func8, Try.ntmps8
  go_wp2_with fail
  refine (szPartS_any A len cap l _ _ hr hs hlen (by omega) (by omega)).mono ?_
  rintro e w1 ⟨rfl, hb1⟩
  by_cases hsz : szS l 1048576 < 0
  · go_wp2_with fail
    go_ret
    exact ⟨rfl, hb1⟩
  · have hl : len ≤ 1048576 := by have := szS_len (l := l) (n := 1048576) (by omega); have := hr.len; omega
    have hz := szS_bounds (l := l) (by omega)
    go_wp2_with fail
    have hr1 := hr.next hb1
    refine (toPartS_any A len cap l _ hr1 hl).mono ?_
    rintro e w2 ⟨g2, rfl, ho2, hb2⟩
    go_wp2_with fail
    have hr2 := ho2.reads enc2_len
    refine (specFormatReport_any _ len len l _ hr2 hl hz).mono ?_
    rintro e w3 ⟨rfl, hb3⟩
    go_wp2_with fail
    have hr2' := (hr1.next hb2).next hb3
    refine (toPartS_any A len cap l _ hr2' hl).mono ?_
    rintro e w4 ⟨g4, rfl, ho4, hb4⟩
    go_wp2_with fail
    have hr4 := ho4.reads enc2_len
    refine (implFormatReport_any _ len len l _ hr4 hl hz).mono ?_
    rintro e w5 ⟨rfl, hb5⟩
    go_wp2_with fail
    have hr5 := (hr2'.next hb4).next hb5
    refine (toPartS_any A len cap l _ hr5 hl).mono ?_
    rintro e w6 ⟨g6, rfl, ho6, hb6⟩
    go_wp2_with fail
    refine (eqPartS_any _ _ len len len len l l _ ((hr4.next hb5).next hb6) (ho6.reads enc2_len) hlen hlen).mono ?_
    rintro e w7 ⟨rfl, hb7⟩
    have hee : (l == l) = true := by simp
    go_wp2_with fail
    go_ret
    exact ⟨rfl, bth (bth (bth (bth (bth (bth hb1 hb2) hb3) hb4) hb5) hb6) hb7⟩
end Go.Proofs.Ytecebamhenlnoaa
