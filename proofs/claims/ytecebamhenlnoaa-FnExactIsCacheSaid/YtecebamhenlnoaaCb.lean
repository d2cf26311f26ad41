/- The law FnExactIsCache, walked out of the contracts of its callees. -/
import Derived.Test.YtecebamhenlnoaaCa
namespace Go.Proofs.Ytecebamhenlnoaa
open Go.RowKit
theorem szL_ge (l : List Pair) (n : Int) (h : 0 ≤ szL l n) : 0 ≤ n := by
  cases l with
  | nil => exact h
  | cons e t => rw [szL] at h; have := szP_le e n; split at h <;> omega
theorem szS_len {l : List Pair} {n : Int} (h : 0 ≤ szS l n) : l.length ≤ n := by
  unfold szS at h
  split at h <;> omega
set_option maxHeartbeats 1000000 in
theorem fnExactIsCache_walk (A : Option Addr) (len cap : Nat) (l : List Pair) (w : World) (hr : Reads enc2 2 w w.heap.size A len l) (hs : ∀ e ∈ l, e.1.length ≤ maxLen ∧ e.2.length ≤ maxLen) (hlen : len ≤ maxLen) :
    Calls Try.prog 3 #[.slice A len cap] w fun e w' => e = .returned (.bool true) ∧ Below w.heap.size w w' := by
  go_enter Try.func3, Try.ntmps3
  go_wp2_with fail
  refine (szEntryS_any A len cap l _ _ hr hs hlen (by omega) (by omega)).mono ?_
  rintro e w1 ⟨rfl, hb1⟩
  by_cases hsz : szS l 1048576 < 0
  · go_wp2_with fail
    go_ret
    exact ⟨rfl, hb1⟩
  · have hl : len ≤ 1048576 := by have := szS_len (l := l) (n := 1048576) (by omega); have := hr.len; omega
    go_wp2_with fail
    have hr1 := hr.next hb1
    refine (toEntryS_any A len cap l _ hr1 hl).mono ?_
    rintro e w2 ⟨g2, rfl, hg2, hk2, hb2⟩
    go_wp2_with fail
    have hr2 := hk2.reads enc2_len hk2.lt
    rw [hr.len] at hr2
    refine (specIsCache_any _ len len l _ hr2 hl).mono ?_
    rintro e w3 ⟨rfl, rfl⟩
    go_wp2_with fail
    have hr2' := hr1.next hb2
    refine (toEntryS_any A len cap l _ hr2' hl).mono ?_
    rintro e w3 ⟨g3, rfl, hg3, hk3, hb3⟩
    go_wp2_with fail
    have hr3 := hk3.reads enc2_len hk3.lt
    rw [hr.len] at hr3
    refine (implIsCache_any _ len len l _ hr3 hl).mono ?_
    rintro e w4 ⟨rfl, hb4⟩
    have hne : (isC l != isC l) = false := by simp
    go_wp2_with fail
    have hr4' := (hr2'.next hb3).next hb4
    refine (toEntryS_any A len cap l _ hr4' hl).mono ?_
    rintro e w5 ⟨g5, rfl, hg5, hk5, hb5⟩
    go_wp2_with fail
    have hr5 := hk5.reads enc2_len hk5.lt
    rw [hr.len] at hr5
    refine (eqEntryS_any _ _ len len len len l l _ ((hr3.next hb4).next hb5) hr5 hlen hlen).mono ?_
    rintro e w6 ⟨rfl, hb6⟩
    have hee : (l == l) = true := by simp
    go_wp2_with fail
    go_ret
    exact ⟨rfl, bth (bth (bth (bth (bth hb1 hb2) hb3) hb4) hb5) hb6⟩
end Go.Proofs.Ytecebamhenlnoaa
