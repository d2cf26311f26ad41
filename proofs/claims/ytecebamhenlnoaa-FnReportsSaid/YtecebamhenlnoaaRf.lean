/- The law FnExactIsReport, walked out of the contracts of its callees. -/
import Derived.Test.YtecebamhenlnoaaRe
namespace Go.Proofs.Ytecebamhenlnoaa
open Go.RowKit
theorem szP_sizes {e : Pair} {n : Int} (h : 0 ≤ szP e n) : (e.1.length : Int) ≤ n ∧ (e.2.length : Int) ≤ n := by
  unfold szP at h; split at h <;> omega
theorem szL_sizes (l : List Pair) (n : Int) (h : 0 ≤ szL l n) : ∀ e ∈ l, (e.1.length : Int) ≤ n ∧ (e.2.length : Int) ≤ n := by
  induction l generalizing n with
  | nil => simp
  | cons a t ih =>
    rw [szL] at h
    split at h
    · omega
    · have ha : 0 ≤ szP a n := by omega
      intro e he
      have hle := szP_le a n
      rcases List.mem_cons.1 he with rfl | he
      · exact szP_sizes ha
      · have := ih _ h e he; omega
theorem szS_sizes {l : List Pair} {n : Int} (h : 0 ≤ szS l n) : ∀ e ∈ l, (e.1.length : Int) ≤ n ∧ (e.2.length : Int) ≤ n := by
  unfold szS at h
  split at h
  · omega
  · intro e he; have := szL_sizes l _ h e he; omega
theorem szS_bounds {l : List Pair} (h : 0 ≤ szS l 1048576) : ∀ e ∈ l, e.1.length ≤ 1048576 ∧ e.2.length ≤ 1048576 := by
  intro e he; have := szS_sizes h e he; omega
set_option maxHeartbeats 1000000 in
theorem fnExactIsReport_walk (A : Option Addr) (len cap : Nat) (l : List Pair) (w : World) (hr : Reads enc2 2 w w.heap.size A len l) (hs : ∀ e ∈ l, e.1.length ≤ maxLen ∧ e.2.length ≤ maxLen) (hlen : len ≤ maxLen) :
    Calls Try.prog 7 #[.slice A len cap] w fun e w' => e = .returned (.bool true) ∧ Below w.heap.size w w' := by
  go_enter Try.func7, Try.ntmps7
  go_wp2_with fail
  refine (szPartS_any A len cap l _ _ hr hs hlen (by omega) (by omega)).mono ?_
  rintro e w1 ⟨rfl, hb1⟩
  by_cases hsz : szS l 1048576 < 0
  · go_wp2_with fail
    go_ret
    exact ⟨rfl, hb1⟩
  · have hl : len ≤ 1048576 := by have := szS_len (l := l) (n := 1048576) (by omega); have := hr.len; omega
    have hz := szS_bounds (l := l) (by omega)
    go_wp2_with fail
    have hr1 := hr.next hb1
    refine (toPartS_any A len cap l _ hr1 hl).mono ?_
    rintro e w2 ⟨g2, rfl, ho2, hb2⟩
    go_wp2_with fail
    have hr2 := ho2.reads enc2_len
    refine (specIsReport_any _ len len l _ hr2 hl hz).mono ?_
    rintro e w3 ⟨rfl, hb3⟩
    go_wp2_with fail
    have hr2' := (hr1.next hb2).next hb3
    refine (toPartS_any A len cap l _ hr2' hl).mono ?_
    rintro e w4 ⟨g4, rfl, ho4, hb4⟩
    go_wp2_with fail
    have hr4 := ho4.reads enc2_len
    refine (implIsReport_any _ len len l _ hr4 hl hz).mono ?_
    rintro e w5 ⟨rfl, hb5⟩
    have hne : (repOK l != repOK l) = false := by simp
    go_wp2_with fail
    have hr5 := (hr2'.next hb4).next hb5
    refine (toPartS_any A len cap l _ hr5 hl).mono ?_
    rintro e w6 ⟨g6, rfl, ho6, hb6⟩
    go_wp2_with fail
    refine (eqPartS_any _ _ len len len len l l _ ((hr4.next hb5).next hb6) (ho6.reads enc2_len) hlen hlen).mono ?_
    rintro e w7 ⟨rfl, hb7⟩
    have hee : (l == l) = true := by simp
    go_wp2_with fail
    go_ret
    exact ⟨rfl, bth (bth (bth (bth (bth (bth hb1 hb2) hb3) hb4) hb5) hb6) hb7⟩
end Go.Proofs.Ytecebamhenlnoaa
