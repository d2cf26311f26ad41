/- The law FnExactParseReport, walked out of the contracts of its callees. -/
import Derived.Test.YtecebamhenlnoaaRk
namespace Go.Proofs.Ytecebamhenlnoaa
open Go.RowKit
set_option maxHeartbeats 2000000 in
theorem fnExactParseReport_walk (s : Str) (w : World) (hs : s.length ≤ maxLen) :
    Calls Try.prog 9 #[sv s] w fun e w' => e = .returned (.bool true) ∧ Below w.heap.size w w' := by
  unfold maxLen at hs
  by_cases h1 : 1048576 < (s.length : Int)
  · go_enter Try.func9, Try.ntmps9
    go_wp2_with fail
    go_ret
    exact ⟨rfl, Below.refl _ _⟩
  have hspec := fun (w : World) => specParseReport_any s w (by omega)
  have himpl := fun (w : World) => implParseReport_any s w (by omega)
  unfold PRPost at hspec himpl
  generalize (pR s).isSome = ok at hspec himpl
  generalize (pR s).getD [] = res at hspec himpl
  have H1 := Lib.hid hspec
  have H2 := Lib.hid himpl
  have hee : ∀ x : List Pair, (x == x) = true := by simp
  have HE := Lib.hid hee
  clear hspec himpl hee
  go_enter Try.func9, Try.ntmps9
  go_wp2_with fail
  refine (H1.out _).mono ?_
  rintro e w1 ⟨A1, n1, c1, rfl, ho1, hn1, hb1⟩
  have hl1 := ho1.len
  go_wp2_with fail
  refine (H2.out _).mono ?_
  rintro e w2 ⟨A2, n2, c2, rfl, ho2, hn2, hb2⟩
  have hl2 := ho2.len
  obtain rfl : n2 = n1 := by omega
  clear hl1 hl2
  go_wp2_with fail
  refine (eqPartS_any _ _ n2 n2 _ _ _ _ _ (ho2.reads enc2_len) ((ho1.below hb2).reads enc2_len) (by unfold maxLen; omega) (by unfold maxLen; omega)).mono ?_
  rintro e w3 ⟨rfl, hb3⟩
  rw [HE.out]
  have hok : (ok != ok) = false := by simp
  go_wp2_with fail
  refine (markPartS_any _ n2 _ 1 _ _ _ (ho2.below hb3) (by omega) (by omega)).mono ?_
  rintro e w4 ⟨rfl, ho4, hg4⟩
  go_wp2_with fail
  refine (heldPartS_any _ n2 _ 1 _ (ho4.reads enc2_len) (by omega) (by omega)).mono ?_
  rintro e w5 ⟨rfl, hb5⟩
  have s01 := hb1.size
  have hb03 := bth (bth hb1 hb2) hb3
  have hb04 : Below w.heap.size w w4 := hb03.trans (only_below' hg4 hb03.size (fun g hg => by have := ho2.row g hg; omega))
  have ho1' : OwnPart w4 w.heap.size A1 n2 c1 res := ((ho1.below hb2).below hb3).kept hg4 (by
    rcases ho2.cases with ⟨rfl, _⟩ | ⟨g, rfl⟩
    · cases A1 with
      | none => exact .inl rfl
      | some b => exact .inr (by simp [Value.ownBlock])
    · have := (ho2.row g rfl).1
      exact ho1.apart (g := g) (.inr (by omega)))
  have q12 : decide ((1 : Int) + 2 * (n2 : Int) < 0) = false := by simp; omega
  have q12' : ((1 : Int) + 2 * (n2 : Int) != (1 : Int) + 2 * (n2 : Int)) = false := by simp
  go_wp2_with fail
  refine (H2.out _).mono ?_
  rintro e w6 ⟨A6, n6, c6, rfl, ho6, hn6, hb6⟩
  have hl6 := ho6.len
  have hl1 := ho1.len
  obtain rfl : n6 = n2 := by omega
  clear hl6 hl1
  go_wp2_with fail
  refine (eqPartS_any _ _ n6 n6 _ _ _ _ _ (ho6.reads enc2_len) (((ho1'.below hb5).below hb6).reads enc2_len) (by unfold maxLen; omega) (by unfold maxLen; omega)).mono ?_
  rintro e w7 ⟨rfl, hb7⟩
  rw [HE.out]
  go_wp2_with fail
  refine (heldPartS_any _ n6 _ 1 _ (((ho4.below hb5).below hb6).below hb7 |>.reads enc2_len) (by omega) (by omega)).mono ?_
  rintro e w8 ⟨rfl, hb8⟩
  go_wp2_with fail
  go_ret
  exact ⟨rfl, bth (bth (bth (bth hb04 hb5) hb6) hb7) hb8⟩
end Go.Proofs.Ytecebamhenlnoaa
