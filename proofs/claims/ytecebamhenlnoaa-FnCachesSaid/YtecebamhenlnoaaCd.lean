/- The law FnExactStoreEntry, walked out of the contracts of its callees. -/
import Derived.Test.YtecebamhenlnoaaCc
namespace Go.Proofs.Ytecebamhenlnoaa
open Go.RowKit
theorem stE_len (l : List Pair) (key out : Str) : (stE l key out).length ≤ 8 := by
  unfold stE; split
  · exact List.length_take_le _ _
  · simp
set_option maxHeartbeats 1000000 in
theorem fnExactStoreEntry_walk (A : Option Addr) (len cap : Nat) (l : List Pair) (key out : Str) (w : World) (hr : Reads enc2 2 w w.heap.size A len l) (hs : ∀ e ∈ l, e.1.length ≤ maxLen ∧ e.2.length ≤ maxLen) (hlen : len ≤ maxLen) (hkl : key.length ≤ maxLen) (hol : out.length ≤ maxLen) :
    Calls Try.prog 5 #[.slice A len cap, sv key, sv out] w fun e w' => e = .returned (.bool true) ∧ Below w.heap.size w w' := by
  have hkl' : key.length ≤ 9223372036854775807 := hkl
  have hol' : out.length ≤ 9223372036854775807 := hol
  by_cases hk1 : 1048576 < key.length
  · go_enter Try.func5, Try.ntmps5
    go_wp2_with fail
    go_ret
    exact ⟨rfl, Below.refl _ _⟩
  by_cases ho1 : 1048576 < out.length
  · go_enter Try.func5, Try.ntmps5
    go_wp2_with fail
    go_ret
    exact ⟨rfl, Below.refl _ _⟩
  go_enter Try.func5, Try.ntmps5
  go_wp2_with fail
  refine (szEntryS_any A len cap l _ _ hr hs hlen (by omega) (by omega)).mono ?_
  rintro e w1 ⟨rfl, hb1⟩
  by_cases hsz : szS l 1048576 < 0
  · go_wp2_with fail
    go_ret
    exact ⟨rfl, hb1⟩
  have hl : len ≤ 1048576 := by have := szS_len (l := l) (n := 1048576) (by omega); have := hr.len; omega
  have hee : ∀ x : List Pair, (x == x) = true := by simp
  have h8 := stE_len l key out
  have HE := Lib.hid hee
  clear hee
  go_wp2_with fail
  have hr1 := hr.next hb1
  -- w0 := spec.StoreEntry(toEntryS(aC), ..)
  refine (toEntryS_any A len cap l _ hr1 hl).mono ?_
  rintro e w2 ⟨g2, rfl, ho2, hb2⟩
  go_wp2_with fail
  refine (specStore_any _ len len l key out _ (ho2.reads enc2_len) hl).mono ?_
  rintro e w3 ⟨A3, n3, c3, rfl, ho3, hb3⟩
  have hl3 := ho3.len
  go_wp2_with fail
  have hr3 := (hr1.next hb2).next hb3
  -- x0, g0
  refine (toEntryS_any A len cap l _ hr3 hl).mono ?_
  rintro e w4 ⟨g4, rfl, ho4, hb4⟩
  go_wp2_with fail
  refine (implStore_any _ len len l key out _ (ho4.reads enc2_len) hl).mono ?_
  rintro e w5 ⟨A5, n5, c5, rfl, ho5, hb5⟩
  have hl5 := ho5.len
  obtain rfl : n3 = n5 := by omega
  have hn8 : n3 ≤ 8 := by omega
  clear hl3 hl5
  go_wp2_with fail
  refine (eqEntryS_any _ _ n3 n3 _ _ _ _ _ (ho5.reads enc2_len) (((ho3.reads enc2_len).next hb4).next hb5) (by unfold maxLen; omega) (by unfold maxLen; omega)).mono ?_
  rintro e w6 ⟨rfl, hb6⟩
  rw [HE.out]
  go_wp2_with fail
  -- x0 against toEntryS(aC)
  have hr6 := ((hr3.next hb4).next hb5).next hb6
  refine (toEntryS_any A len cap l _ hr6 hl).mono ?_
  rintro e w7 ⟨g7, rfl, ho7, hb7⟩
  go_wp2_with fail
  have ho4' := ((ho4.below hb5).below hb6).below hb7
  refine (eqEntryS_any _ _ len len _ _ _ _ _ (ho4'.reads enc2_len) (ho7.reads enc2_len) hlen hlen).mono ?_
  rintro e w8 ⟨rfl, hb8⟩
  rw [HE.out]
  go_wp2_with fail
  -- mark x0
  refine (markEntryS_any _ len len 1 l _ _ (ho4'.below hb8) hl (by omega)).mono ?_
  rintro e w9 ⟨rfl, ho9, hg9⟩
  have hb08 := bth (bth (bth (bth (bth (bth (bth hb1 hb2) hb3) hb4) hb5) hb6) hb7) hb8
  have hb03 := bth (bth hb1 hb2) hb3
  have l4 := ho4.lt
  simp only at l4
  have s03 := hb03.size
  have hb09 : Below w.heap.size w w9 := hb08.trans (only_below' hg9 hb08.size (by intro g hg; simp [Value.ownBlock] at hg; omega))
  have ho5' := (((ho5.below hb6).below hb7).below hb8).kept hg9 (ho5.apart (.inl l4.2))
  have ho3' := (((((ho3.below hb4).below hb5).below hb6).below hb7).below hb8).kept hg9 (ho3.apart (.inr l4.1))
  have q9 : decide ((1 : Int) + 2 * (len : Int) < 0) = false := by simp; omega
  go_wp2_with fail
  refine (eqEntryS_any _ _ n3 n3 _ _ _ _ _ (ho5'.reads enc2_len) (ho3'.reads enc2_len) (by unfold maxLen; omega) (by unfold maxLen; omega)).mono ?_
  rintro e w10 ⟨rfl, hb10⟩
  rw [HE.out]
  clear q9
  go_wp2_with fail
  -- mark g0, look for the marks
  refine (markEntryS_any _ n3 _ 1 _ _ _ (ho5'.below hb10) (by omega) (by omega)).mono ?_
  rintro e w11 ⟨rfl, ho11, hg11⟩
  go_wp2_with fail
  have r11 := ho11.reads enc2_len
  refine (heldEntryS_any _ n3 _ 1 _ r11 (by omega) (by omega)).mono ?_
  rintro e w12 ⟨rfl, hb12⟩
  have s34 : w3.heap.size ≤ w4.heap.size := hb4.size
  have hb010 := bth hb09 hb10
  have hb011 : Below w.heap.size w w11 := hb010.trans (only_below' hg11 hb010.size (fun g hg => by have := ho5.row g hg; omega))
  have ho3'' : OwnEntry w11 w2.heap.size A3 n3 c3 (stE l key out) := (ho3'.below hb10).kept hg11 (by
    rcases ho5.cases with ⟨rfl, _⟩ | ⟨g, rfl⟩
    · cases A3 with
      | none => exact .inl rfl
      | some b => exact .inr (by simp [Value.ownBlock])
    · have := (ho5.row g rfl).1
      exact ho3.apart (g := g) (.inr (by omega)))
  have q12 : decide ((1 : Int) + 2 * (n3 : Int) < 0) = false := by simp; omega
  have q12' : ((1 : Int) + 2 * (n3 : Int) != (1 : Int) + 2 * (n3 : Int)) = false := by simp
  go_wp2_with fail
  -- h0
  have hr12 := (hr.below (bth hb011 hb12)).more (bth hb011 hb12).size
  refine (toEntryS_any A len cap l _ hr12 hl).mono ?_
  rintro e w13 ⟨g13, rfl, ho13, hb13⟩
  go_wp2_with fail
  refine (implStore_any _ len len l key out _ (ho13.reads enc2_len) hl).mono ?_
  rintro e w14 ⟨A14, n14, c14, rfl, ho14, hb14⟩
  have hl14 := ho14.len
  have hl3 := ho3.len
  obtain rfl : n14 = n3 := by omega
  clear hl14 hl3
  go_wp2_with fail
  refine (eqEntryS_any _ _ n14 n14 _ _ _ _ _ (ho14.reads enc2_len) (((ho3''.below hb12).below hb13).below hb14 |>.reads enc2_len) (by unfold maxLen; omega) (by unfold maxLen; omega)).mono ?_
  rintro e w15 ⟨rfl, hb15⟩
  rw [HE.out]
  go_wp2_with fail
  refine (heldEntryS_any _ n14 _ 1 _ ((((ho11.below hb12).below hb13).below hb14).below hb15 |>.reads enc2_len) (by omega) (by omega)).mono ?_
  rintro e w16 ⟨rfl, hb16⟩
  go_wp2_with fail
  go_ret
  exact ⟨rfl, bth (bth (bth (bth (bth hb011 hb12) hb13) hb14) hb15) hb16⟩
end Go.Proofs.Ytecebamhenlnoaa
