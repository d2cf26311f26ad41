/- Drawing programs and reports: what the drawing functions may return: texts that are not long. -/
import Derived.Test.YtecebamhenlnoaaDraw
import Derived.Test.YtecebamhenlnoaaFmt
import Derived.Test.YtecebamhenlnoaaRb
namespace Go.Proofs.Ytecebamhenlnoaa
open Go.RowKit
theorem Drawn.cur {w w' : World} {g : Nat} (h : Drawn w g w') : Cur w' g := h.1
def ShortText (m : Nat) (w : World) (g : Nat) (e : Ending) (w' : World) : Prop := ∃ s : Str, s.length ≤ m ∧ e = .returned (sv s) ∧ Drawn w g w'
def strOK (m : Nat) : Value → Bool
  | .string b => decide (b.size ≤ m)
  | _ => false
theorem strOK_list (m : Nat) (cs : List Value) (h : cs.all (strOK m) = true) : ∃ l : List Str, cs = l.flatMap encS ∧ (∀ s ∈ l, s.length ≤ m) ∧ l.length = cs.length := by
  induction cs with
  | nil => exact ⟨[], rfl, by simp, rfl⟩
  | cons a t ih =>
    rw [List.all_cons, Bool.and_eq_true] at h
    obtain ⟨l, h1, h2, h3⟩ := ih h.2
    cases a with
    | string b =>
      obtain ⟨s, rfl⟩ := str_eta b
      refine ⟨s :: l, by rw [h1]; rfl, ?_, by simp [h3]⟩
      intro x hx
      rcases List.mem_cons.1 hx with rfl | hx
      · exact of_decide_eq_true h.1
      · exact h2 x hx
    | _ => simp [strOK] at h
theorem l1Pick_lit (g : Nat) (W : World) (hc : Cur W g) (cs : Array Value) (t : TypeId) (gb n : Nat) (hg : W.heap.size = gb) (hn : cs.toList.length = n) (h0 : 0 < n) (hn' : n ≤ 65536) (m : Nat) (hok : cs.toList.all (strOK m) = true) :
    Calls Try.prog 85 #[.pointer (some ⟨g, 0, none⟩), .slice (some ⟨gb, 0, none⟩) n n] (W.alloc (.cells cs t)) (ShortText m W g) := by
  obtain ⟨l, h1, h2, h3⟩ := strOK_list m cs.toList hok
  subst hg
  have hb := (Below.refl W.heap.size W).alloc (Nat.le_refl _) (.cells cs t)
  have hbl := Blk.new_ W t cs
  rw [h1] at hbl
  have hr := hbl.reads encS_len hbl.lt
  rw [h3, hn] at hr
  have hgl := hc.lt
  refine (l1Pick_any g _ n n l _ (hc.below hb) hr (fun b off e => by injection e with e; injection e with e; omega) h0 hn').mono ?_
  rintro e w' ⟨x, hx, rfl, hd⟩
  exact ⟨x, h2 x hx, rfl, hd.1, only_trans (only_of_below hb) hd.2⟩
theorem dgs_len (f k : Nat) (s : Str) : (dgs f k s).length ≤ f + s.length := by
  induction f generalizing k s with
  | zero => simp [dgs]
  | succ f ih =>
    rw [dgs]; split
    · omega
    · have := ih (k / 10) ((48 + UInt8.ofNat (k % 10)) :: s)
      rw [List.length_cons] at this; omega
theorem fmtI_len (n : Int) : (fmtI n).length ≤ n.natAbs + 1 := by
  unfold fmtI
  have := dgs_len n.natAbs n.natAbs []
  simp only [List.length_nil] at this
  split
  · simp
  · split
    · rw [List.length_cons]; omega
    · omega

set_option maxRecDepth 100000 in
set_option maxHeartbeats 4000000 in
theorem l17Text_0 (g : Nat) (w : World) (hc : Cur w g) :
    Calls Try.prog 114 #[.pointer (some ⟨g, 0, none⟩), .int .i64 0] w (ShortText 32 w g) := by
  go_enter Try.func114, Try.ntmps114
  go_wp2_with fail
  refine (l1Below_any g 12 _ hc (by omega) (by omega)).mono ?_
  rintro e w1 ⟨x1, hx1a, hx1b, rfl, hd1⟩
  have hr : 0 ≤ x1 % 5 ∧ x1 % 5 < 5 := by omega
  have hk : x1 % 5 = 0 ∨ x1 % 5 = 1 ∨ x1 % 5 = 2 ∨ x1 % 5 = 3 ∨ x1 % 5 = 4 := by omega
  rcases hk with hk | hk | hk | hk | hk
  · go_wp2_with fail
    with_reducible refine (l1Below_any g 7 _ hd1.cur (by omega) (by omega)).mono ?_
    rintro e w2 ⟨x2, hx2a, hx2b, rfl, hd2⟩
    have hc2 := hd1.trans hd2
    go_wp2_with fail
    with_reducible refine (specFormatInt_any _ _ (by omega) (by omega)).mono ?_
    rintro e w3 ⟨rfl, rfl⟩
    have hl3 := fmtI_len x2
    generalize fmtI x2 = s3 at hl3 ⊢
    go_wp2_with fail
    go_ret
    exact ⟨_, by first | omega | (simp only [List.length_append, List.length_cons, List.length_nil]; omega), rfl, hc2⟩
  · go_wp2_with fail
    with_reducible refine (l1Below_any g 7 _ hd1.cur (by omega) (by omega)).mono ?_
    rintro e w2 ⟨x2, hx2a, hx2b, rfl, hd2⟩
    have hc2 := hd1.trans hd2
    go_wp2_with fail
    with_reducible refine (specFormatInt_any _ _ (by omega) (by omega)).mono ?_
    rintro e w3 ⟨rfl, rfl⟩
    have hl3 := fmtI_len x2
    generalize fmtI x2 = s3 at hl3 ⊢
    go_wp2_with fail
    go_ret
    exact ⟨_, by first | omega | (simp only [List.length_append, List.length_cons, List.length_nil]; omega), rfl, hc2⟩
  · go_wp2_with fail
    with_reducible refine (l1Pick_lit g _ hd1.cur _ _ _ _ ?_ ?_ ?_ ?_ 8 ?_).mono ?_
    · rfl
    · rfl
    · omega
    · omega
    · decide
    rintro e w2 ⟨s2, hl2, rfl, hd2⟩
    have hc2 := hd1.trans hd2
    go_wp2_with fail
    go_ret
    exact ⟨_, by first | omega | (simp only [List.length_append, List.length_cons, List.length_nil]; omega), rfl, hc2⟩
  · go_wp2_with fail
    with_reducible refine (l1Pick_lit g _ hd1.cur _ _ _ _ ?_ ?_ ?_ ?_ 16 ?_).mono ?_
    · rfl
    · rfl
    · omega
    · omega
    · decide
    rintro e w2 ⟨s2, hl2, rfl, hd2⟩
    have hc2 := hd1.trans hd2
    go_wp2_with fail
    go_ret
    exact ⟨_, by first | omega | (simp only [List.length_append, List.length_cons, List.length_nil]; omega), rfl, hc2⟩
  · go_wp2_with fail
    with_reducible refine (l1Below_any g 5 _ hd1.cur (by omega) (by omega)).mono ?_
    rintro e w2 ⟨x2, hx2a, hx2b, rfl, hd2⟩
    have hc2 := hd1.trans hd2
    go_wp2_with fail
    with_reducible refine (specFormatInt_any _ _ (by omega) (by omega)).mono ?_
    rintro e w3 ⟨rfl, rfl⟩
    have hl3 := fmtI_len x2
    generalize fmtI x2 = s3 at hl3 ⊢
    go_wp2_with fail
    with_reducible refine (l1Below_any g 5 _ hc2.cur (by omega) (by omega)).mono ?_
    rintro e w4 ⟨x4, hx4a, hx4b, rfl, hd4⟩
    have hc4 := hc2.trans hd4
    go_wp2_with fail
    with_reducible refine (specFormatInt_any _ _ (by omega) (by omega)).mono ?_
    rintro e w5 ⟨rfl, rfl⟩
    have hl5 := fmtI_len x4
    generalize fmtI x4 = s5 at hl5 ⊢
    go_wp2_with fail
    go_ret
    exact ⟨_, by first | omega | (simp only [List.length_append, List.length_cons, List.length_nil]; omega), rfl, hc4⟩
set_option maxRecDepth 100000 in
set_option maxHeartbeats 4000000 in
theorem l17Text_1 (g : Nat) (w : World) (hc : Cur w g) :
    Calls Try.prog 114 #[.pointer (some ⟨g, 0, none⟩), .int .i64 1] w (ShortText 200 w g) := by
  go_enter Try.func114, Try.ntmps114
  go_wp2_with fail
  refine (l1Below_any g 12 _ hc (by omega) (by omega)).mono ?_
  rintro e w1 ⟨x1, hx1a, hx1b, rfl, hd1⟩
  have hk : x1 = 0 ∨ x1 = 1 ∨ x1 = 2 ∨ x1 = 3 ∨ x1 = 4 ∨ x1 = 5 ∨ x1 = 6 ∨ x1 = 7 ∨ x1 = 8 ∨ x1 = 9 ∨ x1 = 10 ∨ x1 = 11 := by omega
  rcases hk with rfl | rfl | rfl | rfl | rfl | rfl | rfl | rfl | rfl | rfl | rfl | rfl
  · go_wp2_with fail
    with_reducible refine (l1Below_any g 7 _ hd1.cur (by omega) (by omega)).mono ?_
    rintro e w2 ⟨x2, hx2a, hx2b, rfl, hd2⟩
    have hc2 := hd1.trans hd2
    go_wp2_with fail
    with_reducible refine (specFormatInt_any _ _ (by omega) (by omega)).mono ?_
    rintro e w3 ⟨rfl, rfl⟩
    have hl3 := fmtI_len x2
    generalize fmtI x2 = s3 at hl3 ⊢
    go_wp2_with fail
    go_ret
    exact ⟨_, by first | omega | (simp only [List.length_append, List.length_cons, List.length_nil]; omega), rfl, hc2⟩
  · go_wp2_with fail
    with_reducible refine (l1Below_any g 7 _ hd1.cur (by omega) (by omega)).mono ?_
    rintro e w2 ⟨x2, hx2a, hx2b, rfl, hd2⟩
    have hc2 := hd1.trans hd2
    go_wp2_with fail
    with_reducible refine (specFormatInt_any _ _ (by omega) (by omega)).mono ?_
    rintro e w3 ⟨rfl, rfl⟩
    have hl3 := fmtI_len x2
    generalize fmtI x2 = s3 at hl3 ⊢
    go_wp2_with fail
    go_ret
    exact ⟨_, by first | omega | (simp only [List.length_append, List.length_cons, List.length_nil]; omega), rfl, hc2⟩
  · go_wp2_with fail
    with_reducible refine (l1Pick_lit g _ hd1.cur _ _ _ _ ?_ ?_ ?_ ?_ 8 ?_).mono ?_
    · rfl
    · rfl
    · omega
    · omega
    · decide
    rintro e w2 ⟨s2, hl2, rfl, hd2⟩
    have hc2 := hd1.trans hd2
    go_wp2_with fail
    go_ret
    exact ⟨_, by first | omega | (simp only [List.length_append, List.length_cons, List.length_nil]; omega), rfl, hc2⟩
  · go_wp2_with fail
    with_reducible refine (l1Pick_lit g _ hd1.cur _ _ _ _ ?_ ?_ ?_ ?_ 16 ?_).mono ?_
    · rfl
    · rfl
    · omega
    · omega
    · decide
    rintro e w2 ⟨s2, hl2, rfl, hd2⟩
    have hc2 := hd1.trans hd2
    go_wp2_with fail
    go_ret
    exact ⟨_, by first | omega | (simp only [List.length_append, List.length_cons, List.length_nil]; omega), rfl, hc2⟩
  · go_wp2_with fail
    with_reducible refine (l1Below_any g 5 _ hd1.cur (by omega) (by omega)).mono ?_
    rintro e w2 ⟨x2, hx2a, hx2b, rfl, hd2⟩
    have hc2 := hd1.trans hd2
    go_wp2_with fail
    with_reducible refine (specFormatInt_any _ _ (by omega) (by omega)).mono ?_
    rintro e w3 ⟨rfl, rfl⟩
    have hl3 := fmtI_len x2
    generalize fmtI x2 = s3 at hl3 ⊢
    go_wp2_with fail
    with_reducible refine (l1Below_any g 5 _ hc2.cur (by omega) (by omega)).mono ?_
    rintro e w4 ⟨x4, hx4a, hx4b, rfl, hd4⟩
    have hc4 := hc2.trans hd4
    go_wp2_with fail
    with_reducible refine (specFormatInt_any _ _ (by omega) (by omega)).mono ?_
    rintro e w5 ⟨rfl, rfl⟩
    have hl5 := fmtI_len x4
    generalize fmtI x4 = s5 at hl5 ⊢
    go_wp2_with fail
    go_ret
    exact ⟨_, by first | omega | (simp only [List.length_append, List.length_cons, List.length_nil]; omega), rfl, hc4⟩
  · go_wp2_with fail
    with_reducible refine (l17Text_0 g _ hd1.cur).mono ?_
    rintro e w2 ⟨s2, hl2, rfl, hd2⟩
    have hc2 := hd1.trans hd2
    go_wp2_with fail
    with_reducible refine (l1Pick_lit g _ hc2.cur _ _ _ _ ?_ ?_ ?_ ?_ 8 ?_).mono ?_
    · rfl
    · rfl
    · omega
    · omega
    · decide
    rintro e w3 ⟨s3, hl3, rfl, hd3⟩
    have hc3 := hc2.trans hd3
    go_wp2_with fail
    with_reducible refine (l17Text_0 g _ hc3.cur).mono ?_
    rintro e w4 ⟨s4, hl4, rfl, hd4⟩
    have hc4 := hc3.trans hd4
    go_wp2_with fail
    go_ret
    exact ⟨_, by first | omega | (simp only [List.length_append, List.length_cons, List.length_nil]; omega), rfl, hc4⟩
  · go_wp2_with fail
    with_reducible refine (l17Text_0 g _ hd1.cur).mono ?_
    rintro e w2 ⟨s2, hl2, rfl, hd2⟩
    have hc2 := hd1.trans hd2
    go_wp2_with fail
    with_reducible refine (l1Pick_lit g _ hc2.cur _ _ _ _ ?_ ?_ ?_ ?_ 8 ?_).mono ?_
    · rfl
    · rfl
    · omega
    · omega
    · decide
    rintro e w3 ⟨s3, hl3, rfl, hd3⟩
    have hc3 := hc2.trans hd3
    go_wp2_with fail
    with_reducible refine (l17Text_0 g _ hc3.cur).mono ?_
    rintro e w4 ⟨s4, hl4, rfl, hd4⟩
    have hc4 := hc3.trans hd4
    go_wp2_with fail
    go_ret
    exact ⟨_, by first | omega | (simp only [List.length_append, List.length_cons, List.length_nil]; omega), rfl, hc4⟩
  · go_wp2_with fail
    with_reducible refine (l1Pick_lit g _ hd1.cur _ _ _ _ ?_ ?_ ?_ ?_ 8 ?_).mono ?_
    · rfl
    · rfl
    · omega
    · omega
    · decide
    rintro e w2 ⟨s2, hl2, rfl, hd2⟩
    have hc2 := hd1.trans hd2
    go_wp2_with fail
    with_reducible refine (l17Text_0 g _ hc2.cur).mono ?_
    rintro e w3 ⟨s3, hl3, rfl, hd3⟩
    have hc3 := hc2.trans hd3
    go_wp2_with fail
    go_ret
    exact ⟨_, by first | omega | (simp only [List.length_append, List.length_cons, List.length_nil]; omega), rfl, hc3⟩
  · go_wp2_with fail
    with_reducible refine (l1Pick_lit g _ hd1.cur _ _ _ _ ?_ ?_ ?_ ?_ 16 ?_).mono ?_
    · rfl
    · rfl
    · omega
    · omega
    · decide
    rintro e w2 ⟨s2, hl2, rfl, hd2⟩
    have hc2 := hd1.trans hd2
    go_wp2_with fail
    with_reducible refine (l17Text_0 g _ hc2.cur).mono ?_
    rintro e w3 ⟨s3, hl3, rfl, hd3⟩
    have hc3 := hc2.trans hd3
    go_wp2_with fail
    go_ret
    exact ⟨_, by first | omega | (simp only [List.length_append, List.length_cons, List.length_nil]; omega), rfl, hc3⟩
  · go_wp2_with fail
    with_reducible refine (l1Pick_lit g _ hd1.cur _ _ _ _ ?_ ?_ ?_ ?_ 8 ?_).mono ?_
    · rfl
    · rfl
    · omega
    · omega
    · decide
    rintro e w2 ⟨s2, hl2, rfl, hd2⟩
    have hc2 := hd1.trans hd2
    go_wp2_with fail
    with_reducible refine (l17Text_0 g _ hc2.cur).mono ?_
    rintro e w3 ⟨s3, hl3, rfl, hd3⟩
    have hc3 := hc2.trans hd3
    go_wp2_with fail
    go_ret
    exact ⟨_, by first | omega | (simp only [List.length_append, List.length_cons, List.length_nil]; omega), rfl, hc3⟩
  · go_wp2_with fail
    with_reducible refine (l17Text_0 g _ hd1.cur).mono ?_
    rintro e w2 ⟨s2, hl2, rfl, hd2⟩
    have hc2 := hd1.trans hd2
    go_wp2_with fail
    with_reducible refine (l17Text_0 g _ hc2.cur).mono ?_
    rintro e w3 ⟨s3, hl3, rfl, hd3⟩
    have hc3 := hc2.trans hd3
    go_wp2_with fail
    with_reducible refine (l17Text_0 g _ hc3.cur).mono ?_
    rintro e w4 ⟨s4, hl4, rfl, hd4⟩
    have hc4 := hc3.trans hd4
    go_wp2_with fail
    go_ret
    exact ⟨_, by first | omega | (simp only [List.length_append, List.length_cons, List.length_nil]; omega), rfl, hc4⟩
  · go_wp2_with fail
    with_reducible refine (l17Text_0 g _ hd1.cur).mono ?_
    rintro e w2 ⟨s2, hl2, rfl, hd2⟩
    have hc2 := hd1.trans hd2
    go_wp2_with fail
    go_ret
    exact ⟨_, by first | omega | (simp only [List.length_append, List.length_cons, List.length_nil]; omega), rfl, hc2⟩
end Go.Proofs.Ytecebamhenlnoaa
