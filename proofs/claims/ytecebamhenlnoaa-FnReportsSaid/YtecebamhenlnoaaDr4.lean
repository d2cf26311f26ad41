/- Drawing reports: l37Draw, l37Any, DrawFormatReport. -/
import Derived.Test.YtecebamhenlnoaaDr3
namespace Go.Proofs.Ytecebamhenlnoaa
open Go.RowKit
def small (l : List Pair) : Prop := ∀ e ∈ l, e.1.length ≤ 16 ∧ e.2.length ≤ 600
theorem small_snoc {l : List Pair} (h : small l) (p : Pair) (h1 : p.1.length ≤ 16) (h2 : p.2.length ≤ 600) : small (l ++ [p]) := by
  intro e he
  rcases List.mem_append.1 he with he | he
  · exact h e he
  · simp at he; subst he; exact ⟨h1, h2⟩
theorem small_set {l : List Pair} (h : small l) (k : Nat) (p : Pair) (h1 : p.1.length ≤ 16) (h2 : p.2.length ≤ 600) : small (l.set k p) := by
  intro e he
  rcases List.mem_or_eq_of_mem_set he with he | rfl
  · exact h e he
  · exact ⟨h1, h2⟩
theorem Reads.kept {α : Type} {enc : α → List Value} {s : Nat} {w w' : World} {n b off : Nat} {row : Option Nat} {l : List α} (h : Reads enc s w w.heap.size (some ⟨b, off, none⟩) n l) (hg : w.grownBy w' row) (hne : some b ≠ row) : Reads enc s w' w'.heap.size (some ⟨b, off, none⟩) n l := by
  refine ⟨h.1, fun hn => ?_⟩
  obtain ⟨b', off', e, hb, hc⟩ := h.2 hn
  injection e with e; injection e with e e'
  subst e e'
  refine ⟨b, off, rfl, Nat.lt_of_lt_of_le hb hg.size, fun k x j u hx hu => ?_⟩
  rw [← hc k x j u hx hu]
  exact World.cell?_of_block (hg.block b hb hne)
def SomeParts (lo hi : Nat) (w : World) (g : Nat) (e : Ending) (w' : World) : Prop := ∃ A n c l, e = .returned (.slice A n c) ∧ OwnPart w' w.heap.size A n c l ∧ lo ≤ n ∧ n ≤ hi ∧ small l ∧ Drawn w g w'
set_option maxHeartbeats 2000000 in
theorem l37Draw_any (g : Nat) (w : World) (hc : Cur w g) :
    Calls Try.prog 104 #[.pointer (some ⟨g, 0, none⟩)] w (SomeParts 1 8 w g) := by
  have hgl := hc.lt
  have hob : OwnPart (w.alloc (.cells #[] 68)) w.heap.size (some ⟨w.heap.size, 0, none⟩) 0 0 [] := Own.new_ (n := 0) enc2_len w [] _ rfl rfl (by unfold maxLen; omega) (Nat.le_refl _) rfl
  have hb0 : Below w.heap.size w (w.alloc (.cells #[] 68)) := (Below.refl _ _).alloc (Nat.le_refl _) _
  go_enter Try.func104, Try.ntmps104
  go_wp2_with fail
  have hb1 := hb0.alloc hb0.size (.cells #[sv [115, 101, 116, 117, 112], sv [109, 111, 100, 101, 108], sv [112, 108, 111, 116], sv [120]] 9)
  have hd0 := (Drawn.refl hc).below hb1
  obtain ⟨nm, hnm, hrn⟩ := lit_reads (w.alloc (.cells #[] 68)) 9 #[sv [115, 101, 116, 117, 112], sv [109, 111, 100, 101, 108], sv [112, 108, 111, 116], sv [120]] (w.heap.size + 1) 4 16 (by simp) rfl (by decide)
  have hob1 := hob.alloc (.cells #[sv [115, 101, 116, 117, 112], sv [109, 111, 100, 101, 108], sv [112, 108, 111, 116], sv [120]] 9)
  refine (l1Below_any g 3 _ hd0.cur (by omega) (by omega)).mono ?_
  rintro e w2 ⟨x2, hx2a, hx2b, rfl, hd2⟩
  obtain ⟨n0, rfl⟩ := Int.eq_ofNat_of_zero_le hx2a
  have hrn2 := hrn.drawn hd2 (fun b off e => by injection e with e; injection e with e; omega)
  have hob2 := hob1.drawn hd2 hgl
  have hd02 := hd0.trans hd2
  clear hrn hd2 hob1 hd0 hb1 hob hb0
  have hs2 : w.heap.size + 1 < w2.heap.size := by
    obtain ⟨b, off, x, he, hb, _⟩ := hrn2.atS (k := 0) (by omega)
    injection he with he; injection he with he; omega
  go_wp2_with fail
  go_loopw [3, 5] (fun v i wr => ∃ (k : Nat) (A : Option Addr) (n c : Nat) (l : List Pair), k ≤ 4 ∧ n + 2 * k ≤ 8 ∧ (n = 0 → 1 ≤ k) ∧ i = .int .i64 ((k : Int) - 1) ∧ v = .slice A n c ∧ OwnPart wr w.heap.size A n c l ∧ (∀ g, (Value.slice A n c).ownBlock = some g → g = w.heap.size ∨ w2.heap.size ≤ g) ∧ small l ∧ Drawn w g wr ∧ Reads encS 1 wr wr.heap.size (some ⟨w.heap.size + 1, 0, none⟩) 4 nm ∧ w2.heap.size ≤ wr.heap.size) (fun _ i _ => (intOf i + 1).toNat)
  case atStart => exact ⟨n0 + 2, _, 0, 0, [], by omega, by omega, by omega, by go_num, rfl, hob2, (by intro g he; injection he with he; simp only at he; omega), by intro e he; simp at he, hd02, hrn2, Nat.le_refl _⟩
  case round =>
    obtain ⟨k, A, n, c, l, hk4, hnk, hn1, rfl, rfl, ho, hg, hsm, hd, hrn, hw2⟩ := hrel
    by_cases hk : 0 < k
    · go_wp2_with fail
      refine (l1Once_any g 2 _ hd.cur (by omega) (by omega)).mono ?_
      rintro e w4 ⟨bb, rfl, hd4⟩
      replace ho := ho.drawn hd4 hgl
      replace hrn := hrn.drawn hd4 (fun b off e => by injection e with e; injection e with e; omega)
      replace hw2 : w2.heap.size ≤ w4.heap.size := Nat.le_trans hw2 hd4.2.size
      replace hd := hd.trans hd4
      clear hd4
      cases bb with
      | false =>
        go_wp2_with fail
        refine (l37Chunk_any g _ hd.cur).mono ?_
        rintro e w6 ⟨x, hxl, rfl, hd6⟩
        replace ho := ho.drawn hd6 hgl
        replace hrn := hrn.drawn hd6 (fun b off e => by injection e with e; injection e with e; omega)
        have hw6 : w2.heap.size ≤ w6.heap.size := Nat.le_trans hw2 hd6.2.size
        replace hd := hd.trans hd6
        have hws := hd.2.size
        obtain ⟨b7, off7, y, he7, hb7, hy, hcy⟩ := hrn.atS (k := k - 1) (by omega)
        injection he7 with he7; injection he7 with he7 he7'
        subst he7 he7'
        have hyl := hnm y (List.mem_of_getElem? hy)
        clear hy hd6
        simp only [Nat.zero_add] at hcy
        go_wp2_with (first | (at_builtin; refine wpList_app1 enc2 tyPart enc2_len enc2_one rfl _ _ rfl w.heap.size _ n c _ rfl (ho.alloc _) (y, x) _ 0 1 rfl (news2 _ _ _ _ _ ?_) ?_ ?_ ?_ ?_; (rfl); (omega); (unfold maxLen; omega); (simp; omega); intro g3 c3 w3 ho3 hg3 hb3 hat3))
        have hd9 := (hd.below ((Below.refl _ _).alloc (Nat.le_refl _) (.cells #[sv y, sv x] 68))).own hb3 hgl
        have hrn9 := (hrn.next ((Below.refl _ _).alloc (Nat.le_refl _) (.cells #[sv y, sv x] 68))).kept hg3 (fun e => by have := hg _ e.symm; omega)
        have hgg : ∀ g, (Value.slice (some ⟨g3, 0, none⟩) (n + 1) c3).ownBlock = some g → g = w.heap.size ∨ w2.heap.size ≤ g := by
          intro g he
          injection he with he
          simp only at he
          subst he
          rcases hat3 with h | h
          · exact hg _ h
          · right; rw [h]; simp; omega
        go_roundw
        case rel => exact ⟨k - 1, _, n + 1, c3, _, by omega, by omega, by omega, by go_num, rfl, ho3, hgg, small_snoc hsm _ hyl hxl, hd9, hrn9, by have := hb3.size; simp at this; omega⟩
        case measure => simp [intOf]; omega
      | true =>
        go_wp2_with fail
        refine (l37Prose_any g _ hd.cur).mono ?_
        rintro e w5 ⟨t, htl, rfl, hd5⟩
        replace ho := ho.drawn hd5 hgl
        replace hrn := hrn.drawn hd5 (fun b off e => by injection e with e; injection e with e; omega)
        replace hw2 : w2.heap.size ≤ w5.heap.size := Nat.le_trans hw2 hd5.2.size
        replace hd := hd.trans hd5
        have hws5 := hd.2.size
        clear hd5
        go_wp2_with (first | (at_builtin; refine wpList_app1 enc2 tyPart enc2_len enc2_one rfl _ _ rfl w.heap.size _ n c _ rfl (ho.alloc _) (([] : Str), t) _ 0 1 rfl (news2 _ _ _ _ _ ?_) ?_ ?_ ?_ ?_; (rfl); (omega); (unfold maxLen; omega); (simp; omega); intro ga ca wa hoa hga hba hata))
        replace hd := (hd.below ((Below.refl _ _).alloc (Nat.le_refl _) (.cells #[sv [], sv t] 68))).own hba hgl
        replace hrn := (hrn.next ((Below.refl _ _).alloc (Nat.le_refl _) (.cells #[sv [], sv t] 68))).kept hga (fun e => by have := hg _ e.symm; omega)
        have hgga : ∀ g, (Value.slice (some ⟨ga, 0, none⟩) (n + 1) ca).ownBlock = some g → g = w.heap.size ∨ w2.heap.size ≤ g := by
          intro g he
          injection he with he
          simp only at he
          subst he
          rcases hata with h | h
          · exact hg _ h
          · right; rw [h]; simp; omega
        replace hsm := small_snoc hsm (([] : Str), t) (by simp) htl
        replace hw2 : w2.heap.size ≤ wa.heap.size := by have := hba.size; simp at this; omega
        clear ho hg hata hga hba hws5
        have ho := hoa
        have hg := hgga
        clear hoa hgga
        generalize l ++ [(([] : Str), t)] = l' at ho hsm
        clear l
        obtain ⟨l, rfl⟩ : ∃ l, l = l' := ⟨_, rfl⟩
        go_wp2_with fail
        refine (l37Chunk_any g _ hd.cur).mono ?_
        rintro e w6 ⟨x, hxl, rfl, hd6⟩
        replace ho := ho.drawn hd6 hgl
        replace hrn := hrn.drawn hd6 (fun b off e => by injection e with e; injection e with e; omega)
        have hw6 : w2.heap.size ≤ w6.heap.size := Nat.le_trans hw2 hd6.2.size
        replace hd := hd.trans hd6
        have hws := hd.2.size
        obtain ⟨b7, off7, y, he7, hb7, hy, hcy⟩ := hrn.atS (k := k - 1) (by omega)
        injection he7 with he7; injection he7 with he7 he7'
        subst he7 he7'
        have hyl := hnm y (List.mem_of_getElem? hy)
        clear hy hd6
        simp only [Nat.zero_add] at hcy
        go_wp2_with (first | (at_builtin; refine wpList_app1 enc2 tyPart enc2_len enc2_one rfl _ _ rfl w.heap.size _ (n + 1) ca _ rfl (ho.alloc _) (y, x) _ 0 1 rfl (news2 _ _ _ _ _ ?_) ?_ ?_ ?_ ?_; (rfl); (omega); (unfold maxLen; omega); (simp; omega); intro g3 c3 w3 ho3 hg3 hb3 hat3))
        have hd9 := (hd.below ((Below.refl _ _).alloc (Nat.le_refl _) (.cells #[sv y, sv x] 68))).own hb3 hgl
        have hrn9 := (hrn.next ((Below.refl _ _).alloc (Nat.le_refl _) (.cells #[sv y, sv x] 68))).kept hg3 (fun e => by have := hg _ e.symm; omega)
        have hgg : ∀ g, (Value.slice (some ⟨g3, 0, none⟩) ((n + 1) + 1) c3).ownBlock = some g → g = w.heap.size ∨ w2.heap.size ≤ g := by
          intro g he
          injection he with he
          simp only at he
          subst he
          rcases hat3 with h | h
          · exact hg _ h
          · right; rw [h]; simp; omega
        go_roundw
        case rel => exact ⟨k - 1, _, (n + 1) + 1, c3, _, by omega, by omega, by omega, by go_num, rfl, ho3, hgg, small_snoc hsm _ hyl hxl, hd9, hrn9, by have := hb3.size; simp at this; omega⟩
        case measure => simp [intOf]; omega
    · have hk0 : k = 0 := by omega
      have hk1 : ((k : Int) - 1) < 0 := by omega
      clear hk0
      go_wp2_with fail
      go_ret
      exact ⟨A, n, c, l, rfl, ho, by omega, by omega, hsm, hd⟩
set_option maxHeartbeats 2000000 in
theorem l37Any_any (g : Nat) (w : World) (hc : Cur w g) :
    Calls Try.prog 82 #[.pointer (some ⟨g, 0, none⟩)] w (SomeParts 1 10 w g) := by
  have hgl := hc.lt
  go_enter Try.func82, Try.ntmps82
  go_wp2_with fail
  refine (l37Draw_any g _ hc).mono ?_
  rintro e w1 ⟨A, n, c, l, rfl, ho, hn1, hn8, hsm, hd⟩
  go_wp2_with fail
  refine (l1Below_any g 10 _ hd.cur (by omega) (by omega)).mono ?_
  rintro e w2 ⟨x, hx0, hx1, rfl, hd2⟩
  replace ho := ho.drawn hd2 hgl
  replace hd := hd.trans hd2
  have hws := hd.2.size
  clear hd2
  have hx : x = 0 ∨ x = 1 ∨ x = 2 ∨ (((x == 0) = false) ∧ ((x == 1) = false) ∧ ((x == 2) = false)) := by
    by_cases h0 : x = 0
    · exact .inl h0
    by_cases h1 : x = 1
    · exact .inr (.inl h1)
    by_cases h2 : x = 2
    · exact .inr (.inr (.inl h2))
    · exact .inr (.inr (.inr ⟨by simpa using h0, by simpa using h1, by simpa using h2⟩))
  rcases hx with rfl | rfl | rfl | ⟨h0, h1, h2⟩
  · go_wp2_with fail
    refine (l37Prose_any g _ hd.cur).mono ?_
    rintro e w3 ⟨t, htl, rfl, hd3⟩
    replace ho := ho.drawn hd3 hgl
    replace hd := hd.trans hd3
    clear hd3
    go_wp2_with fail
    refine (l37Prose_any g _ hd.cur).mono ?_
    rintro e w4 ⟨u, hul, rfl, hd4⟩
    replace ho := ho.drawn hd4 hgl
    replace hd := hd.trans hd4
    have hws4 := hd.2.size
    clear hd4
    have hb4 := (Below.refl w4.heap.size w4).alloc (Nat.le_refl _) (.cells #[sv [], sv t, sv [], sv u] 68)
    have hrr : Reads enc2 2 (w4.alloc (.cells #[sv [], sv t, sv [], sv u] 68)) (w4.alloc (.cells #[sv [], sv t, sv [], sv u] 68)).heap.size (some ⟨w4.heap.size, 0, none⟩) 2 [(([] : Str), t), (([] : Str), u)] := by
      have hbl := Blk.new_ w4 68 #[sv [], sv t, sv [], sv u]
      exact Blk.reads (l := [(([] : Str), t), (([] : Str), u)]) enc2_len hbl hbl.lt
    go_wp2_with (first | (at_builtin; refine wpList_appAll enc2 tyPart enc2_len enc2_one rfl _ _ rfl w.heap.size _ n c _ rfl (ho.alloc _) _ 2 2 _ [(([] : Str), t), (([] : Str), u)] rfl hrr ?_ ?_ ?_ ?_; (omega); (unfold maxLen; omega); (simp; omega); intro A5 c5 w5 ho5 hg5 hb5))
    go_ret
    refine ⟨A5, n + 2, c5, _, rfl, ho5, by omega, by omega, ?_, (hd.below hb4).own hb5 hgl⟩
    have := small_snoc (small_snoc hsm (([] : Str), t) (by simp) htl) (([] : Str), u) (by simp) hul
    simpa using this
  · go_wp2_with fail
    with_reducible refine (l1Pick_lit g _ hd.cur _ _ _ _ ?_ ?_ ?_ ?_ 16 ?_).mono ?_
    · rfl
    · rfl
    · omega
    · omega
    · decide
    rintro e w3 ⟨t, htl, rfl, hd3⟩
    replace ho := ho.drawn hd3 hgl
    replace hd := hd.trans hd3
    clear hd3
    rcases ho.cases with ⟨_, h0, _⟩ | ⟨g2, rfl⟩
    · omega
    obtain ⟨_, _, x, y, e0, _, hx, hc0, hc1⟩ := (ho.reads enc2_len).at2 (k := n - 1) (by omega)
    injection e0 with e0; injection e0 with e0 e0'; subst e0 e0'
    simp only [Nat.zero_add] at hc0 hc1
    have hxl := hsm _ (List.mem_of_getElem? hx)
    have hz0 := ho.fil.1.frozen ((n - 1) * 2)
    have ho3 := ho.set_ enc2_len (n - 1) 0 (x, y) (t, y) (sv t) hx (by omega) rfl
    have hb3 : Below w.heap.size w3 (w3.setCell ⟨g2, (n - 1) * 2, none⟩ (sv t)) := (Below.refl _ _).setCell (p := ⟨g2, (n - 1) * 2, none⟩) ho.lt.1 _
    have HO := Lib.hid ho3
    clear hx ho3
    go_wp2_with fail
    go_ret
    exact ⟨_, n, c, _, rfl, HO.out, by omega, by omega, small_set hsm _ _ htl hxl.2, hd.own hb3 hgl⟩
  · go_wp2_with fail
    with_reducible refine (l1Pick_lit g _ hd.cur _ _ _ _ ?_ ?_ ?_ ?_ 16 ?_).mono ?_
    · rfl
    · rfl
    · omega
    · omega
    · decide
    rintro e w3 ⟨t, htl, rfl, hd3⟩
    replace ho := ho.drawn hd3 hgl
    replace hd := hd.trans hd3
    clear hd3
    rcases ho.cases with ⟨_, h0, _⟩ | ⟨g2, rfl⟩
    · omega
    obtain ⟨_, _, x, y, e0, _, hx, hc0, hc1⟩ := (ho.reads enc2_len).at2 (k := n - 1) (by omega)
    injection e0 with e0; injection e0 with e0 e0'; subst e0 e0'
    simp only [Nat.zero_add] at hc0 hc1
    have hxl := hsm _ (List.mem_of_getElem? hx)
    have hz0 := ho.fil.1.frozen ((n - 1) * 2 + 1)
    have ho3 := ho.set_ enc2_len (n - 1) 1 (x, y) (x, t) (sv t) hx (by omega) rfl
    have hb3 : Below w.heap.size w3 (w3.setCell ⟨g2, (n - 1) * 2 + 1, none⟩ (sv t)) := (Below.refl _ _).setCell (p := ⟨g2, (n - 1) * 2 + 1, none⟩) ho.lt.1 _
    have HO := Lib.hid ho3
    clear hx ho3
    go_wp2_with fail
    go_ret
    exact ⟨_, n, c, _, rfl, HO.out, by omega, by omega, small_set hsm _ _ hxl.1 (by simp only; omega), hd.own hb3 hgl⟩
  · go_wp2_with fail
    go_ret
    exact ⟨A, n, c, l, rfl, ho, by omega, by omega, hsm, hd⟩
def DrawnParts (w : World) (e : Ending) (w' : World) : Prop := ∃ A n c l, e = .returned (.slice A n c) ∧ OwnPart w' w.heap.size A n c l ∧ n ≤ 10 ∧ small l ∧ Below w.heap.size w w'
theorem drawFormatReport_any (A : Option Addr) (n c : Nat) (bs : List UInt8) (w : World) (hr : Reads encB 1 w w.heap.size A n bs) (hn : n ≤ 1048576) :
    Calls Try.prog 48 #[.slice A n c] w (DrawnParts w) := by
  go_enter Try.func48, Try.ntmps48
  go_wp2_with fail
  refine (l1New_any A n c bs _ hr hn).mono ?_
  rintro e w1 ⟨rfl, hc1, hb1⟩
  go_wp2_with fail
  refine (l37Any_any _ _ hc1).mono ?_
  rintro e w2 ⟨A2, n2, c2, l2, rfl, ho2, _, hn2, hsm, hd2⟩
  go_wp2_with fail
  go_ret
  exact ⟨A2, n2, c2, l2, rfl, ho2.mono hb1.size, hn2, hsm, hb1.trans (hd2.toBelow hc1)⟩
end Go.Proofs.Ytecebamhenlnoaa
