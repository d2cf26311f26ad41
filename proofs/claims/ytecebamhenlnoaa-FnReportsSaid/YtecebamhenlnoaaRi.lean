/- What ChunkSources of the program and of the reference return; the law FnExactChunkSources. -/
import Derived.Test.YtecebamhenlnoaaRf
import Derived.Test.YtecebamhenlnoaaPs
namespace Go.Proofs.Ytecebamhenlnoaa
open Go.RowKit
def chs (l : List Pair) : List Str := (l.filter fun p => !p.1.isEmpty).map (·.2)
def chunksOf (l : List Pair) : List Str := if repOK l = true then chs l else []
theorem chs_snoc {l : List Pair} {k : Nat} {x : Pair} (h : l[k]? = some x) : chs (l.take (k + 1)) = chs (l.take k) ++ (if x.1.isEmpty then [] else [x.2]) := by
  rw [take_snoc' h, chs, List.filter_append, List.map_append]
  cases hx : x.1.isEmpty <;> simp [chs, hx]
theorem repOK_len' {l : List Pair} (h : repOK l = true) : l.length ≤ 13 := by
  rw [repOK, Bool.and_eq_true] at h; simpa using h.1
set_option maxHeartbeats 2000000 in
theorem implChunkSources_any (A : Option Addr) (len cap : Nat) (l : List Pair) (w : World) (hr : Reads enc2 2 w w.heap.size A len l) (hlen : len ≤ 1048576) (hs : ∀ e ∈ l, e.1.length ≤ 1048576 ∧ e.2.length ≤ 1048576) :
    Calls Try.prog 39 #[.slice A len cap] w fun e w' => ∃ A' n c, e = .returned (.slice A' n c) ∧ OwnStr w' w.heap.size A' n c (chunksOf l) ∧ n ≤ 13 ∧ Below w.heap.size w w' := by
  go_enter Try.func39, Try.ntmps39
  go_wp2_with fail
  refine (implIsReport_any A len cap l _ hr hlen hs).mono ?_
  rintro e w1 ⟨rfl, hb1⟩
  cases hR : repOK l with
  | false =>
    go_wp2_with fail
    go_ret
    exact ⟨_, _, _, rfl, by rw [chunksOf, if_neg (by rw [hR]; simp)]; exact Own.nil_, by omega, hb1⟩
  | true =>
    have h13 := repOK_len' hR
    rw [hr.len] at h13
    have hres : chunksOf l = chs l := by rw [chunksOf, if_pos hR]
    have HR := Lib.hid hres
    clear hres hR
    go_wp2_with fail
    go_loopw [3, 11] (fun v i wr => ∃ (k : Nat) (A' : Option Addr) (n c : Nat), k ≤ len ∧ n ≤ k ∧ i = .int .i64 k ∧ v = .slice A' n c ∧ OwnStr wr w.heap.size A' n c (chs (l.take k)) ∧ Below w.heap.size w wr) (fun _ i _ => len - (intOf i).toNat)
    case atStart => exact ⟨0, none, 0, 0, by omega, by omega, rfl, rfl, Own.nil_, hb1⟩
    case round =>
      obtain ⟨k, A', n, c, hk, hnk, rfl, rfl, ho, hb⟩ := hrel
      by_cases hlt : k < len
      · obtain ⟨b, off, x, y, rfl, hbl, hx, hc0, hc1⟩ := (hr.below hb).at2 hlt
        have HX := Lib.hid hx
        clear hx
        have hbs := hb.size
        cases hxe : x.isEmpty with
        | true =>
          go_wp2_with fail
          go_roundw
          case rel => exact ⟨k + 1, A', n, c, by omega, by omega, by go_num, rfl, by rw [chs_snoc HX.out]; simp only [hxe, if_true, List.append_nil]; exact ho.alloc _, hb.alloc hb.size _⟩
          case measure => simp [intOf]; omega
        | false =>
          go_wp2_with (first | (at_builtin; refine wpList_app1 encS tyStr encS_len encS_one rfl _ _ rfl w.heap.size _ n c _ rfl ((ho.alloc _).alloc _) y _ 0 1 rfl (newsS _ _ _ _ ?_) ?_ ?_ ?_ ?_; (simp); (omega); (unfold maxLen; omega); (simp; omega); intro g3 c3 w3 ho3 hg3 hb3 hat3))
          have hb2 := (hb.alloc hbs (.cells #[sv x, sv y] 68)).alloc (o := .cells #[sv y] 9) (by simp; omega)
          go_roundw
          case rel => exact ⟨k + 1, _, n + 1, c3, by omega, by omega, by go_num, rfl, by rw [chs_snoc HX.out]; simp only [hxe]; exact ho3, hb2.trans hb3⟩
          case measure => simp [intOf]; omega
      · obtain rfl : k = len := by omega
        rw [List.take_of_length_le (by rw [hr.len]; omega)] at ho
        go_wp2_with fail
        go_ret
        exact ⟨A', n, c, rfl, by rw [HR.out]; exact ho, by omega, hb⟩
set_option maxHeartbeats 2000000 in
theorem specChunkSources_any (A : Option Addr) (len cap : Nat) (l : List Pair) (w : World) (hr : Reads enc2 2 w w.heap.size A len l) (hlen : len ≤ 1048576) (hs : ∀ e ∈ l, e.1.length ≤ 1048576 ∧ e.2.length ≤ 1048576) :
    Calls Try.prog 38 #[.slice A len cap] w fun e w' => ∃ A' n c, e = .returned (.slice A' n c) ∧ OwnStr w' w.heap.size A' n c (chunksOf l) ∧ n ≤ 13 ∧ Below w.heap.size w w' := by
  go_enter Try.func38, Try.ntmps38
  go_wp2_with fail
  go_loopw [3, 4] (fun v i wr => ∃ (k : Nat) (A' : Option Addr) (n c : Nat), k ≤ len ∧ n ≤ k ∧ (k = 0 ∨ repOK l = true) ∧ i = .int .i64 k ∧ v = .slice A' n c ∧ OwnStr wr w.heap.size A' n c (chs (l.take k)) ∧ Below w.heap.size w wr) (fun _ i _ => len - (intOf i).toNat)
  case atStart => exact ⟨0, _, 0, 0, by omega, by omega, .inl rfl, rfl, rfl, Own.new_ (n := 0) encS_len w [] _ rfl rfl (by unfold maxLen; omega) (Nat.le_refl _) rfl, (Below.refl _ _).alloc (Nat.le_refl _) _⟩
  case round =>
    obtain ⟨k, A', n, c, hk, hnk, hk0, rfl, rfl, ho, hb⟩ := hrel
    have HK := Lib.hid hk0
    clear hk0
    by_cases hlt : k < len
    · go_wp2_with fail
      refine (specIsReport_any A len cap l _ ((hr.below hb).more hb.size) hlen hs).mono ?_
      rintro e w1 ⟨rfl, hb1⟩
      have hb' := bth hb hb1
      have ho' := ho.below hb1
      have hbs := hb'.size
      cases hR : repOK l with
      | false =>
        go_wp2_with fail
        go_ret
        rcases HK.out with h | h
        · subst h
          exact ⟨A', n, c, rfl, by rw [chunksOf, if_neg (by rw [hR]; simp)]; exact ho', by omega, hb'⟩
        · rw [hR] at h; cases h
      | true =>
        have h13 := repOK_len' hR
        rw [hr.len] at h13
        obtain ⟨b, off, x, y, rfl, hbl, hx, hc0, hc1⟩ := (hr.below hb').at2 hlt
        have HX := Lib.hid hx
        clear hx
        cases hxe : x.isEmpty with
        | true =>
          go_wp2_with fail
          go_roundw
          case rel => exact ⟨k + 1, A', n, c, by omega, by omega, .inr hR, by go_num, rfl, by rw [chs_snoc HX.out]; simp only [hxe, if_true, List.append_nil]; exact ho', hb'⟩
          case measure => simp [intOf]; omega
        | false =>
          go_wp2_with (first | (at_builtin; refine wpList_app1 encS tyStr encS_len encS_one rfl _ _ rfl w.heap.size _ n c _ rfl (ho'.alloc _) y _ 0 1 rfl (newsS _ _ _ _ ?_) ?_ ?_ ?_ ?_; (simp); (omega); (unfold maxLen; omega); (simp; omega); intro g3 c3 w3 ho3 hg3 hb3 hat3))
          go_roundw
          case rel => exact ⟨k + 1, _, n + 1, c3, by omega, by omega, .inr hR, by go_num, rfl, by rw [chs_snoc HX.out]; simp only [hxe]; exact ho3, (hb'.alloc hbs _).trans hb3⟩
          case measure => simp [intOf]; omega
    · obtain rfl : k = len := by omega
      rw [List.take_of_length_le (by rw [hr.len]; omega)] at ho
      have hfin : chunksOf l = chs l ∧ n ≤ 13 := by
        rcases HK.out with h | h
        · have hl0 : l = [] := List.length_eq_zero_iff.1 (by rw [hr.len]; exact h)
          refine ⟨by rw [hl0, chunksOf]; simp [chs], by omega⟩
        · have h13 := repOK_len' h
          rw [hr.len] at h13
          exact ⟨by rw [chunksOf, if_pos h], by omega⟩
      have HF := Lib.hid hfin
      clear hfin
      go_wp2_with fail
      go_ret
      exact ⟨A', n, c, rfl, by rw [HF.out.1]; exact ho, HF.out.2, hb⟩
set_option maxHeartbeats 2000000 in
theorem fnExactChunkSources_walk (A : Option Addr) (len cap : Nat) (l : List Pair) (w : World) (hr : Reads enc2 2 w w.heap.size A len l) (hs : ∀ e ∈ l, e.1.length ≤ maxLen ∧ e.2.length ≤ maxLen) (hlen : len ≤ maxLen) :
    Calls Try.prog 10 #[.slice A len cap] w fun e w' => e = .returned (.bool true) ∧ Below w.heap.size w w' := by
  go_enter Try.func10, Try.ntmps10
  go_wp2_with fail
  refine (szPartS_any A len cap l _ _ hr hs hlen (by omega) (by omega)).mono ?_
  rintro e w1 ⟨rfl, hb1⟩
  by_cases hsz : szS l 1048576 < 0
  · go_wp2_with fail
    go_ret
    exact ⟨rfl, hb1⟩
  have hl : len ≤ 1048576 := by have := szS_len (l := l) (n := 1048576) (by omega); have := hr.len; omega
  have hz := szS_bounds (l := l) (by omega)
  have hee : ∀ x : List Pair, (x == x) = true := by simp
  have hes : ∀ x : List Str, (x == x) = true := by simp
  have HE := Lib.hid hee
  have HES := Lib.hid hes
  clear hee hes
  go_wp2_with fail
  have hr1 := hr.next hb1
  refine (toPartS_any A len cap l _ hr1 hl).mono ?_
  rintro e w2 ⟨g2, rfl, ho2, hb2⟩
  go_wp2_with fail
  refine (specChunkSources_any _ len len l _ (ho2.reads enc2_len) hl hz).mono ?_
  rintro e w3 ⟨A3, n3, c3, rfl, ho3, hn13, hb3⟩
  have hl3 := ho3.len
  go_wp2_with fail
  have hr3 := (hr1.next hb2).next hb3
  refine (toPartS_any A len cap l _ hr3 hl).mono ?_
  rintro e w4 ⟨g4, rfl, ho4, hb4⟩
  go_wp2_with fail
  refine (implChunkSources_any _ len len l _ (ho4.reads enc2_len) hl hz).mono ?_
  rintro e w5 ⟨A5, n5, c5, rfl, ho5, _, hb5⟩
  have hl5 := ho5.len
  obtain rfl : n3 = n5 := by omega
  clear hl3 hl5
  go_wp2_with fail
  refine (eqStringS_any _ _ n3 n3 _ _ _ _ _ (ho5.reads encS_len) (((ho3.reads encS_len).next hb4).next hb5) (by unfold maxLen; omega) (by unfold maxLen; omega)).mono ?_
  rintro e w6 ⟨rfl, hb6⟩
  rw [HES.out]
  go_wp2_with fail
  have hr6 := ((hr3.next hb4).next hb5).next hb6
  refine (toPartS_any A len cap l _ hr6 hl).mono ?_
  rintro e w7 ⟨g7, rfl, ho7, hb7⟩
  go_wp2_with fail
  have ho4' := ((ho4.below hb5).below hb6).below hb7
  refine (eqPartS_any _ _ len len _ _ _ _ _ (ho4'.reads enc2_len) (ho7.reads enc2_len) hlen hlen).mono ?_
  rintro e w8 ⟨rfl, hb8⟩
  rw [HE.out]
  go_wp2_with fail
  refine (markPartS_any _ len len 1 l _ _ (ho4'.below hb8) hl (by omega)).mono ?_
  rintro e w9 ⟨rfl, ho9, hg9⟩
  have hb08 := bth (bth (bth (bth (bth (bth (bth hb1 hb2) hb3) hb4) hb5) hb6) hb7) hb8
  have hb03 := bth (bth hb1 hb2) hb3
  have l4 := ho4.lt
  simp only at l4
  have s03 := hb03.size
  have hb09 : Below w.heap.size w w9 := hb08.trans (only_below' hg9 hb08.size (by intro g hg; simp [Value.ownBlock] at hg; omega))
  have ho5' := (((ho5.below hb6).below hb7).below hb8).kept hg9 (ho5.apart (.inl l4.2))
  have ho3' := (((((ho3.below hb4).below hb5).below hb6).below hb7).below hb8).kept hg9 (ho3.apart (.inr l4.1))
  have q9 : decide ((1 : Int) + 2 * (len : Int) < 0) = false := by simp; omega
  go_wp2_with fail
  refine (eqStringS_any _ _ n3 n3 _ _ _ _ _ (ho5'.reads encS_len) (ho3'.reads encS_len) (by unfold maxLen; omega) (by unfold maxLen; omega)).mono ?_
  rintro e w10 ⟨rfl, hb10⟩
  rw [HES.out]
  clear q9
  go_wp2_with fail
  refine (markStringS_any _ n3 _ 1 _ _ _ (ho5'.below hb10) (by omega) (by omega)).mono ?_
  rintro e w11 ⟨rfl, ho11, hg11⟩
  go_wp2_with fail
  have r11 := ho11.reads encS_len
  refine (heldStringS_any _ n3 _ 1 _ r11 (by omega) (by omega)).mono ?_
  rintro e w12 ⟨rfl, hb12⟩
  have s34 : w3.heap.size ≤ w4.heap.size := hb4.size
  have hb010 := bth hb09 hb10
  have hb011 : Below w.heap.size w w11 := hb010.trans (only_below' hg11 hb010.size (fun g hg => by have := ho5.row g hg; omega))
  have ho3'' : OwnStr w11 w2.heap.size A3 n3 c3 (chunksOf l) := (ho3'.below hb10).kept hg11 (by
    rcases ho5.cases with ⟨rfl, _⟩ | ⟨g, rfl⟩
    · cases A3 with
      | none => exact .inl rfl
      | some b => exact .inr (by simp [Value.ownBlock])
    · have := (ho5.row g rfl).1
      exact ho3.apart (g := g) (.inr (by omega)))
  have q12 : decide ((1 : Int) + (n3 : Int) < 0) = false := by simp; omega
  have q12' : ((1 : Int) + (n3 : Int) != (1 : Int) + (n3 : Int)) = false := by simp
  go_wp2_with fail
  have hr12 := (hr.below (bth hb011 hb12)).more (bth hb011 hb12).size
  refine (toPartS_any A len cap l _ hr12 hl).mono ?_
  rintro e w13 ⟨g13, rfl, ho13, hb13⟩
  go_wp2_with fail
  refine (implChunkSources_any _ len len l _ (ho13.reads enc2_len) hl hz).mono ?_
  rintro e w14 ⟨A14, n14, c14, rfl, ho14, _, hb14⟩
  have hl14 := ho14.len
  have hl3 := ho3.len
  obtain rfl : n14 = n3 := by omega
  clear hl14 hl3
  go_wp2_with fail
  refine (eqStringS_any _ _ n14 n14 _ _ _ _ _ (ho14.reads encS_len) (((ho3''.below hb12).below hb13).below hb14 |>.reads encS_len) (by unfold maxLen; omega) (by unfold maxLen; omega)).mono ?_
  rintro e w15 ⟨rfl, hb15⟩
  rw [HES.out]
  go_wp2_with fail
  refine (heldStringS_any _ n14 _ 1 _ ((((ho11.below hb12).below hb13).below hb14).below hb15 |>.reads encS_len) (by omega) (by omega)).mono ?_
  rintro e w16 ⟨rfl, hb16⟩
  go_wp2_with fail
  go_ret
  exact ⟨rfl, bth (bth (bth (bth (bth hb011 hb12) hb13) hb14) hb15) hb16⟩
end Go.Proofs.Ytecebamhenlnoaa
