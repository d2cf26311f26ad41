/- Drawing sources and reports. -/
import Derived.Test.YtecebamhenlnoaaDr2
import Derived.Test.YtecebamhenlnoaaPfPart
import Derived.Test.YtecebamhenlnoaaApp
import Derived.Test.YtecebamhenlnoaaBas2
import Derived.Test.YtecebamhenlnoaaCg
namespace Go.Proofs.Ytecebamhenlnoaa
open Go.RowKit
set_option maxHeartbeats 1000000 in
theorem l17Fill_any (g : Nat) (s : Str) (w : World) (hc : Cur w g) (hs : s.length ≤ 1000) :
    Calls Try.prog 113 #[.pointer (some ⟨g, 0, none⟩), sv s] w (ShortText (200 * s.length) w g) := by
  go_enter Try.func113, Try.ntmps113
  go_wp2_with fail
  go_loopw [5, 6] (fun v i wr => ∃ (k : Nat) (out : Str), k ≤ s.length ∧ out.length ≤ 200 * k ∧ i = .int .i64 k ∧ v = sv out ∧ Drawn w g wr) (fun _ i _ => s.length - (intOf i).toNat)
  case atStart => exact ⟨0, [], by omega, by simp, rfl, rfl, Drawn.refl hc⟩
  case round =>
    obtain ⟨k, out, hk, hol, rfl, rfl, hd⟩ := hrel
    by_cases hlt : k < s.length
    · by_cases h64 : s[k].toNat = 64
      · have h64' : ((s[k].toNat : Int) == 64) = true := by simp [h64]
        clear h64
        go_wp2_with fail
        refine (l17Text_1 g _ hd.cur).mono ?_
        rintro e w2 ⟨t, ht, rfl, hd2⟩
        go_wp2_with fail
        go_roundw
        case rel => exact ⟨k + 1, out ++ t, by omega, by rw [List.length_append]; omega, by go_num, rfl, hd.trans hd2⟩
        case measure => simp [intOf]; omega
      · have h64' : ((s[k].toNat : Int) == 64) = false := by simp; omega
        clear h64
        go_wp2_with fail
        go_roundw
        case rel => exact ⟨k + 1, _, by omega, by rw [List.length_append]; have := List.length_take_le 1 (s.drop k); omega, by go_num, rfl, hd⟩
        case measure => simp [intOf]; omega
    · obtain rfl : k = s.length := by omega
      go_wp2_with fail
      go_ret
      exact ⟨out, hol, rfl, hd⟩
theorem lit_reads (w : World) (t : TypeId) (cs : Array Value) (g n m : Nat) (hg : w.heap.size = g) (hn : cs.toList.length = n) (hok : cs.toList.all (strOK m) = true) :
    ∃ l : List Str, (∀ s ∈ l, s.length ≤ m) ∧ Reads encS 1 (w.alloc (.cells cs t)) (w.alloc (.cells cs t)).heap.size (some ⟨g, 0, none⟩) n l := by
  obtain ⟨l, h1, h2, h3⟩ := strOK_list m cs.toList hok
  subst hg
  have hbl := Blk.new_ w t cs
  rw [h1] at hbl
  have hr := hbl.reads encS_len hbl.lt
  rw [h3, hn] at hr
  exact ⟨l, h2, hr⟩
set_option maxRecDepth 100000 in
theorem l17Snippets_any (w : World) :
    Calls Try.prog 112 #[] w fun e w' => e = .returned (.slice (some ⟨w.heap.size, 0, none⟩) 50 50) ∧ (∃ l : List Str, (∀ s ∈ l, s.length ≤ 128) ∧ Reads encS 1 w' w'.heap.size (some ⟨w.heap.size, 0, none⟩) 50 l) ∧ Below w.heap.size w w' := by
  go_enter Try.func112, Try.ntmps112
  go_wp2_with fail
  go_ret
  exact ⟨rfl, lit_reads _ _ _ _ _ _ rfl rfl (by decide +kernel), (Below.refl _ _).alloc (Nat.le_refl _) _⟩
set_option maxRecDepth 100000 in
set_option maxHeartbeats 2000000 in
theorem l17Source_any (g : Nat) (w : World) (hc : Cur w g) :
    Calls Try.prog 111 #[.pointer (some ⟨g, 0, none⟩), .int .i64 3] w (ShortText 600 w g) := by
  have hgl := hc.lt
  go_enter Try.func111, Try.ntmps111
  go_wp2_with fail
  refine (l17Snippets_any _).mono ?_
  rintro e w1 ⟨rfl, ⟨l, hls, hr⟩, hb1⟩
  have hd0 := (Drawn.refl hc).below hb1
  have hc1 := hd0.cur
  go_wp2_with fail
  refine (l1Below_any g 12 _ hc1 (by omega) (by omega)).mono ?_
  rintro e w2 ⟨x2, hx2a, hx2b, rfl, hd2⟩
  go_wp2_with fail
  refine (l1Below_any g 3 _ hd2.cur (by omega) (by omega)).mono ?_
  rintro e w3 ⟨x3, hx3a, hx3b, rfl, hd3⟩
  have hd13 := hd2.trans hd3
  obtain ⟨i0, rfl⟩ := Int.eq_ofNat_of_zero_le hx2a
  obtain ⟨n0, rfl⟩ := Int.eq_ofNat_of_zero_le hx3a
  go_wp2_with fail
  go_loopw [6, 7, 8] (fun v i n wr => ∃ (k m : Nat) (s : Str), s.length ≤ 600 ∧ k + 30 * m ≤ 200 ∧ i = .int .i64 k ∧ n = .int .i64 m ∧ v = sv s ∧ Drawn w1 g wr) (fun _ _ n _ => (intOf n).toNat)
  case atStart => exact ⟨i0, 1 + n0, [], by simp, by omega, rfl, by go_num, rfl, hd13⟩
  case round =>
    obtain ⟨k, m, s, hsl, hkm, rfl, rfl, rfl, hd⟩ := hrel
    by_cases hm : 0 < m
    · by_cases hk : k < 50
      · obtain ⟨b, off, t, he, hbl, ht, hct⟩ := (hr.drawn hd (fun b off e => by injection e with e; injection e with e; omega)).atS hk
        injection he with he; injection he with he he'
        subst he he'
        have htl := hls t (List.mem_of_getElem? ht)
        clear ht
        simp only [Nat.zero_add] at hct
        go_wp2_with fail
        refine (l17Fill_any g t _ hd.cur (by omega)).mono ?_
        rintro e w4 ⟨u, hul, rfl, hd4⟩
        have hdd := hd.trans hd4
        have hul' : (u.length : Int) ≤ 25600 := by omega
        clear hul
        by_cases h600 : (s.length : Int) + (u.length : Int) < 600
        · go_wp2_with fail
          refine (l1Below_any g 5 _ hdd.cur (by omega) (by omega)).mono ?_
          rintro e w5 ⟨x5, hx5a, hx5b, rfl, hd5⟩
          have hd6 := hdd.trans hd5
          obtain ⟨j5, rfl⟩ := Int.eq_ofNat_of_zero_le hx5a
          go_wp2_with fail
          refine (l1Once_any g 4 _ hd6.cur (by omega) (by omega)).mono ?_
          rintro e w7 ⟨bb, rfl, hd7⟩
          have hd8 := hd6.trans hd7
          cases bb with
          | false =>
            go_wp2_with fail
            go_roundw
            case rel => exact ⟨k + 1 + j5, m - 1, s ++ (u ++ [10]), by simp only [List.length_append, List.length_cons, List.length_nil]; omega, by omega, by go_num, by go_num, by simp, hd8⟩
            case measure => simp [intOf]; omega
          | true =>
            go_wp2_with fail
            refine (l1Below_any g 20 _ hd8.cur (by omega) (by omega)).mono ?_
            rintro e w9 ⟨x9, hx9a, hx9b, rfl, hd9⟩
            have hd10 := hd8.trans hd9
            obtain ⟨j9, rfl⟩ := Int.eq_ofNat_of_zero_le hx9a
            go_wp2_with fail
            go_roundw
            case rel => exact ⟨k + 1 + j5 + j9, m - 1, s ++ (u ++ [10]), by simp only [List.length_append, List.length_cons, List.length_nil]; omega, by omega, by go_num, by go_num, by simp, hd10⟩
            case measure => simp [intOf]; omega
        · have h600' : (600 : Int) ≤ (s.length : Int) + (u.length : Int) := by omega
          clear h600
          go_wp2_with fail
          refine (l1Below_any g 5 _ hdd.cur (by omega) (by omega)).mono ?_
          rintro e w5 ⟨x5, hx5a, hx5b, rfl, hd5⟩
          have hd6 := hdd.trans hd5
          obtain ⟨j5, rfl⟩ := Int.eq_ofNat_of_zero_le hx5a
          go_wp2_with fail
          refine (l1Once_any g 4 _ hd6.cur (by omega) (by omega)).mono ?_
          rintro e w7 ⟨bb, rfl, hd7⟩
          have hd8 := hd6.trans hd7
          cases bb with
          | false =>
            go_wp2_with fail
            go_roundw
            case rel => exact ⟨k + 1 + j5, m - 1, s, hsl, by omega, by go_num, by go_num, rfl, hd8⟩
            case measure => simp [intOf]; omega
          | true =>
            go_wp2_with fail
            refine (l1Below_any g 20 _ hd8.cur (by omega) (by omega)).mono ?_
            rintro e w9 ⟨x9, hx9a, hx9b, rfl, hd9⟩
            have hd10 := hd8.trans hd9
            obtain ⟨j9, rfl⟩ := Int.eq_ofNat_of_zero_le hx9a
            go_wp2_with fail
            go_roundw
            case rel => exact ⟨k + 1 + j5 + j9, m - 1, s, hsl, by omega, by go_num, by go_num, rfl, hd10⟩
            case measure => simp [intOf]; omega
      · go_wp2_with fail
        go_ret
        exact ⟨s, hsl, rfl, ⟨hd.1, only_trans hd0.2 hd.2⟩⟩
    · go_wp2_with fail
      go_ret
      exact ⟨s, hsl, rfl, ⟨hd.1, only_trans hd0.2 hd.2⟩⟩
theorem l37Prose_any (g : Nat) (w : World) (hc : Cur w g) :
    Calls Try.prog 105 #[.pointer (some ⟨g, 0, none⟩)] w (ShortText 600 w g) := by
  go_enter Try.func105, Try.ntmps105
  go_wp2_with fail
  with_reducible refine (l1Pick_lit g _ hc _ _ _ _ ?_ ?_ ?_ ?_ 600 ?_).mono ?_
  · rfl
  · rfl
  · omega
  · omega
  · decide
  rintro e w1 ⟨s, hs, rfl, hd⟩
  go_wp2_with fail
  go_ret
  exact ⟨s, hs, rfl, hd⟩
theorem l37Chunk_any (g : Nat) (w : World) (hc : Cur w g) :
    Calls Try.prog 109 #[.pointer (some ⟨g, 0, none⟩)] w (ShortText 600 w g) := by
  go_enter Try.func109, Try.ntmps109
  go_wp2_with fail
  refine (l1Once_any g 4 _ hc (by omega) (by omega)).mono ?_
  rintro e w1 ⟨b, rfl, hd⟩
  have hc1 := hd.cur
  cases b with
  | true =>
    go_wp2_with fail
    with_reducible refine (l1Pick_lit g _ hc1 _ _ _ _ ?_ ?_ ?_ ?_ 600 ?_).mono ?_
    · rfl
    · rfl
    · omega
    · omega
    · decide
    rintro e w2 ⟨s, hs, rfl, hd2⟩
    go_wp2_with fail
    go_ret
    exact ⟨s, hs, rfl, hd.trans hd2⟩
  | false =>
    go_wp2_with fail
    refine (l17Source_any g _ hc1).mono ?_
    rintro e w2 ⟨s, hs, rfl, hd2⟩
    go_wp2_with fail
    go_ret
    exact ⟨s, hs, rfl, hd.trans hd2⟩
end Go.Proofs.Ytecebamhenlnoaa
