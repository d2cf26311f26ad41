/- What IsReport of the program returns. -/
import Derived.Test.YtecebamhenlnoaaRc
namespace Go.Proofs.Ytecebamhenlnoaa
open Go.RowKit
theorem ne_empty {s : Str} (h : s.isEmpty = false) : ¬ s = [] := by rintro rfl; cases h
theorem empty_of {s : Str} (h : s.isEmpty = true) : s = [] := by cases s with | nil => rfl | cons => cases h
set_option maxHeartbeats 4000000 in
theorem implIsReport_any (A : Option Addr) (len cap : Nat) (l : List Pair) (w : World) (hr : Reads enc2 2 w w.heap.size A len l) (hlen : len ≤ 1048576) (hs : ∀ e ∈ l, e.1.length ≤ 1048576 ∧ e.2.length ≤ 1048576) :
    Calls Try.prog 30 #[.slice A len cap] w fun e w' => e = .returned (.bool (repOK l)) ∧ Below w.heap.size w w' := by
  by_cases h13 : 13 < len
  · have hres : repOK l = false := by simp [repOK, hr.len]; omega
    rw [hres]
    clear hres
    go_enter Try.func30, Try.ntmps30
    go_wp2_with fail
    go_ret
    exact ⟨rfl, Below.refl _ _⟩
  have hres : repOK l = irep false [] l := by simp [repOK, hr.len]; omega
  rw [hres]
  clear hres
  have hd13 : decide ((13 : Int) < (len : Int)) = false := by simp; omega
  go_enter Try.func30, Try.ntmps30
  go_wp2_with fail
  go_loopw [3, 15] (fun v i wr => ∃ (A' : Option Addr) (n c k : Nat) (names : List Str), k ≤ len ∧ n ≤ k ∧ i = .int .i64 k ∧ v = .slice A' n c ∧ OwnStr wr w.heap.size A' n c names ∧ irep false [] l = irep (prevOf l k) names (l.drop k) ∧ Below w.heap.size w wr) (fun _ i _ => len - (intOf i).toNat)
  case atStart => exact ⟨none, 0, 0, 0, [], by omega, by omega, rfl, rfl, Own.nil_, rfl, Below.refl _ _⟩
  case round =>
    obtain ⟨A', n, c, k, names, hk, hnk, rfl, rfl, ho, hi, hb⟩ := hrel
    have HI := Lib.hid hi
    clear hi
    by_cases hlt : k < len
    · obtain ⟨b, off, x, y, rfl, hbl, hx, hc0, hc1⟩ := (hr.below hb).at2 hlt
      have hsz := hs _ (List.mem_of_getElem? hx)
      have HD := Lib.hid (irep_drop hx (prevOf l k) names)
      have HX := Lib.hid hx
      clear hx
      simp only at hsz
      have hbs := hb.size
      go_wp2_with fail
      refine (endsWithLine_any y _ (by omega)).mono ?_
      rintro e w1 ⟨rfl, rfl⟩
      cases hE : ndl y with
      | false =>
        go_wp2_with fail
        go_ret
        refine ⟨ret_bool ?_, hb.alloc hbs _⟩
        rw [HI.out, HD.out, stp, if_pos hE]
      | true =>
        cases hxe : x.isEmpty with
        | true =>
          have hx0 := empty_of hxe
          subst hx0
          clear hxe
          cases hye : y.isEmpty with
          | true =>
            have hy0 := empty_of hye
            subst hy0
            go_wp2_with fail
            go_ret
            refine ⟨ret_bool ?_, hb.alloc hbs _⟩
            rw [HI.out, HD.out, stp, if_neg (by simp [hE]), if_pos rfl, if_pos (.inl rfl)]
          | false =>
            have hyn := ne_empty hye
            have hstp : prevOf l k = false → stp (prevOf l k) names ([], y) = if (lns y).any (fun x => (opn x).2) = true then none else some names := fun hp => by
              rw [stp, if_neg (by simp [hE]), if_pos rfl, if_neg (by simp [hyn, hp])]
            have hstp1 : prevOf l k = true → stp (prevOf l k) names ([], y) = none := fun hp => by
              rw [stp, if_neg (by simp [hE]), if_pos rfl, if_pos (.inr hp)]
            have HS := Lib.hid hstp
            have HS1 := Lib.hid hstp1
            clear hstp hstp1 hyn
            have hprev : (k = 0 ∧ prevOf l k = false) ∨ (0 < k ∧ ∃ x' : Str, (wr.alloc (.cells #[sv [], sv y] 68)).cell? ⟨b, off + (k - 1) * 2, none⟩ = some (sv x') ∧ prevOf l k = x'.isEmpty) := by
              rcases Nat.eq_zero_or_pos k with h0 | h0
              · left; exact ⟨h0, by simp [prevOf, h0]⟩
              · right
                obtain ⟨b', off', x', y', he, _, hx', hc0', _⟩ := (hr.below hb).at2 (k := k - 1) (by omega)
                injection he with he; injection he with he1 he2; subst he1 he2
                exact ⟨h0, x', (World.cell?_alloc_lt wr _ _ (by simp only; omega)).trans hc0', by simp [prevOf, hx', h0]⟩
            rcases hprev with ⟨hk0, hp⟩ | ⟨h0, x', hcp, hp⟩
            · have hk00 : ¬ (0 : Int) < (k : Int) := by omega
              have HP := Lib.hid hp
              clear hp hk0
              go_wp2_with fail
              refine (linesOf_any y _ (by omega)).mono ?_
              rintro e w2 ⟨A2, n2, c2, rfl, ho2, hb2⟩
              have hl2 := lns_len y
              have hn2 := ho2.len
              have hn2' : n2 ≤ 1048576 := by omega
              have HN2 := Lib.hid hn2
              clear hn2
              have hr2 := ho2.reads encS_len
              have ho1 := (ho.alloc (.cells #[sv [], sv y] 68)).below hb2
              have hb02 := bth (hb.alloc hbs (.cells #[sv [], sv y] 68)) hb2
              go_wp2_with fail
              go_loop [47] (fun i => ∃ j : Nat, j ≤ n2 ∧ i = .int .i64 j ∧ ((lns y).take j).any (fun x => (opn x).2) = false) (fun i => n2 - (intOf i).toNat)
              case atStart => exact ⟨0, by omega, rfl, rfl⟩
              case round =>
                obtain ⟨j, hj, rfl, hf⟩ := hrel
                have HF := Lib.hid hf
                clear hf
                by_cases hjl : j < n2
                · obtain ⟨b3, off3, z, rfl, hbl3, hz, hcz⟩ := hr2.atS hjl
                  have hzl := lns_sizes y z (List.mem_of_getElem? hz)
                  have HZ := Lib.hid hz
                  clear hz
                  go_wp2_with fail
                  refine (opened_any z _ (by omega)).mono ?_
                  rintro e w3 ⟨rfl, rfl⟩
                  cases hoz : (opn z).2 with
                  | true =>
                    go_wp2_with fail
                    go_ret
                    refine ⟨ret_bool ?_, hb02⟩
                    rw [HI.out, HD.out, HS.out HP.out, if_pos (any_bad HZ.out hoz)]
                  | false =>
                    go_wp2_with fail
                    go_round
                    case rel => exact ⟨j + 1, by omega, by go_num, any_snoc HZ.out HF.out hoz⟩
                    case measure => simp [intOf]; omega
                · obtain rfl : j = n2 := by omega
                  have hany : (lns y).any (fun x => (opn x).2) = false := by
                    have := HF.out
                    rwa [List.take_of_length_le (by rw [HN2.out]; omega)] at this
                  have HA := Lib.hid hany
                  clear hany
                  go_wp2_with fail
                  go_roundw
                  case rel => exact ⟨A', n, c, k + 1, names, by omega, by omega, by go_num, rfl, ho1, by rw [HI.out, HD.out, HS.out HP.out, if_neg (by rw [HA.out]; simp)], hb02⟩
                  case measure => simp [intOf]; omega
            · cases hpe : x'.isEmpty with
              | true =>
                rw [hpe] at hp
                have HP := Lib.hid hp
                clear hp
                have h0' : (0 : Int) < (k : Int) := by omega
                go_wp2_with fail
                go_ret
                refine ⟨ret_bool ?_, hb.alloc hbs _⟩
                rw [HI.out, HD.out, HS1.out HP.out]
              | false =>
                rw [hpe] at hp
                have HP := Lib.hid hp
                clear hp
                have h0' : (0 : Int) < (k : Int) := by omega
                go_wp2_with fail
                refine (linesOf_any y _ (by omega)).mono ?_
                rintro e w2 ⟨A2, n2, c2, rfl, ho2, hb2⟩
                have hl2 := lns_len y
                have hn2 := ho2.len
                have hn2' : n2 ≤ 1048576 := by omega
                have HN2 := Lib.hid hn2
                clear hn2
                have hr2 := ho2.reads encS_len
                have ho1 := (ho.alloc (.cells #[sv [], sv y] 68)).below hb2
                have hb02 := bth (hb.alloc hbs (.cells #[sv [], sv y] 68)) hb2
                go_wp2_with fail
                go_loop [47] (fun i => ∃ j : Nat, j ≤ n2 ∧ i = .int .i64 j ∧ ((lns y).take j).any (fun x => (opn x).2) = false) (fun i => n2 - (intOf i).toNat)
                case atStart => exact ⟨0, by omega, rfl, rfl⟩
                case round =>
                  obtain ⟨j, hj, rfl, hf⟩ := hrel
                  have HF := Lib.hid hf
                  clear hf
                  by_cases hjl : j < n2
                  · obtain ⟨b3, off3, z, rfl, hbl3, hz, hcz⟩ := hr2.atS hjl
                    have hzl := lns_sizes y z (List.mem_of_getElem? hz)
                    have HZ := Lib.hid hz
                    clear hz
                    go_wp2_with fail
                    refine (opened_any z _ (by omega)).mono ?_
                    rintro e w3 ⟨rfl, rfl⟩
                    cases hoz : (opn z).2 with
                    | true =>
                      go_wp2_with fail
                      go_ret
                      refine ⟨ret_bool ?_, hb02⟩
                      rw [HI.out, HD.out, HS.out HP.out, if_pos (any_bad HZ.out hoz)]
                    | false =>
                      go_wp2_with fail
                      go_round
                      case rel => exact ⟨j + 1, by omega, by go_num, any_snoc HZ.out HF.out hoz⟩
                      case measure => simp [intOf]; omega
                  · obtain rfl : j = n2 := by omega
                    have hany : (lns y).any (fun x => (opn x).2) = false := by
                      have := HF.out
                      rwa [List.take_of_length_le (by rw [HN2.out]; omega)] at this
                    have HA := Lib.hid hany
                    clear hany
                    go_wp2_with fail
                    go_roundw
                    case rel => exact ⟨A', n, c, k + 1, names, by omega, by omega, by go_num, rfl, ho1, by rw [HI.out, HD.out, HS.out HP.out, if_neg (by rw [HA.out]; simp)], hb02⟩
                    case measure => simp [intOf]; omega
        | false =>
          have hxn := ne_empty hxe
          have hstp : stp (prevOf l k) names (x, y) = if isNm x = false ∨ names.contains x = true ∨ (lns y).contains [64] = true then none else some (names ++ [x]) := by
            rw [stp, if_neg (by simp [hE]), if_neg hxn]
          have HS := Lib.hid hstp
          clear hstp
          go_wp2_with fail
          refine (implIsName_any x _ (by unfold maxLen; omega)).mono ?_
          rintro e w1 ⟨rfl, rfl⟩
          cases hN : isNm x with
          | false =>
            go_wp2_with fail
            go_ret
            refine ⟨ret_bool ?_, hb.alloc hbs _⟩
            rw [HI.out, HD.out, HS.out, if_pos (.inl hN)]
          | true =>
            go_wp2_with fail
            refine (hasText_any A' n c names x _ ((ho.alloc _).reads encS_len) (by unfold maxLen; omega)).mono ?_
            rintro e w1 ⟨rfl, rfl⟩
            cases hH : names.contains x with
            | true =>
              go_wp2_with fail
              go_ret
              refine ⟨ret_bool ?_, hb.alloc hbs _⟩
              rw [HI.out, HD.out, HS.out, if_pos (.inr (.inl hH))]
            | false =>
              go_wp2_with fail
              refine (linesOf_any y _ (by omega)).mono ?_
              rintro e w2 ⟨A2, n2, c2, rfl, ho2, hb2⟩
              have hl2 := lns_len y
              have hn2 := ho2.len
              have hn2' : n2 ≤ 1048576 := by omega
              clear hn2
              have ho1 := (ho.alloc (.cells #[sv x, sv y] 68)).below hb2
              have hb02 := bth (hb.alloc hbs (.cells #[sv x, sv y] 68)) hb2
              have hcx : w2.cell? ⟨wr.heap.size, 0, none⟩ = some (sv x) := (hb2.cell (p := ⟨wr.heap.size, 0, none⟩) (by simp)).trans ((Blk.new_ wr _ _).cell 0)
              go_wp2_with fail
              refine (hasText_any A2 n2 c2 (lns y) [64] _ (ho2.reads encS_len) (by unfold maxLen; omega)).mono ?_
              rintro e w3 ⟨rfl, rfl⟩
              cases hL : (lns y).contains [64] with
              | true =>
                go_wp2_with fail
                go_ret
                refine ⟨ret_bool ?_, hb02⟩
                rw [HI.out, HD.out, HS.out, if_pos (.inr (.inr hL))]
              | false =>
                have hbs2 := hb02.size
                go_wp2_with (first | (at_builtin; refine wpList_app1 encS tyStr encS_len encS_one rfl _ _ rfl w.heap.size _ n c _ rfl (ho1.alloc _) x _ 0 1 rfl (newsS _ _ _ _ ?_) ?_ ?_ ?_ ?_; (rfl); (omega); (unfold maxLen; omega); (simp; omega); intro g3 c3 w3 ho3 hg3 hb3 hat3))
                go_roundw
                case rel => exact ⟨_, n + 1, c3, k + 1, _, by omega, by omega, by go_num, rfl, ho3, by rw [HI.out, HD.out, HS.out, if_neg (by rw [hN, hH, hL]; simp)], (hb02.alloc hbs2 _).trans hb3⟩
                case measure => simp [intOf]; omega
    · obtain rfl : k = len := by omega
      go_wp2_with fail
      go_ret
      exact ⟨ret_bool (by rw [HI.out, List.drop_of_length_le (by rw [hr.len]; omega), irep, ho.len]; simp; omega), hb⟩
end Go.Proofs.Ytecebamhenlnoaa
