/- What IsReport of the reference returns. -/
import Derived.Test.YtecebamhenlnoaaRd
namespace Go.Proofs.Ytecebamhenlnoaa
open Go.RowKit
theorem stp_prose (prev : Bool) (names : List Str) (y : Str) : stp prev names ([], y) = if y = [] ∨ prev = true then none else if txtOK y false = true then some names else none := by
  unfold stp txtOK
  simp only [Bool.false_eq_true, if_false]
  by_cases h1 : y = [] ∨ prev = true
  · simp [h1]
  · cases h2 : ndl y <;> cases h3 : (lns y).any (fun x => (opn x).2) <;> simp [h1]
theorem stp_chunk (prev : Bool) (names : List Str) (x y : Str) (hx : ¬ x = []) : stp prev names (x, y) = if txtOK y true = false then none else if isNm x = false then none else if names.contains x = true then none else some (names ++ [x]) := by
  unfold stp txtOK
  simp only [if_true]
  rw [if_neg hx]
  cases h2 : ndl y <;> cases h3 : (lns y).contains [64] <;> cases h4 : isNm x <;> cases h5 : names.contains x <;> simp
set_option maxHeartbeats 4000000 in
theorem specIsReport_any (A : Option Addr) (len cap : Nat) (l : List Pair) (w : World) (hr : Reads enc2 2 w w.heap.size A len l) (hlen : len ≤ 1048576) (hs : ∀ e ∈ l, e.1.length ≤ 1048576 ∧ e.2.length ≤ 1048576) :
    Calls Try.prog 28 #[.slice A len cap] w fun e w' => e = .returned (.bool (repOK l)) ∧ Below w.heap.size w w' := by
  go_enter Try.func28, Try.ntmps28
  go_wp2_with fail
  go_loopw [3, 4] (fun v i wr => ∃ (A' : Option Addr) (n c k : Nat) (names : List Str), k ≤ len ∧ k ≤ 14 ∧ n ≤ k ∧ i = .int .i64 k ∧ v = .slice A' n c ∧ OwnStr wr w.heap.size A' n c names ∧ (len ≤ 13 → irep false [] l = irep (prevOf l k) names (l.drop k)) ∧ Below w.heap.size w wr) (fun _ i _ => len - (intOf i).toNat)
  case atStart => exact ⟨_, 0, 0, 0, [], by omega, by omega, by omega, rfl, rfl, Own.new_ (n := 0) encS_len w [] _ rfl rfl (by unfold maxLen; omega) (Nat.le_refl _) rfl, fun _ => rfl, (Below.refl _ _).alloc (Nat.le_refl _) _⟩
  case round =>
    obtain ⟨A', n, c, k, names, hk, hk14, hnk, rfl, rfl, ho, hi, hb⟩ := hrel
    have HI := Lib.hid hi
    clear hi
    have hbs := hb.size
    have hrep : (len ≤ 13 → irep false [] l = false) → repOK l = false := fun h => by
      rw [repOK, hr.len]
      by_cases h13 : len ≤ 13
      · rw [h h13]; simp
      · simp; omega
    have HRp := Lib.hid hrep
    clear hrep
    by_cases hlt : k < len
    · by_cases h14 : (k : Int) ≤ 13
      · obtain ⟨b, off, x, y, rfl, hbl, hx, hc0, hc1⟩ := (hr.below hb).at2 hlt
        have hsz := hs _ (List.mem_of_getElem? hx)
        have HD := Lib.hid (irep_drop hx (prevOf l k) names)
        clear hx
        simp only at hsz
        cases hxe : x.isEmpty with
        | true =>
          have hx0 := empty_of hxe
          subst hx0
          clear hxe
          have HS := Lib.hid (stp_prose (prevOf l k) names y)
          cases hye : y.isEmpty with
          | true =>
            have hy0 := empty_of hye
            subst hy0
            go_wp2_with fail
            go_ret
            refine ⟨ret_bool (HRp.out fun h13 => ?_).symm, hb.alloc hbs _⟩
            rw [HI.out h13, HD.out, HS.out, if_pos (by simp)]
          | false =>
            have hyn := ne_empty hye
            have hprev : (k = 0 ∧ prevOf l k = false) ∨ (0 < k ∧ ∃ x' : Str, (wr.alloc (.cells #[sv [], sv y] 68)).cell? ⟨b, off + (k - 1) * 2, none⟩ = some (sv x') ∧ prevOf l k = x'.isEmpty) := by
              rcases Nat.eq_zero_or_pos k with h0 | h0
              · left; exact ⟨h0, by simp [prevOf, h0]⟩
              · right
                obtain ⟨b', off', x', y', he, _, hx', hc0', _⟩ := (hr.below hb).at2 (k := k - 1) (by omega)
                injection he with he; injection he with he1 he2; subst he1 he2
                exact ⟨h0, x', (World.cell?_alloc_lt wr _ _ (by simp only; omega)).trans hc0', by simp [prevOf, hx', h0]⟩
            have hwalk : (k = 0 ∧ prevOf l k = false) ∨ (0 < k ∧ ∃ x' : Str, (wr.alloc (.cells #[sv [], sv y] 68)).cell? ⟨b, off + (k - 1) * 2, none⟩ = some (sv x') ∧ x'.isEmpty = false ∧ prevOf l k = false) ∨ (0 < k ∧ ∃ x' : Str, (wr.alloc (.cells #[sv [], sv y] 68)).cell? ⟨b, off + (k - 1) * 2, none⟩ = some (sv x') ∧ x'.isEmpty = true ∧ prevOf l k = true) := by
              rcases hprev with h | ⟨h0, x', h1, h2⟩
              · exact .inl h
              · cases h3 : x'.isEmpty with
                | false => exact .inr (.inl ⟨h0, x', h1, h3, h2.trans h3⟩)
                | true => exact .inr (.inr ⟨h0, x', h1, h3, h2.trans h3⟩)
            clear hprev
            rcases hwalk with ⟨hk0, hp⟩ | ⟨h0, x', hcp, hpe, hp⟩ | ⟨h0, x', hcp, hpe, hp⟩
            · have hk00 : ¬ (0 : Int) < (k : Int) := by omega
              have HP := Lib.hid hp
              clear hp hk0
              go_wp2_with fail
              refine (l37Text_any y false _ (by omega)).mono ?_
              rintro e w2 ⟨rfl, hb2⟩
              have ho1 := (ho.alloc (.cells #[sv [], sv y] 68)).below hb2
              have hb02 := bth (hb.alloc hbs (.cells #[sv [], sv y] 68)) hb2
              have hcx : w2.cell? ⟨wr.heap.size, 0, none⟩ = some (sv []) := (hb2.cell (p := ⟨wr.heap.size, 0, none⟩) (by simp)).trans ((Blk.new_ wr _ _).cell 0)
              cases hT : txtOK y false with
              | false =>
                go_wp2_with fail
                go_ret
                refine ⟨ret_bool (HRp.out fun h13 => ?_).symm, hb02⟩
                rw [HI.out h13, HD.out, HS.out, if_neg (by simp [hyn, HP.out]), if_neg (by rw [hT]; simp)]
              | true =>
                go_wp2_with fail
                go_roundw
                case rel => exact ⟨A', n, c, k + 1, names, by omega, by omega, by omega, by go_num, rfl, ho1, fun h13 => by rw [HI.out h13, HD.out, HS.out, if_neg (by simp [hyn, HP.out]), if_pos hT], hb02⟩
                case measure => simp [intOf]; omega
            · have h0' : (0 : Int) < (k : Int) := by omega
              have HP := Lib.hid hp
              clear hp
              go_wp2_with fail
              refine (l37Text_any y false _ (by omega)).mono ?_
              rintro e w2 ⟨rfl, hb2⟩
              have ho1 := (ho.alloc (.cells #[sv [], sv y] 68)).below hb2
              have hb02 := bth (hb.alloc hbs (.cells #[sv [], sv y] 68)) hb2
              have hcx : w2.cell? ⟨wr.heap.size, 0, none⟩ = some (sv []) := (hb2.cell (p := ⟨wr.heap.size, 0, none⟩) (by simp)).trans ((Blk.new_ wr _ _).cell 0)
              cases hT : txtOK y false with
              | false =>
                go_wp2_with fail
                go_ret
                refine ⟨ret_bool (HRp.out fun h13 => ?_).symm, hb02⟩
                rw [HI.out h13, HD.out, HS.out, if_neg (by simp [hyn, HP.out]), if_neg (by rw [hT]; simp)]
              | true =>
                go_wp2_with fail
                go_roundw
                case rel => exact ⟨A', n, c, k + 1, names, by omega, by omega, by omega, by go_num, rfl, ho1, fun h13 => by rw [HI.out h13, HD.out, HS.out, if_neg (by simp [hyn, HP.out]), if_pos hT], hb02⟩
                case measure => simp [intOf]; omega
            · have h0' : (0 : Int) < (k : Int) := by omega
              have HP := Lib.hid hp
              clear hp
              go_wp2_with fail
              go_ret
              refine ⟨ret_bool (HRp.out fun h13 => ?_).symm, hb.alloc hbs _⟩
              rw [HI.out h13, HD.out, HS.out, if_pos (.inr HP.out)]
        | false =>
          have hxn := ne_empty hxe
          have HS := Lib.hid (stp_chunk (prevOf l k) names x y hxn)
          go_wp2_with fail
          refine (l37Text_any y true _ (by omega)).mono ?_
          rintro e w2 ⟨rfl, hb2⟩
          have ho1 := (ho.alloc (.cells #[sv x, sv y] 68)).below hb2
          have hb02 := bth (hb.alloc hbs (.cells #[sv x, sv y] 68)) hb2
          have hcx : w2.cell? ⟨wr.heap.size, 0, none⟩ = some (sv x) := (hb2.cell (p := ⟨wr.heap.size, 0, none⟩) (by simp)).trans ((Blk.new_ wr _ _).cell 0)
          cases hT : txtOK y true with
          | false =>
            go_wp2_with fail
            go_ret
            refine ⟨ret_bool (HRp.out fun h13 => ?_).symm, hb02⟩
            rw [HI.out h13, HD.out, HS.out, if_pos hT]
          | true =>
            go_wp2_with fail
            refine (specIsName_any x _ (by unfold maxLen; omega)).mono ?_
            rintro e w3 ⟨rfl, rfl⟩
            cases hN : isNm x with
            | false =>
              go_wp2_with fail
              go_ret
              refine ⟨ret_bool (HRp.out fun h13 => ?_).symm, hb02⟩
              rw [HI.out h13, HD.out, HS.out, if_neg (by rw [hT]; simp), if_pos hN]
            | true =>
              go_wp2_with fail
              refine (l1Has_any A' n c names x _ (ho1.reads encS_len) (by unfold maxLen; omega)).mono ?_
              rintro e w3 ⟨rfl, rfl⟩
              cases hH : names.contains x with
              | true =>
                go_wp2_with fail
                go_ret
                refine ⟨ret_bool (HRp.out fun h13 => ?_).symm, hb02⟩
                rw [HI.out h13, HD.out, HS.out, if_neg (by rw [hT]; simp), if_neg (by rw [hN]; simp), if_pos hH]
              | false =>
                have hbs2 := hb02.size
                go_wp2_with (first | (at_builtin; refine wpList_app1 encS tyStr encS_len encS_one rfl _ _ rfl w.heap.size _ n c _ rfl (ho1.alloc _) x _ 0 1 rfl (newsS _ _ _ _ ?_) ?_ ?_ ?_ ?_; (rfl); (omega); (unfold maxLen; omega); (simp; omega); intro g3 c3 w3 ho3 hg3 hb3 hat3))
                go_roundw
                case rel => exact ⟨_, n + 1, c3, k + 1, _, by omega, by omega, by omega, by go_num, rfl, ho3, fun h13 => by rw [HI.out h13, HD.out, HS.out, if_neg (by rw [hT]; simp), if_neg (by rw [hN]; simp), if_neg (by rw [hH]; simp)], (hb02.alloc hbs2 _).trans hb3⟩
                case measure => simp [intOf]; omega
      · go_wp2_with fail
        all_goals go_ret
        all_goals exact ⟨ret_bool (by rw [show repOK l = false from by rw [repOK, hr.len, decide_eq_false (by omega), Bool.false_and]] <;> first | rfl | (simp; omega)), hb⟩
    · obtain rfl : k = len := by omega
      have hend : repOK l = (decide ((n : Int) ≤ 6) && decide ((k : Int) ≤ 13)) := by
        rw [repOK, hr.len]
        by_cases h13 : k ≤ 13
        · rw [HI.out h13, List.drop_of_length_le (by rw [hr.len]; omega), irep, ho.len, Bool.eq_iff_iff]; simp; omega
        · rw [Bool.eq_iff_iff]; simp; omega
      have HE := Lib.hid hend
      clear hend
      by_cases h6 : (n : Int) ≤ 6
      · go_wp2_with fail
        go_ret
        exact ⟨ret_bool (by rw [HE.out]; simp; omega), hb⟩
      · go_wp2_with fail
        go_ret
        exact ⟨ret_bool (by rw [HE.out]; simp; omega), hb⟩
end Go.Proofs.Ytecebamhenlnoaa
