/- What LookEntry of the program and of the reference return, for all arguments. -/
import Derived.Test.YtecebamhenlnoaaCc
import Derived.Test.YtecebamhenlnoaaApp
namespace Go.Proofs.Ytecebamhenlnoaa
open Go.RowKit
/-- What looking gives: the output, the cache afterwards, whether it was found. -/
def lkE (l : List Pair) (key : Str) : Str × List Pair × Bool :=
  if isC l = true ∧ 0 ≤ fk l key 0 then (((l[(fk l key 0).toNat]?).getD ([], [])).2, stE l key ((l[(fk l key 0).toNat]?).getD ([], [])).2, true) else ([], l, false)
theorem fk_lt (l : List Pair) (key : Str) (i : Nat) : fk l key i < i + l.length := by
  induction l generalizing i with
  | nil => rw [fk]; simp; omega
  | cons a t ih =>
    rw [fk]; split
    · simp; omega
    · have := ih (i + 1); simp; omega
def LookPost (l : List Pair) (key : Str) (w : World) (e : Ending) (w' : World) : Prop :=
  ∃ A' n c, e = .returned (.tuple #[sv (lkE l key).1, .slice A' n c, .bool (lkE l key).2.2]) ∧ OwnEntry w' w.heap.size A' n c (lkE l key).2.1 ∧ Below w.heap.size w w'
set_option maxHeartbeats 1000000 in
theorem specLook_any (A : Option Addr) (len cap : Nat) (l : List Pair) (key : Str) (w : World) (hr : Reads enc2 2 w w.heap.size A len l) (hlen : len ≤ 1048576) :
    Calls Try.prog 26 #[.slice A len cap, sv key] w (LookPost l key w) := by
  by_cases hc : isC l = true ∧ 0 ≤ fk l key 0
  · obtain ⟨hc1, hc2⟩ := hc
    have hlt := fk_lt l key 0
    obtain ⟨m, hm⟩ : ∃ m : Nat, fk l key 0 = m := ⟨(fk l key 0).toNat, by omega⟩
    have hml : m < len := by have := hr.len; omega
    obtain ⟨b, off, x, y, rfl, hbl, hx, hk0, hk1⟩ := hr.at2 hml
    have hres : lkE l key = (y, stE l key y, true) := by
      unfold lkE; rw [if_pos ⟨hc1, hc2⟩, hm]; simp [hx]
    have HR := Lib.hid hres
    have i1 : (0 : Int) ≤ (m : Int) := by omega
    have i2 : (m : Int) < (len : Int) := by omega
    clear hres hx hlt hc2
    go_enter Try.func26, Try.ntmps26
    go_wp2_with fail
    refine (l39Find_any _ len cap l key _ hr hlen).mono ?_
    rintro e w1 ⟨rfl, rfl⟩
    rw [hm]
    clear hm
    go_wp2_with fail
    refine (specIsCache_any _ len cap l _ hr hlen).mono ?_
    rintro e w1 ⟨rfl, rfl⟩
    rw [hc1]
    clear hc1
    go_wp2_with fail
    go_region_held3 (fun w' => w'.cell? ⟨b, off + m * 2 + 1, none⟩ = some (sv y)) (first | exact hk1 | exact (hb1.cell hbl).trans hk1)
          (first | (go_at_call 21; refine (specStore_any _ len cap l key y _ ?_ hlen).mono ?_; (exact hr); rintro e w1 ⟨A1, n1, c1, rfl, ho1, hb1⟩))
    go_wp2_with fail
    go_ret3
    exact ⟨A1, n1, c1, by rw [HR.out]; rfl, by rw [HR.out]; exact ho1, bth (Below.refl _ _).drew hb1⟩
  · have hres : lkE l key = ([], l, false) := by unfold lkE; rw [if_neg hc]
    have HR := Lib.hid hres
    clear hres
    go_enter Try.func26, Try.ntmps26
    go_wp2_with fail
    refine (l39Find_any _ len cap l key _ hr hlen).mono ?_
    rintro e w1 ⟨rfl, rfl⟩
    go_wp2_with fail
    refine (specIsCache_any _ len cap l _ hr hlen).mono ?_
    rintro e w1 ⟨rfl, rfl⟩
    have hq : isC l = false ∨ isC l = true ∧ fk l key 0 < 0 := by
      cases h : isC l
      · exact .inl rfl
      · exact .inr ⟨rfl, by rw [h] at hc; simp at hc; exact hc⟩
    clear hc
    rcases hq with hq | ⟨hq, hf⟩
    all_goals
      rw [hq]
      clear hq
      go_wp2_with (first | (at_builtin; refine wpList_appAll enc2 tyEntry enc2_len enc2_one rfl _ _ rfl w.heap.size _ 0 0 [] rfl (Own.new_ (n := 0) enc2_len _ [] _ rfl rfl ?_ ?_ ?_) A len cap w.heap.size l rfl ?_ ?_ ?_ ?_ ?_; (unfold maxLen; omega); (exact Nat.le_refl _); (rfl); (exact hr.below ((Below.refl _ _).alloc (Nat.le_refl _) _)); (omega); (unfold maxLen; omega); (simp); intro A1 c1 w1 ho1 hg1 hb1))
      go_ret3
      rw [Nat.zero_add] at ho1
      exact ⟨A1, len, c1, by rw [HR.out]; rfl, by rw [HR.out]; exact ho1, ((Below.refl _ _).alloc (Nat.le_refl _) _).trans hb1⟩
set_option maxHeartbeats 1000000 in
theorem implLook_any (A : Option Addr) (len cap : Nat) (l : List Pair) (key : Str) (w : World) (hr : Reads enc2 2 w w.heap.size A len l) (hlen : len ≤ 1048576) :
    Calls Try.prog 23 #[.slice A len cap, sv key] w (LookPost l key w) := by
  by_cases hc : isC l = true ∧ 0 ≤ fk l key 0
  · obtain ⟨hc1, hc2⟩ := hc
    have hlt := fk_lt l key 0
    obtain ⟨m, hm⟩ : ∃ m : Nat, fk l key 0 = m := ⟨(fk l key 0).toNat, by omega⟩
    have hml : m < len := by have := hr.len; omega
    obtain ⟨b, off, x, y, rfl, hbl, hx, hk0, hk1⟩ := hr.at2 hml
    have hres : lkE l key = (y, stE l key y, true) := by
      unfold lkE; rw [if_pos ⟨hc1, hc2⟩, hm]; simp [hx]
    have HR := Lib.hid hres
    have i1 : (0 : Int) ≤ (m : Int) := by omega
    have i2 : (m : Int) < (len : Int) := by omega
    clear hres hx hlt hc2
    go_enter Try.func23, Try.ntmps23
    go_wp2_with fail
    refine (entryIndex_any _ len cap l key _ hr hlen).mono ?_
    rintro e w1 ⟨rfl, hb1⟩
    rw [hm]
    clear hm
    go_wp2_with fail
    refine (implIsCache_any _ len cap l _ (hr.next hb1) hlen).mono ?_
    rintro e w2 ⟨rfl, hb2⟩
    have hb02 := bth hb1 hb2
    have hr2 := (hr.next hb1).next hb2
    clear hb1 hb2
    rw [hc1]
    clear hc1
    replace hk1 := (hb02.cell hbl).trans hk1
    replace hbl : b < w2.heap.size := Nat.lt_of_lt_of_le hbl hb02.size
    go_wp2_with fail
    go_region_held3 (fun w' => w'.cell? ⟨b, off + m * 2 + 1, none⟩ = some (sv y)) (first | exact hk1 | exact (hb3.cell hbl).trans hk1)
          (first | (go_at_call 20; refine (implStore_any _ len cap l key y _ ?_ hlen).mono ?_; (exact hr2); rintro e w3 ⟨A1, n1, c1, rfl, ho1, hb3⟩))
    go_wp2_with fail
    go_ret3
    exact ⟨A1, n1, c1, by rw [HR.out]; rfl, by rw [HR.out]; exact ho1.mono hb02.size, bth hb02.drew hb3⟩
  · have hres : lkE l key = ([], l, false) := by unfold lkE; rw [if_neg hc]
    have HR := Lib.hid hres
    clear hres
    go_enter Try.func23, Try.ntmps23
    go_wp2_with fail
    refine (entryIndex_any _ len cap l key _ hr hlen).mono ?_
    rintro e w1 ⟨rfl, hb1⟩
    go_wp2_with fail
    refine (implIsCache_any _ len cap l _ (hr.next hb1) hlen).mono ?_
    rintro e w2 ⟨rfl, hb2⟩
    have hb02 := bth hb1 hb2
    have hr2 := (hr.next hb1).next hb2
    clear hb1 hb2
    have hq : isC l = false ∨ isC l = true ∧ fk l key 0 < 0 := by
      cases h : isC l
      · exact .inl rfl
      · exact .inr ⟨rfl, by rw [h] at hc; simp at hc; exact hc⟩
    clear hc
    rcases hq with hq | ⟨hq, hf⟩
    all_goals
      rw [hq]
      clear hq
      go_wp2_with (first | (at_builtin; refine wpList_appAll enc2 tyEntry enc2_len enc2_one rfl _ _ rfl w.heap.size _ 0 0 [] rfl (Own.new_ (n := 0) enc2_len _ [] _ rfl rfl ?_ ?_ ?_) A len cap w2.heap.size l rfl ?_ ?_ ?_ ?_ ?_; (unfold maxLen; omega); (exact hb02.size); (rfl); (exact hr2.below ((Below.refl _ _).alloc (Nat.le_refl _) _)); (omega); (unfold maxLen; omega); (have := hb02.size; simp; omega); intro A1 c1 w1 ho1 hg1 hb1))
      go_ret3
      rw [Nat.zero_add] at ho1
      exact ⟨A1, len, c1, by rw [HR.out]; rfl, by rw [HR.out]; exact ho1, (hb02.alloc hb02.size _).trans hb1⟩
end Go.Proofs.Ytecebamhenlnoaa
