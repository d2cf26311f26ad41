/- Parts of the validity of vectors: what length, labelsValid, itemValid and their kin return. -/
import Derived.Test.YtekcpadlmfaihaaNu
import Derived.Test.YtekcpadlmfaihaaDtVector
namespace Go.Proofs.Ytekcpadlmfaihaa
open Go.RowKit
abbrev av (cs : List Value) : Value := .agg cs.toArray
def lenV (v : Vec) : Nat := if v.kind = 5 then 1 else v.items.length + v.parts.length
theorem lenV_le (v : Vec) : lenV v ≤ v.items.length + v.parts.length + 1 := by unfold lenV; split <;> omega
set_option maxHeartbeats 1000000 in
theorem length_any (v : Vec) (cs : List Value) (w : World) (h : rep w w.heap.size v.toD cs) (hl : v.items.length + v.parts.length ≤ 9223372036854775807) :
    Calls Try.prog 100 #[av cs] w fun e w' => e = .returned (.int .i64 (lenV v)) ∧ Below w.heap.size w w' := by
  obtain ⟨Ai, ni, ci, Ap, np, cp, An, nn, cn, Ac, nc, cc, Al, nl, cl, rfl, hv⟩ := vec_open h
  rw [hv.it.len, hv.pab.2.2] at hl
  have HI := Lib.hid hv.it.len
  have HP := Lib.hid hv.pab.2.2
  by_cases hk : v.kind = 5
  · have hd : (v.kind == 5) = true := by simpa using hk
    have HK := Lib.hid hk
    clear hk
    go_enter Try.func100, Try.ntmps100
    go_wp2_with fail
    go_ret
    exact ⟨ret_int (by rw [lenV, if_pos HK.out]; rfl), (Below.refl _ _).alloc (Nat.le_refl _) _⟩
  · have hd : (v.kind == 5) = false := by simpa using hk
    go_enter Try.func100, Try.ntmps100
    go_wp2_with fail
    go_ret
    exact ⟨ret_int (by rw [lenV, if_neg hk, HI.out, HP.out]; omega), (Below.refl _ _).alloc (Nat.le_refl _) _⟩
set_option maxHeartbeats 1000000 in
theorem l4Len_any (v : Vec) (cs : List Value) (w : World) (h : rep w w.heap.size v.toD cs) (hl : v.items.length + v.parts.length ≤ 9223372036854775807) :
    Calls Try.prog 94 #[av cs] w fun e w' => e = .returned (.int .i64 (lenV v)) ∧ Below w.heap.size w w' := by
  obtain ⟨Ai, ni, ci, Ap, np, cp, An, nn, cn, Ac, nc, cc, Al, nl, cl, rfl, hv⟩ := vec_open h
  rw [hv.it.len, hv.pab.2.2] at hl
  have HI := Lib.hid hv.it.len
  have HP := Lib.hid hv.pab.2.2
  by_cases hk : v.kind = 5
  · have hd : (v.kind == 5) = true := by simpa using hk
    have HK := Lib.hid hk
    clear hk
    go_enter Try.func94, Try.ntmps94
    go_wp2_with fail
    go_ret
    exact ⟨ret_int (by rw [lenV, if_pos HK.out]; rfl), (Below.refl _ _).alloc (Nat.le_refl _) _⟩
  · have hd : (v.kind == 5) = false := by simpa using hk
    go_enter Try.func94, Try.ntmps94
    go_wp2_with fail
    go_ret
    exact ⟨ret_int (by rw [lenV, if_neg hk, HI.out, HP.out]; omega), (Below.refl _ _).alloc (Nat.le_refl _) _⟩
def atomK (k : Int) : Bool := decide (1 ≤ k ∧ k ≤ 3)
theorem isAtomic_any (v : Vec) (cs : List Value) (w : World) (h : rep w w.heap.size v.toD cs) :
    Calls Try.prog 34 #[av cs] w fun e w' => e = .returned (.bool (atomK v.kind)) ∧ Below w.heap.size w w' := by
  obtain ⟨Ai, ni, ci, Ap, np, cp, An, nn, cn, Ac, nc, cc, Al, nl, cl, rfl, hv⟩ := vec_open h
  go_enter Try.func34, Try.ntmps34
  go_wp2_with fail
  all_goals (go_ret; refine ⟨ret_bool ?_, (Below.refl _ _).alloc (Nat.le_refl _) _⟩)
  all_goals (rw [atomK, eq_comm, Bool.eq_iff_iff]; simp_all <;> omega)
def itemOK (kind : Int) (x : Item) : Bool :=
  isMiss x || (if kind = 1 then x.text.isEmpty && (x.den == 1) && (x.num == 0 || x.num == 1) else if kind = 2 then isNum x else if kind = 3 then (x.num == 0) && (x.den == 1) && decide (x.text.length ≤ 60) else false)
set_option maxHeartbeats 2000000 in
theorem itemValid_any (kind : Int) (x : Item) (w : World) (hx : itOK x) : Calls Try.prog 119 #[.int .i64 kind, itv x] w fun e w' => e = .returned (.bool (itemOK kind x)) ∧ Below w.heap.size w w' := by
  have hl : x.text.length ≤ 9223372036854775807 := hx.2.2
  have q0 := (Below.refl w.heap.size w).alloc (Nat.le_refl _) (.cells #[.int .i64 x.num, .int .i64 x.den, sv x.text] 101)
  go_enter Try.func119, Try.ntmps119
  go_wp2_with fail
  refine (isMissing_any x _).mono ?_
  rintro e w1 ⟨rfl, hb1⟩
  obtain ⟨hc1, _⟩ := bcell hb1
  simp only [wsize_alloc] at hc1
  have q1 := bth q0 hb1
  cases hm : isMiss x with
  | true =>
    go_wp2_with fail
    go_ret
    exact ⟨ret_bool (by rw [itemOK, hm]; rfl), q1⟩
  | false =>
    by_cases k1 : kind = 1
    · subst k1
      go_wp2_with fail
      all_goals (go_ret; refine ⟨ret_bool ?_, q1⟩)
      all_goals (rw [itemOK, hm, eq_comm, Bool.false_or]; simp [*])
    by_cases k2 : kind = 2
    · subst k2
      go_wp2_with (first | (go_at_call 131; ((with_reducible refine (implIsNumber_any x _).mono ?_); rintro e w2 ⟨rfl, hb2⟩)))
      go_ret
      exact ⟨ret_bool (by rw [itemOK, hm]; rfl), bth q1 hb2⟩
    by_cases k3 : kind = 3
    · subst k3
      go_wp2_with fail
      all_goals (go_ret; refine ⟨ret_bool ?_, q1⟩)
      all_goals (rw [itemOK, hm, eq_comm, Bool.false_or, Bool.eq_iff_iff]; simp [*] <;> omega)
    have e1 : (kind == 1) = false := by simpa using k1
    have e2 : (kind == 2) = false := by simpa using k2
    have e3 : (kind == 3) = false := by simpa using k3
    have HR := Lib.hid (show itemOK kind x = false by rw [itemOK, hm, if_neg k1, if_neg k2, if_neg k3]; rfl)
    clear k1 k2 k3
    go_wp2_with fail
    go_ret
    exact ⟨ret_bool HR.out.symm, q1⟩
set_option maxHeartbeats 2000000 in
theorem l4Item_any (kind : Int) (x : Item) (w : World) (hx : itOK x) : Calls Try.prog 97 #[.int .i64 kind, itv x] w fun e w' => e = .returned (.bool (itemOK kind x)) ∧ Below w.heap.size w w' := by
  have hl : x.text.length ≤ 9223372036854775807 := hx.2.2
  have q0 := (Below.refl w.heap.size w).alloc (Nat.le_refl _) (.cells #[.int .i64 x.num, .int .i64 x.den, sv x.text] 101)
  cases hm : isMiss x with
  | true =>
    obtain rfl : x = ⟨0, 0, []⟩ := by simpa [isMiss] using hm
    clear hm
    go_enter Try.func97, Try.ntmps97
    go_wp2_with fail
    go_ret
    exact ⟨rfl, q0⟩
  | false =>
    have hne : ¬ x = ⟨0, 0, []⟩ := by intro h; rw [h] at hm; cases hm
    have h3 : ¬ (x.num = 0 ∧ x.den = 0 ∧ x.text = []) := by rintro ⟨a, b, c⟩; apply hne; cases x; simp_all
    have H3 := Lib.hid h3
    clear hne h3
    by_cases k1 : kind = 1
    · subst k1
      go_enter Try.func97, Try.ntmps97
      go_wp2_with (first | (go_at_call 26; ((with_reducible refine (l1In_any _ _ _ _).mono ?_); rintro e w1 ⟨rfl, rfl⟩)))
      all_goals first | (exfalso; apply H3.out; exact ⟨by assumption, by assumption, by assumption⟩) | (go_ret; refine ⟨ret_bool ?_, (Below.refl _ _).alloc (Nat.le_refl _) _⟩)
      all_goals (rw [itemOK, hm, eq_comm, Bool.false_or, Bool.eq_iff_iff]; simp [*] <;> omega)
    by_cases k2 : kind = 2
    · subst k2
      go_enter Try.func97, Try.ntmps97
      go_wp2_with (first | (go_at_call 116; ((with_reducible refine (specIsNumber_any ⟨_, _, _⟩ _).mono ?_); rintro e w2 ⟨rfl, hb2⟩)))
      all_goals first | (exfalso; apply H3.out; exact ⟨by assumption, by assumption, by assumption⟩) | (go_ret; refine ⟨ret_bool ?_, by first | exact bth ((Below.refl _ _).alloc (Nat.le_refl _) _) hb2 | exact (Below.refl _ _).alloc (Nat.le_refl _) _⟩)
      all_goals (rw [itemOK, hm]; cases x; simp_all)
    by_cases k3 : kind = 3
    · subst k3
      go_enter Try.func97, Try.ntmps97
      go_wp2_with fail
      all_goals first | (exfalso; apply H3.out; exact ⟨by assumption, by assumption, by assumption⟩) | (go_ret; refine ⟨ret_bool ?_, (Below.refl _ _).alloc (Nat.le_refl _) _⟩)
      all_goals (rw [itemOK, hm, eq_comm, Bool.false_or, Bool.eq_iff_iff]; simp [*] <;> omega)
    have e1 : (kind == 1) = false := by simpa using k1
    have e2 : (kind == 2) = false := by simpa using k2
    have e3 : (kind == 3) = false := by simpa using k3
    have HR := Lib.hid (show itemOK kind x = false by rw [itemOK, hm, if_neg k1, if_neg k2, if_neg k3]; rfl)
    clear k1 k2 k3
    go_enter Try.func97, Try.ntmps97
    go_wp2_with fail
    all_goals first | (exfalso; apply H3.out; exact ⟨by assumption, by assumption, by assumption⟩) | (go_ret; exact ⟨ret_bool HR.out.symm, (Below.refl _ _).alloc (Nat.le_refl _) _⟩)
end Go.Proofs.Ytekcpadlmfaihaa
