/- Operations on a heap: what IsHeapOp of the program and of the reference return. -/
import Derived.Test.YtekcpadlmfaihaaVf
import Derived.Test.YtekcpadlmfaihaaVg
import Derived.Test.YtekcpadlmfaihaaDtHeapOp
namespace Go.Proofs.Ytekcpadlmfaihaa
open Go.RowKit
theorem l4Is_any (d : Nat) (hd100 : (d : Int) ≤ 100) : isP d := by
  induction d with
  | zero => exact l4Is_of 0 hd100 (fun d' h => by omega)
  | succ d ih =>
    refine l4Is_of (d + 1) hd100 (fun d' h => ?_)
    have hdd : d' = d := by omega
    rw [hdd]
    exact ih (by omega)
set_option maxHeartbeats 2000000 in
theorem specIsVector_any (v : Vec) (cs : List Value) (w : World) (h : rep w w.heap.size v.toD cs) (hbig : bigV v) :
    Calls Try.prog 28 #[av cs] w fun e w' => e = .returned (.bool (isVec v)) ∧ Below w.heap.size w w' := by
  have hcb := hbig.cells
  obtain ⟨Ai, ni, ci, Ap, np, cp, An, nn, cn, Ac, nc, cc, Al, nl, cl, rfl, hv⟩ := vec_open h
  have q0 := (Below.refl w.heap.size w).alloc (Nat.le_refl _) (.cells (vc v Ai ni ci Ap np cp An nn cn Ac nc cc Al nl cl).toArray 34)
  go_enter Try.func28, Try.ntmps28
  go_wp2_with fail
  refine (l4Is_any 3 (by omega) v _ _ (rep_next h q0) hbig).mono ?_
  rintro e w1 ⟨rfl, hb1⟩
  have q1 := bth q0 hb1
  obtain ⟨hc1, _⟩ := bcell hb1
  simp only [wsize_alloc] at hc1
  cases hp : okD 3 v with
  | false =>
    go_wp2_with fail
    go_ret
    exact ⟨ret_bool (by rw [isVec, hp]; rfl), q1⟩
  | true =>
  go_wp2_with fail
  refine (l4Cells_any v _ _ (rep_next (rep_next h q0) hb1) hbig).mono ?_
  rintro e w2 ⟨rfl, hb2⟩
  have HR := Lib.hid (show isVec v = decide (cellsV v ≤ 200) by rw [isVec, hp]; rfl)
  go_wp2_with fail
  go_ret
  exact ⟨ret_bool (by rw [HR.out, decide_eq_decide]; omega), bth q1 hb2⟩
def hopK (x : Hop) : Bool :=
  if x.kind = 0 then x.frm.isEmpty && decide (x.at_ = 0)
  else if x.kind = 2 then x.frm.isEmpty && decide (1 ≤ x.at_ ∧ x.at_ ≤ 40) && atomK x.value.kind && decide (x.value.items.length = 1)
  else if x.kind = 1 ∨ x.kind = 3 then isNm x.frm && decide (x.at_ = 0 ∧ x.value.kind = 0) else false
def isHop (x : Hop) : Bool := isNm x.name && isVec x.value && !hasF x.value && hopK x
set_option maxRecDepth 100000 in
set_option maxHeartbeats 4000000 in
theorem implIsHeapOp_any (x : Hop) (cs : List Value) (w : World) (h : rep w w.heap.size x.toD cs) (hbig : bigV x.value) :
    Calls Try.prog 10 #[av cs] w fun e w' => e = .returned (.bool (isHop x)) ∧ Below w.heap.size w w' := by
  obtain ⟨Ai, ni, ci, Ap, np, cp, An, nn, cn, Ac, nc, cc, Al, nl, cl, rfl, wk, wn, wf, wa, hrv⟩ := HeapOp_open h
  obtain ⟨Ai', ni', ci', Ap', np', cp', An', nn', cn', Ac', nc', cc', Al', nl', cl', hcs, hv⟩ := vec_open hrv
  injection hcs with _ hcs; injection hcs with e1 hcs; injection hcs with e2 hcs; injection hcs with e3 hcs; injection hcs with e4 hcs; injection hcs with e5 hcs
  injection e1 with e11 e12 e13; subst e11 e12 e13
  have HL1 := Lib.hid hv.it.len
  have hkb := Blk.new_ w 36 #[.int .i64 x.kind, sv x.name, sv x.frm, .int .i64 x.at_, .int .i64 x.value.kind, .slice Ai ni ci, .slice Ap np cp, .slice An nn cn, .slice Ac nc cc, .slice Al nl cl, .int .i64 x.value.code, .int .i64 x.value.env]
  have q0 := (Below.refl w.heap.size w).alloc (Nat.le_refl _) (.cells #[.int .i64 x.kind, sv x.name, sv x.frm, .int .i64 x.at_, .int .i64 x.value.kind, .slice Ai ni ci, .slice Ap np cp, .slice An nn cn, .slice Ac nc cc, .slice Al nl cl, .int .i64 x.value.code, .int .i64 x.value.env] 36)
  have HI := Lib.hid (show isHop x = (isNm x.name && isVec x.value && !hasF x.value && hopK x) from rfl)
  clear e2 e3 e4 e5 hcs
  go_enter Try.func10, Try.ntmps10
  go_wp2_with fail
  refine (implIsName_any x.name _ wn).mono ?_
  rintro e w1 ⟨rfl, rfl⟩
  cases hn : isNm x.name with
  | false =>
    go_wp2_with fail
    go_ret
    exact ⟨ret_bool (by rw [HI.out, hn]; rfl), q0⟩
  | true =>
  go_wp2_with fail
  refine (implIsVector_any x.value _ _ (rep_next hrv q0) hbig).mono ?_
  rintro e w2 ⟨rfl, hb2⟩
  have q2 := bth q0 hb2
  have kb2 := hkb.next hb2
  obtain ⟨hc2, _⟩ := bcell hb2
  simp only [wsize_alloc] at hc2
  cases hvv : isVec x.value with
  | false =>
    go_wp2_with fail
    go_ret
    exact ⟨ret_bool (by rw [HI.out, hn, hvv]; rfl), q2⟩
  | true =>
  go_wp2_with fail
  refine (hasFunction_any x.value _ _ (rep_next (rep_next hrv q0) hb2)).mono ?_
  rintro e w3 ⟨rfl, hb3⟩
  have q3 := bth q2 hb3
  have kb3 := kb2.next hb3
  have c0 := kb3.cell 0
  have c2 := kb3.cell 2
  have c3 := kb3.cell 3
  have c4 := kb3.cell 4
  have c5 := kb3.cell 5
  have c6 := kb3.cell 6
  have c7 := kb3.cell 7
  have c8 := kb3.cell 8
  have c9 := kb3.cell 9
  have c10 := kb3.cell 10
  have c11 := kb3.cell 11
  simp only [List.getElem?_cons_zero, List.getElem?_cons_succ] at c0 c2 c3 c4 c5 c6 c7 c8 c9 c10 c11
  clear hc2
  cases hff : hasF x.value with
  | true =>
    go_wp2_with fail
    go_ret
    exact ⟨ret_bool (by rw [HI.out, hn, hvv, hff]; rfl), q3⟩
  | false =>
  have HR := Lib.hid (show isHop x = hopK x by rw [HI.out, hn, hvv, hff]; rfl)
  by_cases k0 : x.kind = 0
  · have t0 : (x.kind == 0) = true := by simpa using k0
    have HK := Lib.hid (show isHop x = (x.frm.isEmpty && decide (x.at_ = 0)) by rw [HR.out, hopK, if_pos k0])
    clear k0
    cases hfe : x.frm.isEmpty with
    | false =>
      go_wp2_with fail
      go_ret
      exact ⟨ret_bool (by rw [HK.out, hfe]; rfl), q3⟩
    | true =>
      go_wp2_with fail
      go_ret
      exact ⟨ret_bool (by rw [HK.out, hfe, Bool.true_and, Bool.eq_iff_iff]; simp), q3⟩
  have t0 : (x.kind == 0) = false := by simpa using k0
  by_cases k2 : x.kind = 2
  · have t2 : (x.kind == 2) = true := by simpa using k2
    have HK := Lib.hid (show isHop x = (x.frm.isEmpty && decide (1 ≤ x.at_ ∧ x.at_ ≤ 40) && atomK x.value.kind && decide (ni = 1)) by rw [HR.out, hopK, if_neg k0, if_pos k2, HL1.out])
    clear k0 k2
    cases hfe : x.frm.isEmpty with
    | false =>
      go_wp2_with fail
      go_ret
      exact ⟨ret_bool (by rw [HK.out, hfe]; rfl), q3⟩
    | true =>
    by_cases ha : 1 ≤ x.at_ ∧ x.at_ ≤ 40
    case neg =>
      have HB := Lib.hid (show isHop x = false by rw [HK.out, decide_eq_false ha]; simp)
      have HA := Lib.hid ha
      clear ha
      go_wp2_with fail
      all_goals first | (go_ret; exact ⟨ret_bool HB.out.symm, q3⟩) | (exfalso; apply HA.out; omega)
    have a1 : decide (1 ≤ x.at_) = true := decide_eq_true ha.1
    have a2 : decide (x.at_ ≤ 40) = true := decide_eq_true ha.2
    have HK2 := Lib.hid (show isHop x = (atomK x.value.kind && decide (ni = 1)) by rw [HK.out, hfe, decide_eq_true ha]; rfl)
    go_wp2_with fail
    refine (isAtomic_any x.value _ _ (rep_in hrv q3 q3.size)).mono ?_
    rintro e w4 ⟨rfl, hb4⟩
    have c45 := (kb3.next hb4).cell 5
    simp only [List.getElem?_cons_zero, List.getElem?_cons_succ] at c45
    cases hat : atomK x.value.kind with
    | false =>
      go_wp2_with fail
      go_ret
      exact ⟨ret_bool (by rw [HK2.out, hat]; rfl), bth q3 hb4⟩
    | true =>
      go_wp2_with fail
      go_ret
      exact ⟨ret_bool (by rw [HK2.out, hat, Bool.true_and, Bool.eq_iff_iff]; simp; omega), bth q3 hb4⟩
  have t2 : (x.kind == 2) = false := by simpa using k2
  by_cases k13 : x.kind = 1 ∨ x.kind = 3
  · have HK := Lib.hid (show isHop x = (isNm x.frm && decide (x.at_ = 0 ∧ x.value.kind = 0)) by rw [HR.out, hopK, if_neg k0, if_neg k2, if_pos k13])
    clear k0 k2
    rcases k13 with k1 | k1
    case' inl => have t1 : (x.kind == 1) = true := by simpa using k1
    case' inr =>
      have t1 : (x.kind == 1) = false := by simp; omega
      have t3 : (x.kind == 3) = true := by simpa using k1
    all_goals
      clear k1
      go_wp2_with fail
      refine (implIsName_any x.frm _ wf).mono ?_
      rintro e w4 ⟨rfl, rfl⟩
      cases hnf : isNm x.frm
      case false =>
        go_wp2_with fail
        go_ret
        exact ⟨ret_bool (by rw [HK.out, hnf]; rfl), q3⟩
      go_wp2_with fail
      all_goals (go_ret; refine ⟨ret_bool ?_, q3⟩; rw [HK.out, hnf, Bool.true_and, Bool.eq_iff_iff]; simp [*])
  · have t1 : (x.kind == 1) = false := by simp; omega
    have t3 : (x.kind == 3) = false := by simp; omega
    have HK := Lib.hid (show isHop x = false by rw [HR.out, hopK, if_neg k0, if_neg k2, if_neg k13])
    clear k0 k2 k13
    go_wp2_with fail
    go_ret
    exact ⟨ret_bool HK.out.symm, q3⟩
set_option maxRecDepth 100000 in
set_option maxHeartbeats 4000000 in
theorem specIsHeapOp_any (x : Hop) (cs : List Value) (w : World) (h : rep w w.heap.size x.toD cs) (hbig : bigV x.value) :
    Calls Try.prog 8 #[av cs] w fun e w' => e = .returned (.bool (isHop x)) ∧ Below w.heap.size w w' := by
  obtain ⟨Ai, ni, ci, Ap, np, cp, An, nn, cn, Ac, nc, cc, Al, nl, cl, rfl, wk, wn, wf, wa, hrv⟩ := HeapOp_open h
  obtain ⟨Ai', ni', ci', Ap', np', cp', An', nn', cn', Ac', nc', cc', Al', nl', cl', hcs, hv⟩ := vec_open hrv
  injection hcs with _ hcs; injection hcs with e1 hcs; injection hcs with e2 hcs; injection hcs with e3 hcs; injection hcs with e4 hcs; injection hcs with e5 hcs
  injection e1 with e11 e12 e13; subst e11 e12 e13
  have HL1 := Lib.hid hv.it.len
  have hkb := Blk.new_ w 36 #[.int .i64 x.kind, sv x.name, sv x.frm, .int .i64 x.at_, .int .i64 x.value.kind, .slice Ai ni ci, .slice Ap np cp, .slice An nn cn, .slice Ac nc cc, .slice Al nl cl, .int .i64 x.value.code, .int .i64 x.value.env]
  have q0 := (Below.refl w.heap.size w).alloc (Nat.le_refl _) (.cells #[.int .i64 x.kind, sv x.name, sv x.frm, .int .i64 x.at_, .int .i64 x.value.kind, .slice Ai ni ci, .slice Ap np cp, .slice An nn cn, .slice Ac nc cc, .slice Al nl cl, .int .i64 x.value.code, .int .i64 x.value.env] 36)
  have HI := Lib.hid (show isHop x = (isNm x.name && isVec x.value && !hasF x.value && hopK x) from rfl)
  clear e2 e3 e4 e5 hcs
  go_enter Try.func8, Try.ntmps8
  go_wp2_with fail
  refine (l1In_any _ _ _ _).mono ?_
  rintro e w1 ⟨rfl, rfl⟩
  cases hk : decide (0 ≤ x.kind ∧ x.kind ≤ 3) with
  | false =>
    have HB := Lib.hid (show isHop x = false by
      have := of_decide_eq_false hk
      rw [HI.out, hopK, if_neg (by omega), if_neg (by omega), if_neg (by omega)]; simp)
    go_wp2_with fail
    go_ret
    exact ⟨ret_bool HB.out.symm, q0⟩
  | true =>
  have hk' := of_decide_eq_true hk
  clear hk
  go_wp2_with fail
  refine (specIsName_any x.name _ wn).mono ?_
  rintro e w1 ⟨rfl, rfl⟩
  cases hn : isNm x.name with
  | false =>
    go_wp2_with fail
    go_ret
    exact ⟨ret_bool (by rw [HI.out, hn]; rfl), q0⟩
  | true =>
  go_wp2_with fail
  refine (specIsVector_any x.value _ _ (rep_next hrv q0) hbig).mono ?_
  rintro e w2 ⟨rfl, hb2⟩
  have q2 := bth q0 hb2
  have kb2 := hkb.next hb2
  obtain ⟨hc2, _⟩ := bcell hb2
  simp only [wsize_alloc] at hc2
  cases hvv : isVec x.value with
  | false =>
    go_wp2_with fail
    go_ret
    exact ⟨ret_bool (by rw [HI.out, hn, hvv]; rfl), q2⟩
  | true =>
  go_wp2_with fail
  refine (l30HasFunction_any x.value _ _ (rep_next (rep_next hrv q0) hb2)).mono ?_
  rintro e w3 ⟨rfl, hb3⟩
  have q3 := bth q2 hb3
  have kb3 := kb2.next hb3
  have c0 := kb3.cell 0
  have c2 := kb3.cell 2
  have c3 := kb3.cell 3
  have c4 := kb3.cell 4
  have c5 := kb3.cell 5
  simp only [List.getElem?_cons_zero, List.getElem?_cons_succ] at c0 c2 c3 c4 c5
  clear hc2
  cases hff : hasF x.value with
  | true =>
    go_wp2_with fail
    go_ret
    exact ⟨ret_bool (by rw [HI.out, hn, hvv, hff]; rfl), q3⟩
  | false =>
  have HR := Lib.hid (show isHop x = hopK x by rw [HI.out, hn, hvv, hff]; rfl)
  by_cases k0 : x.kind = 0
  · have t0 : (x.kind == 0) = true := by simpa using k0
    have HK := Lib.hid (show isHop x = (x.frm.isEmpty && decide (x.at_ = 0)) by rw [HR.out, hopK, if_pos k0])
    clear k0
    cases hfe : x.frm.isEmpty with
    | false =>
      go_wp2_with fail
      go_ret
      exact ⟨ret_bool (by rw [HK.out, hfe]; rfl), q3⟩
    | true =>
      go_wp2_with fail
      go_ret
      exact ⟨ret_bool (by rw [HK.out, hfe, Bool.true_and, Bool.eq_iff_iff]; simp), q3⟩
  have t0 : (x.kind == 0) = false := by simpa using k0
  by_cases k2 : x.kind = 2
  · have t2 : (x.kind == 2) = true := by simpa using k2
    have HK := Lib.hid (show isHop x = (x.frm.isEmpty && decide (1 ≤ x.at_ ∧ x.at_ ≤ 40) && atomK x.value.kind && decide (ni = 1)) by rw [HR.out, hopK, if_neg k0, if_pos k2, HL1.out])
    clear k0 k2
    cases hfe : x.frm.isEmpty with
    | false =>
      go_wp2_with fail
      go_ret
      exact ⟨ret_bool (by rw [HK.out, hfe]; rfl), q3⟩
    | true =>
    go_wp2_with fail
    refine (l1In_any _ _ _ _).mono ?_
    rintro e w4 ⟨rfl, rfl⟩
    cases ha : decide (1 ≤ x.at_ ∧ x.at_ ≤ 40) with
    | false =>
      go_wp2_with fail
      go_ret
      exact ⟨ret_bool (by rw [HK.out, ha]; simp), q3⟩
    | true =>
    go_wp2_with fail
    refine (l1In_any _ _ _ _).mono ?_
    rintro e w4 ⟨rfl, rfl⟩
    cases hat : decide (1 ≤ x.value.kind ∧ x.value.kind ≤ 3) with
    | false =>
      go_wp2_with fail
      go_ret
      exact ⟨ret_bool (by rw [HK.out, atomK, hat]; simp), q3⟩
    | true =>
      go_wp2_with fail
      go_ret
      exact ⟨ret_bool (by rw [HK.out, atomK, hat, ha, hfe, Bool.true_and, Bool.true_and, Bool.true_and, Bool.eq_iff_iff]; simp; omega), q3⟩
  have t2 : (x.kind == 2) = false := by simpa using k2
  have HK := Lib.hid (show isHop x = (isNm x.frm && decide (x.at_ = 0 ∧ x.value.kind = 0)) by rw [HR.out, hopK, if_neg k0, if_neg k2, if_pos (by omega)])
  clear k0 k2
  go_wp2_with fail
  refine (specIsName_any x.frm _ wf).mono ?_
  rintro e w4 ⟨rfl, rfl⟩
  cases hnf : isNm x.frm with
  | false =>
    go_wp2_with fail
    go_ret
    exact ⟨ret_bool (by rw [HK.out, hnf]; rfl), q3⟩
  | true =>
  go_wp2_with fail
  all_goals (go_ret; refine ⟨ret_bool ?_, q3⟩; rw [HK.out, hnf, Bool.true_and, Bool.eq_iff_iff]; simp [*])
end Go.Proofs.Ytekcpadlmfaihaa
