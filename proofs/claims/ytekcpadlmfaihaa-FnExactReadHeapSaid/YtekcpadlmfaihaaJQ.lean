/- Valid vectors: what partsValid and IsVector of the program return; that both ways of looking at the depth agree. Valid vectors: what l4Is and IsVector of the reference return. -/
import Derived.Test.YtekcpadlmfaihaaJP
import Derived.Test.YtekcpadlmfaihaaJF
set_option linter.unusedSimpArgs false
set_option linter.unusedVariables false
namespace Go.Proofs.Ytekcpadlmfaihaa
open Go.RowKit
set_option maxRecDepth 100000 in
set_option maxHeartbeats 2000000 in
theorem partsValid_any : ∀ (v : Vec) (cs : List Value) (w : World), rep w w.heap.size v.toD cs → bigV v →
    Calls Try.prog 77 #[av cs] w fun e w' => e = .returned (.bool (partsOK v)) ∧ Below w.heap.size w w' := Vector_ind fun v ih => by
  intro cs w h hbig
  have HHF := Lib.hid (partsOK_eq v)
  obtain ⟨Ai, ni, ci, Ap, np, cp, An, nn, cn, Ac, nc, cc, Al, nl, cl, rfl, hv⟩ := vec_open h
  have q0 := (Below.refl w.heap.size w).alloc (Nat.le_refl _) (.cells (vc v Ai ni ci Ap np cp An nn cn Ac nc cc Al nl cl).toArray 34)
  have hkb := Blk.new_ w 34 (vc v Ai ni ci Ap np cp An nn cn Ac nc cc Al nl cl).toArray
  have hpl := hv.pab
  unfold maxLen at hpl
  have HPL := Lib.hid hpl.2.2
  have hpb : np ≤ 9223372036854775807 := by omega
  have HIH := Lib.hid ih
  clear ih hpl
  go_enter Try.func77, Try.ntmps77
  go_wp2_with fail
  refine (shapeValid_any v _ _ (rep_next h q0) hbig).mono ?_
  rintro e w1 ⟨rfl, hb1⟩
  have q1 := bth q0 hb1
  have c2 : w1.cell? ⟨w.heap.size, 2, none⟩ = some (.slice Ap np cp) := (hkb.next hb1).cell 2
  cases hsh : shapeOK v with
  | false =>
    go_wp2_with fail
    go_ret
    exact ⟨ret_bool (by rw [HHF.out, hsh]; rfl), q1⟩
  | true =>
  go_wp2_with fail
  go_loopw [11] (fun i wr => ∃ k : Nat, k ≤ np ∧ i = .int .i64 k ∧ (v.parts.take k).all partsOK = true ∧ Below w.heap.size w wr) (fun i _ => np - (intOf i).toNat)
  case atStart => exact ⟨0, by omega, rfl, rfl, q1⟩
  case round =>
    obtain ⟨k, hk, rfl, hf, hb⟩ := hrel
    have HF := Lib.hid hf
    clear hf
    by_cases hlt : k < np
    · obtain ⟨b, off, x, Ai', ni', ci', Ap', np', cp', An', nn', cn', Ac', nc', cc', Al', nl', cl', rfl, hbl, hx, hrx, hvx, c0, c1, c2, c3, c4, c5, c6, c7⟩ := parts_at (rep_below hv.pa hb) hlt
      have HX := Lib.hid hx
      have HM := Lib.hid (List.mem_of_getElem? hx)
      clear hx
      have q2 := hb.alloc hb.size (.cells (vc x Ai' ni' ci' Ap' np' cp' An' nn' cn' Ac' nc' cc' Al' nl' cl').toArray 34)
      go_wp2_with fail
      refine (HIH.out x HM.out _ _ (rep_in hrx (Below.alloc (Below.refl _ _) hb.size _) (by simp only [wsize_alloc]; have := hb.size; omega)) (hbig.part HM.out)).mono ?_
      rintro e w2 ⟨rfl, hb2⟩
      cases hq : partsOK x with
      | false =>
        go_wp2_with fail
        go_ret
        exact ⟨ret_bool (by rw [HHF.out, all_bad HX.out hq]; simp), bth q2 hb2⟩
      | true =>
        go_wp2_with fail
        go_roundw
        case rel => exact ⟨k + 1, by omega, by go_num, all_snoc HX.out HF.out hq, bth q2 hb2⟩
        case measure => simp [intOf]; omega
    · obtain rfl : k = np := by omega
      go_wp2_with fail
      go_ret
      exact ⟨ret_bool (by have := HF.out; rw [List.take_of_length_le (by rw [HPL.out]; omega)] at this; rw [HHF.out, this, hsh]; rfl), hb⟩
set_option maxHeartbeats 2000000 in
theorem implIsVector_any (v : Vec) (cs : List Value) (w : World) (h : rep w w.heap.size v.toD cs) (hbig : bigV v) :
    Calls Try.prog 32 #[av cs] w fun e w' => e = .returned (.bool (isVec v)) ∧ Below w.heap.size w w' := by
  have hcb := hbig.cells
  obtain ⟨Ai, ni, ci, Ap, np, cp, An, nn, cn, Ac, nc, cc, Al, nl, cl, rfl, hv⟩ := vec_open h
  have q0 := (Below.refl w.heap.size w).alloc (Nat.le_refl _) (.cells (vc v Ai ni ci Ap np cp An nn cn Ac nc cc Al nl cl).toArray 34)
  have hkb := Blk.new_ w 34 (vc v Ai ni ci Ap np cp An nn cn Ac nc cc Al nl cl).toArray
  have HI := Lib.hid (show isVec v = (decide (nestV 4 v ≤ 3) && partsOK v && decide (cellsV v ≤ 200)) by rw [isVec, okD_eq])
  go_enter Try.func32, Try.ntmps32
  go_wp2_with fail
  refine (nest_any 4 (by omega) v _ _ (rep_next h q0)).mono ?_
  rintro e w1 ⟨rfl, hb1⟩
  have q1 := bth q0 hb1
  obtain ⟨hc1, _⟩ := bcell hb1
  simp only [wsize_alloc] at hc1
  by_cases hn : nestV 4 v ≤ 3
  case neg =>
    have hd : decide ((nestV 4 v : Int) ≤ 3) = false := decide_eq_false (by omega)
    have HB := Lib.hid (show isVec v = false by rw [HI.out, decide_eq_false hn]; rfl)
    clear hn
    go_wp2_with fail
    go_ret
    exact ⟨ret_bool HB.out.symm, q1⟩
  have hd : decide ((nestV 4 v : Int) ≤ 3) = true := decide_eq_true (by omega)
  have HI2 := Lib.hid (show isVec v = (partsOK v && decide (cellsV v ≤ 200)) by rw [HI.out, decide_eq_true hn]; rfl)
  clear hn
  go_wp2_with fail
  refine (partsValid_any v _ _ (rep_next (rep_next h q0) hb1) hbig).mono ?_
  rintro e w2 ⟨rfl, hb2⟩
  have q2 := bth q1 hb2
  obtain ⟨hc2, _⟩ := bcell hb2
  have y1 : w.heap.size < w1.heap.size := by have := hb1.size; simp only [wsize_alloc] at this; omega
  cases hp : partsOK v with
  | false =>
    go_wp2_with fail
    go_ret
    exact ⟨ret_bool (by rw [HI2.out, hp]; rfl), q2⟩
  | true =>
  go_wp2_with fail
  refine (cells_any v _ _ (rep_next (rep_next (rep_next h q0) hb1) hb2) hbig).mono ?_
  rintro e w3 ⟨rfl, hb3⟩
  have HR := Lib.hid (show isVec v = decide (cellsV v ≤ 200) by rw [HI2.out, hp]; rfl)
  go_wp2_with fail
  go_ret
  exact ⟨ret_bool (by rw [HR.out, decide_eq_decide]; omega), bth q2 hb3⟩
end Go.Proofs.Ytekcpadlmfaihaa
namespace Go.Proofs.Ytekcpadlmfaihaa
open Go.RowKit
theorem items_bad {v : Vec} (h : 0 < v.items.length) (hk : atomK v.kind = false) : v.items.all (shI v) = false := all_bad (List.getElem?_eq_getElem h) (by rw [shI, hk]; rfl)
theorem okL_yes {d : Nat} {v : Vec} (h : ∀ y ∈ v.parts, ∃ d', d = d' + 1 ∧ okD d' y = true) : okL d v = true := by
  cases d with
  | zero =>
    cases hp : v.parts with
    | nil => simp [okL, hp]
    | cons a t => obtain ⟨d', h1, _⟩ := h a (by rw [hp]; exact List.mem_cons_self); omega
  | succ d =>
    refine List.all_eq_true.2 fun y hy => ?_
    obtain ⟨d', h1, h2⟩ := h y hy
    obtain rfl : d = d' := by omega
    exact h2
theorem okL_no {d : Nat} {v y : Vec} (hy : y ∈ v.parts) (h : d = 0 ∨ ∃ d', d = d' + 1 ∧ okD d' y = false) : okL d v = false := by
  cases d with
  | zero =>
    cases hp : v.parts with
    | nil => rw [hp] at hy; simp at hy
    | cons a t => simp [okL, hp]
  | succ d =>
    rcases h with h | ⟨d', h1, h2⟩
    · omega
    · obtain rfl : d = d' := by omega
      exact List.all_eq_false.2 ⟨y, hy, by rw [h2]; simp⟩
def isP (d : Nat) : Prop := ∀ (v : Vec) (cs : List Value) (w : World), rep w w.heap.size v.toD cs → bigV v →
    Calls Try.prog 72 #[av cs, .int .i64 d] w fun e w' => e = .returned (.bool (okD d v)) ∧ Below w.heap.size w w'
set_option maxRecDepth 100000 in
set_option maxHeartbeats 8000000 in
theorem l4Is_of (d : Nat) (hd100 : (d : Int) ≤ 100) (ih : ∀ d', d = d' + 1 → isP d') : isP d := by
  intro v cs w h hbig
  have hblen := hbig.len
  have hlv := lenV_le v
  have hlv5 : v.kind ≠ 5 → lenV v = v.items.length + v.parts.length := fun h => by rw [lenV, if_neg h]
  obtain ⟨Ai, ni, ci, Ap, np, cp, An, nn, cn, Ac, nc, cc, Al, nl, cl, rfl, hv⟩ := vec_open h
  have q0 := (Below.refl w.heap.size w).alloc (Nat.le_refl _) (.cells (vc v Ai ni ci Ap np cp An nn cn Ac nc cc Al nl cl).toArray 34)
  have hkb := Blk.new_ w 34 (vc v Ai ni ci Ap np cp An nn cn Ac nc cc Al nl cl).toArray
  have hC : shC v = decide (shP v.kind v.code v.env ni np nn nc nl) := by rw [shC, hv.it.len, hv.pab.2.2, hv.na.len, hv.ca.len, hv.la.len]
  have hN : shN v = ((decide (nn = 0) || decide (nn = lenV v)) && named v.names) := by rw [shN_eq, hv.na.len]
  have HC := Lib.hid hC
  have HN := Lib.hid hN
  have HNo := Lib.hid (@okNo d v)
  have HSp := Lib.hid (okD_split d v)
  have b1 := hv.itb
  have b2 := hv.pab
  have b3 := hv.nab
  have b4 := hv.cab
  have b5 := hv.lab
  unfold maxLen at b1 b2 b3 b4 b5
  have HL1 := Lib.hid hv.it.len
  have HL2 := Lib.hid b2.2.2
  have HL5 := Lib.hid hv.la.len
  have hbl2 := hblen
  rw [hv.it.len, b2.2.2] at hlv5 hblen
  have HLv := Lib.hid hlv5
  have HIH := Lib.hid ih
  have b2' : np ≤ 9223372036854775807 := by omega
  clear hC hN b2 hlv5 ih
  obtain ⟨p2, hp2⟩ : ∃ p : Bool, p = !(shA v && shN v) := ⟨_, rfl⟩
  have HP2 := Lib.hid hp2
  clear hp2
  go_enter Try.func72, Try.ntmps72
  go_wp2_with fail
  refine (l4Len_any v _ _ (rep_next h q0) (by omega)).mono ?_
  rintro e w1 ⟨rfl, hb1⟩
  have q1 := bth q0 hb1
  have kb1 := hkb.next hb1
  have c10 : w1.cell? ⟨w.heap.size, 0, none⟩ = some (.int .i64 v.kind) := kb1.cell 0
  have c13 : w1.cell? ⟨w.heap.size, 3, none⟩ = some (.slice An nn cn) := kb1.cell 3
  go_upto_region 2 with fail
  go_cut [49] (fun c wx => c = .bool p2 ∧ Blk wx w.heap.size 34 (vc v Ai ni ci Ap np cp An nn cn Ac nc cc Al nl cl) ∧ Below w.heap.size w wx)
  case first => as_aux_lemma =>
    have noA : decide (0 ≤ v.kind ∧ v.kind ≤ 5) = false → true = p2 := fun h => by rw [HP2.out, shA, decide_eq_false (by have := of_decide_eq_false h; omega)]; rfl
    have NoA := Lib.hid noA
    clear noA
    go_wp2_with fail
    refine (l1In_any _ _ _ _).mono ?_
    rintro e w2 ⟨rfl, rfl⟩
    cases hk : decide (0 ≤ v.kind ∧ v.kind ≤ 5) with
    | false =>
      go_wp2_with fail
      go_meet
      exact ⟨congrArg Value.bool (NoA.out hk), kb1, q1⟩
    | true =>
    by_cases h40 : lenV v ≤ 40
    case neg =>
      have d40 : decide ((40 : Int) < (lenV v : Int)) = true := decide_eq_true (by omega)
      have HB := Lib.hid (show true = p2 by rw [HP2.out, shA, decide_eq_false (by omega)]; rfl)
      clear h40
      go_wp2_with fail
      go_meet
      exact ⟨congrArg Value.bool HB.out, kb1, q1⟩
    have d40 : decide ((40 : Int) < (lenV v : Int)) = false := decide_eq_false (by omega)
    have HA := Lib.hid (show shA v = (labV v.cls 3 && labV v.levels 20) by rw [shA, decide_eq_true (by have := of_decide_eq_true hk; omega)]; rfl)
    clear hk
    by_cases n0 : nn = 0
    case' pos =>
      have m0 : ((nn : Int) != 0) = false := by simp; omega
      have HPn := Lib.hid (show (decide (nn = 0) || decide (nn = lenV v)) = true by rw [decide_eq_true n0]; rfl)
      clear n0
    case' neg =>
      have m0 : ((nn : Int) != 0) = true := by simp; omega
      by_cases hnl : nn = lenV v
      case neg =>
        have m1 : ((nn : Int) != (lenV v : Int)) = true := by simp; omega
        have HB := Lib.hid (show true = p2 by rw [HP2.out, HN.out, decide_eq_false n0, decide_eq_false hnl]; simp)
        clear hnl n0
        go_wp2_with fail
        go_meet
        exact ⟨congrArg Value.bool HB.out, kb1, q1⟩
      have m1 : ((nn : Int) != (lenV v : Int)) = false := by simp; omega
      have HPn := Lib.hid (show (decide (nn = 0) || decide (nn = lenV v)) = true by rw [decide_eq_true hnl]; simp)
      clear hnl n0
    all_goals
      have HN2 := Lib.hid (show shN v = named v.names by rw [HN.out, HPn.out]; rfl)
      go_wp2_with fail
      refine (l4Named_any An nn cn v.names _ ((hv.na.below q1).more q1.size) hv.nao (by unfold maxLen; omega)).mono ?_
      rintro e w2 ⟨rfl, hb2⟩
      have q2 := bth q1 hb2
      have kb2 := kb1.next hb2
      have c24 : w2.cell? ⟨w.heap.size, 4, none⟩ = some (.slice Ac nc cc) := kb2.cell 4
      cases hnm : named v.names
      case false =>
        go_wp2_with fail
        go_meet
        exact ⟨congrArg Value.bool (by rw [HP2.out, HN2.out, hnm]; simp), kb2, q2⟩
      go_wp2_with fail
      refine (l4Labels_any Ac nc cc v.cls 3 _ ((hv.ca.below q2).more q2.size) hv.cao b4.1 (by unfold maxLen; omega) (by omega)).mono ?_
      rintro e w3 ⟨rfl, hb3⟩
      have q3 := bth q2 hb3
      have kb3 := kb2.next hb3
      have c35 : w3.cell? ⟨w.heap.size, 5, none⟩ = some (.slice Al nl cl) := kb3.cell 5
      cases l1 : labV v.cls 3
      case false =>
        go_wp2_with fail
        go_meet
        exact ⟨congrArg Value.bool (by rw [HP2.out, HA.out, l1]; rfl), kb3, q3⟩
      go_wp2_with fail
      refine (l4Labels_any Al nl cl v.levels 20 _ ((hv.la.below q3).more q3.size) hv.lao b5.1 (by unfold maxLen; omega) (by omega)).mono ?_
      rintro e w4 ⟨rfl, hb4⟩
      go_wp2_with fail
      go_meet
      exact ⟨congrArg Value.bool (by rw [HP2.out, HA.out, l1, HN2.out, hnm]; cases labV v.levels 20 <;> rfl), kb3.next hb4, bth q3 hb4⟩
  case rest => as_aux_lemma =>
    clear q1 kb1 c10 c13 hb1
    obtain ⟨rfl, kbW, qW⟩ := hcut
    obtain ⟨W, hW⟩ : ∃ W : World, W = wc := ⟨_, rfl⟩
    subst hW
    cases p2
    case true =>
      have HB := Lib.hid (show okD d v = false by
        have h2 := HP2.out
        cases ha : shA v with
        | false => exact HNo.out (.inl ha)
        | true =>
          cases hb : shN v with
          | false => exact HNo.out (.inr (.inl hb))
          | true => rw [ha, hb] at h2; cases h2)
      go_wp2_with fail
      go_ret
      exact ⟨ret_bool HB.out.symm, qW⟩
    have HAN := Lib.hid (show okD d v = (shC v && v.items.all (shI v) && okL d v) by
      have h2 := HP2.out
      rw [HSp.out]
      cases ha : shA v <;> cases hb : shN v <;> rw [ha, hb] at h2 <;> first | (exfalso; simp at h2; done) | simp)
    have hkr : 0 ≤ v.kind ∧ v.kind ≤ 5 := by
      have h2 := HP2.out
      cases ha : shA v with
      | false => rw [ha] at h2; cases h2
      | true =>
        rw [shA, Bool.and_eq_true, Bool.and_eq_true] at ha
        have := of_decide_eq_true ha.1.1
        omega
    have e0 := kbW.cell 0
    have e1 := kbW.cell 1
    have e2 := kbW.cell 2
    have e3 := kbW.cell 3
    have e4 := kbW.cell 4
    have e5 := kbW.cell 5
    have e6 := kbW.cell 6
    have e7 := kbW.cell 7
    simp only [List.getElem?_cons_zero, List.getElem?_cons_succ] at e0 e1 e2 e3 e4 e5 e6 e7
    obtain ⟨p4, hp4⟩ : ∃ p : Bool, p = decide (v.kind ≠ 5 ∧ (v.code ≠ 0 ∨ v.env ≠ 0) ∨ v.kind ≠ 2 ∧ 0 < nl ∨ v.kind ≠ 4 ∧ 0 < np) := ⟨_, rfl⟩
    have HP4 := Lib.hid hp4
    clear hp4
    go_upto_region 4 with fail
    go_cut [84] (fun c wx => c = .bool p4 ∧ W = wx)
    case first => as_aux_lemma =>
      rcases Nat.eq_zero_or_pos nl with aznl | aznl
      all_goals rcases Nat.eq_zero_or_pos np with aznp | aznp
      all_goals first | (have dznl : decide ((0 : Int) < (nl : Int)) = false := decide_eq_false (by omega); have eznl : decide (0 < nl) = false := decide_eq_false (by omega)) | (have dznl : decide ((0 : Int) < (nl : Int)) = true := decide_eq_true (by omega); have eznl : decide (0 < nl) = true := decide_eq_true (by omega))
      all_goals first | (have dznp : decide ((0 : Int) < (np : Int)) = false := decide_eq_false (by omega); have eznp : decide (0 < np) = false := decide_eq_false (by omega)) | (have dznp : decide ((0 : Int) < (np : Int)) = true := decide_eq_true (by omega); have eznp : decide (0 < np) = true := decide_eq_true (by omega))
      all_goals have AZnl := Lib.hid aznl
      all_goals have AZnp := Lib.hid aznp
      all_goals clear aznl aznp
      all_goals go_wp2_with fail
      all_goals (go_meet; exact ⟨congrArg Value.bool (by have := AZnl.out; have := AZnp.out; rw [HP4.out]; (first | exact (decide_eq_true (by omega)).symm | exact (decide_eq_false (by omega)).symm | (rw [Bool.eq_iff_iff]; simp; omega) | (rw [Bool.eq_iff_iff]; simp))), rfl⟩)
    case rest => as_aux_lemma =>
    obtain ⟨rfl, rfl⟩ := hcut
    cases p4
    case true =>
      have hP4 := of_decide_eq_true HP4.out.symm
      have HB := Lib.hid (HNo.out (.inr (.inr (.inl (by rw [HC.out]; exact decide_eq_false (by unfold shP; omega))))))
      clear hP4
      go_wp2_with fail
      go_ret
      exact ⟨ret_bool HB.out.symm, qW⟩
    have hP4 := of_decide_eq_false HP4.out.symm
    have HQ4 := Lib.hid hP4
    by_cases k5 : v.kind = 5
    · have t5 : (v.kind == 5) = true := by simpa using k5
      have hnp : np = 0 := by omega
      obtain ⟨p7, hp7⟩ : ∃ p : Bool, p = decide (ni = 0 ∧ nn = 0 ∧ (-999 ≤ v.code ∧ v.code ≤ 99999) ∧ (0 ≤ v.env ∧ v.env ≤ 99999)) := ⟨_, rfl⟩
      have HR := Lib.hid (show okD d v = p7 by
        rw [HAN.out, hp7]
        by_cases hi : ni = 0
        · have hi2 : v.items = [] := List.length_eq_zero_iff.1 (by rw [HL1.out]; exact hi)
          have hp2 : v.parts = [] := List.length_eq_zero_iff.1 (by rw [HL2.out]; exact hnp)
          have hol : okL d v = true := by unfold okL; rw [hp2]; cases d <;> rfl
          rw [hol, hi2, HC.out, List.all_nil, Bool.and_true, Bool.and_true, decide_eq_decide]
          unfold shP
          omega
        · rw [HC.out, decide_eq_false (show ¬ shP v.kind v.code v.env ni np nn nc nl by unfold shP; omega), decide_eq_false (by omega)]; rfl)
      have HP7 := Lib.hid hp7
      clear k5 hnp hp7 hP4
      go_upto_region 7 with fail
      go_cut [4] (fun c wx => c = .bool p7 ∧ W = wx)
      case first => as_aux_lemma =>
        rcases Nat.eq_zero_or_pos ni with a1 | a1
        case' inl =>
          have f1 : ((ni : Int) == 0) = true := by simp; omega
        case' inr =>
          have f1 : ((ni : Int) == 0) = false := by simp; omega
        all_goals
          have A1 := Lib.hid a1
          clear a1
          rcases Nat.eq_zero_or_pos nn with a2 | a2
          case' inl =>
            have f2 : ((nn : Int) == 0) = true := by simp; omega
          case' inr =>
            have f2 : ((nn : Int) == 0) = false := by simp; omega
          all_goals
            have A2 := Lib.hid a2
            clear a2
            go_wp2_with (first | (go_at_call 26; ((with_reducible refine (l1In_any _ _ _ _).mono ?_); rintro e w1 ⟨rfl, rfl⟩)))
            all_goals (go_meet; exact ⟨congrArg Value.bool (by have := A1.out; have := A2.out; rw [HP7.out]; (first | exact (decide_eq_true (by omega)).symm | exact (decide_eq_false (by omega)).symm | (rw [Bool.eq_iff_iff]; simp; omega) | (rw [Bool.eq_iff_iff]; simp))), rfl⟩)
      case rest => as_aux_lemma =>
        obtain ⟨rfl, rfl⟩ := hcut
        go_wp2_with fail
        go_ret
        exact ⟨ret_bool HR.out.symm, qW⟩
    have t5 : (v.kind == 5) = false := by simpa using k5
    by_cases k0 : v.kind = 0
    · have t0 : (v.kind == 0) = true := by simpa using k0
      have hnp : np = 0 := by omega
      have hl0 : lenV v = ni := by rw [HLv.out k5]; omega
      obtain ⟨p9, hp9⟩ : ∃ p : Bool, p = decide (ni = 0 ∧ nc = 0) := ⟨_, rfl⟩
      have HR := Lib.hid (show okD d v = p9 by
        rw [HAN.out, hp9]
        by_cases hi : ni = 0
        · have hi2 : v.items = [] := List.length_eq_zero_iff.1 (by rw [HL1.out]; exact hi)
          have hp2 : v.parts = [] := List.length_eq_zero_iff.1 (by rw [HL2.out]; exact hnp)
          have hol : okL d v = true := by unfold okL; rw [hp2]; cases d <;> rfl
          rw [hol, hi2, HC.out, List.all_nil, Bool.and_true, Bool.and_true, decide_eq_decide]
          unfold shP
          omega
        · rw [HC.out, decide_eq_false (show ¬ shP v.kind v.code v.env ni np nn nc nl by unfold shP; omega), decide_eq_false (by omega)]; rfl)
      have HP9 := Lib.hid hp9
      have HL0 := Lib.hid hl0
      clear k5 k0 hnp hp9 hP4 hl0
      go_upto_region 9 with fail
      go_cut [4] (fun c wx => c = .bool p9 ∧ W = wx)
      case first => as_aux_lemma =>
        by_cases a1 : lenV v = 0
        case' pos =>
          have f1 : ((lenV v : Int) == 0) = true := by simp; omega
        case' neg =>
          have f1 : ((lenV v : Int) == 0) = false := by simp; omega
        all_goals
          have A1 := Lib.hid a1
          clear a1
          go_wp2_with fail
          all_goals (go_meet; exact ⟨congrArg Value.bool (by have := A1.out; have := HL0.out; rw [HP9.out]; (first | exact (decide_eq_true (by omega)).symm | exact (decide_eq_false (by omega)).symm | (rw [Bool.eq_iff_iff]; simp; omega) | (rw [Bool.eq_iff_iff]; simp))), rfl⟩)
      case rest => as_aux_lemma =>
        obtain ⟨rfl, rfl⟩ := hcut
        go_wp2_with fail
        go_ret
        exact ⟨ret_bool HR.out.symm, qW⟩
    have t0 : (v.kind == 0) = false := by simpa using k0
    have HK0 := Lib.hid k0
    have HK5 := Lib.hid k5
    clear k0 k5 hP4
    obtain ⟨p10, hp10⟩ : ∃ p : Bool, p = decide (v.kind = 4 ∧ 0 < ni) := ⟨_, rfl⟩
    have HP10 := Lib.hid hp10
    clear hp10
    go_upto_region 10 with fail
    go_cut [127] (fun c wx => c = .bool p10 ∧ W = wx)
    case first => as_aux_lemma =>
      rcases Nat.eq_zero_or_pos ni with azni | azni
      all_goals first | (have dzni : decide ((0 : Int) < (ni : Int)) = false := decide_eq_false (by omega); have ezni : decide (0 < ni) = false := decide_eq_false (by omega)) | (have dzni : decide ((0 : Int) < (ni : Int)) = true := decide_eq_true (by omega); have ezni : decide (0 < ni) = true := decide_eq_true (by omega))
      all_goals have AZni := Lib.hid azni
      all_goals clear azni
      all_goals go_wp2_with fail
      all_goals (go_meet; exact ⟨congrArg Value.bool (by have := AZni.out; rw [HP10.out]; (first | exact (decide_eq_true (by omega)).symm | exact (decide_eq_false (by omega)).symm | (rw [Bool.eq_iff_iff]; simp; omega) | (rw [Bool.eq_iff_iff]; simp))), rfl⟩)
    case rest => as_aux_lemma =>
    obtain ⟨rfl, rfl⟩ := hcut
    cases p10
    case true =>
      have hP10 := of_decide_eq_true HP10.out.symm
      have HB := Lib.hid (HNo.out (.inr (.inr (.inr (.inl (items_bad (by rw [HL1.out]; omega) (decide_eq_false (by omega))))))))
      clear hP10
      go_wp2_with fail
      go_ret
      exact ⟨ret_bool HB.out.symm, qW⟩
    have hP10 := of_decide_eq_false HP10.out.symm
    have HQ10 := Lib.hid hP10
    have HCt := Lib.hid (show shC v = true by rw [HC.out]; exact decide_eq_true (by have := HQ4.out; have := HK0.out; have := HK5.out; unfold shP; omega))
    have hat : 0 < ni → atomK v.kind = true := fun h => decide_eq_true (by have := HK0.out; have := HK5.out; omega)
    have HAT := Lib.hid hat
    clear hP10 hat
    go_wp2_with fail
    go_loopw [6] (fun i wr => ∃ k : Nat, k ≤ ni ∧ i = .int .i64 k ∧ (v.items.take k).all (shI v) = true ∧ Below W.heap.size W wr) (fun i _ => ni - (intOf i).toNat)
    case atStart => exact ⟨0, by omega, rfl, rfl, Below.refl _ _⟩
    case round => as_aux_lemma =>
      obtain ⟨k, hk, rfl, hf, hb⟩ := hrel
      have HF := Lib.hid hf
      clear hf e0 e1 e2 e3 e4 e5 e6 e7
      have qr := bth qW hb
      have kr := kbW.next hb
      have e0 := kr.cell 0
      have e1 := kr.cell 1
      have e2 := kr.cell 2
      have e5 := kr.cell 5
      simp only [List.getElem?_cons_zero, List.getElem?_cons_succ] at e0 e1 e2 e5
      have zr := kr.lt
      by_cases hlt : k < ni
      · obtain ⟨b, off, x, rfl, hbl, hx, hc0, hc1, hc2⟩ := (hv.it.below qr).at3 hlt
        have hok := hv.ito _ (List.mem_of_getElem? hx)
        have HX := Lib.hid hx
        have HBI := Lib.hid (fun (h : shI v x = false) => HNo.out (.inr (.inr (.inr (.inl (all_bad HX.out h))))))
        have HAt := Lib.hid (HAT.out (by omega))
        clear hx
        have qx := qr.alloc qr.size (.cells #[.int .i64 x.num, .int .i64 x.den, sv x.text] 101)
        go_wp2_with fail
        refine (l4Item_any v.kind x _ hok).mono ?_
        rintro e w5 ⟨rfl, hb5⟩
        have q5 := bth qx hb5
        obtain ⟨hc5, _⟩ := bcell hb5
        simp only [wsize_alloc] at hc5
        have y51 : w.heap.size < wr.heap.size + 1 := by omega
        have y52 : ¬ w.heap.size = wr.heap.size := by omega
        have hb8 := bth (Below.alloc hb hb.size _) hb5
        cases hio : itemOK v.kind x with
        | false =>
          go_wp2_with fail
          go_ret
          exact ⟨ret_bool (HBI.out (by rw [shI, itL, hio]; simp)).symm, q5⟩
        | true =>
        have HDen := Lib.hid (den_ne hio)
        have HG0 := Lib.hid (show shI v x = (decide (nl = 0) || decide (x.den = 0) || decide (x.den = 1 ∧ 1 ≤ x.num ∧ x.num ≤ (nl : Int))) by rw [shI, HAt.out, itL, hio, HL5.out, HDen.out]; rfl)
        rcases Nat.eq_zero_or_pos nl with n0 | n0
        · have d1 : decide ((0 : Int) < (nl : Int)) = false := decide_eq_false (by omega)
          have d2 : decide (0 < nl) = false := decide_eq_false (by omega)
          have HG := Lib.hid (show shI v x = true by rw [HG0.out, decide_eq_true n0]; rfl)
          clear n0
          go_wp2_with fail
          go_roundw
          case rel => exact ⟨k + 1, by omega, by go_num, all_snoc HX.out HF.out HG.out, hb8⟩
          case measure => simp [intOf]; omega
        have d1 : decide ((0 : Int) < (nl : Int)) = true := decide_eq_true (by omega)
        have d2 : decide (0 < nl) = true := decide_eq_true (by omega)
        by_cases hd0 : x.den = 0
        · have t1 : (x.den != 0) = false := by simpa using hd0
          have HG := Lib.hid (show shI v x = true by rw [HG0.out, decide_eq_true hd0]; simp)
          clear hd0
          go_wp2_with fail
          go_roundw
          case rel => exact ⟨k + 1, by omega, by go_num, all_snoc HX.out HF.out HG.out, hb8⟩
          case measure => simp [intOf]; omega
        have t1 : (x.den != 0) = true := by simpa using hd0
        have HG1 := Lib.hid (show shI v x = decide (x.den = 1 ∧ 1 ≤ x.num ∧ x.num ≤ (nl : Int)) by rw [HG0.out, decide_eq_false hd0, decide_eq_false (show ¬ nl = 0 by omega)]; rfl)
        by_cases hd1 : x.den = 1
        case neg =>
          have t2 : (x.den != 1) = true := by simpa using hd1
          have HB := Lib.hid (HBI.out (by rw [HG1.out]; exact decide_eq_false (by omega)))
          clear hd1 hd0
          go_wp2_with fail
          go_ret
          exact ⟨ret_bool HB.out.symm, q5⟩
        have t2 : (x.den != 1) = false := by simpa using hd1
        have HG2 := Lib.hid (show shI v x = decide (1 ≤ x.num ∧ x.num ≤ (nl : Int)) by rw [HG1.out, decide_eq_decide]; omega)
        clear hd1 hd0
        go_wp2_with fail
        refine (l1In_any _ _ _ _).mono ?_
        rintro e w6 ⟨rfl, rfl⟩
        cases hin : decide (1 ≤ x.num ∧ x.num ≤ (nl : Int)) with
        | true =>
          go_wp2_with fail
          go_roundw
          case rel => exact ⟨k + 1, by omega, by go_num, all_snoc HX.out HF.out (by rw [HG2.out, hin]), hb8⟩
          case measure => simp [intOf]; omega
        | false =>
          go_wp2_with fail
          go_ret
          exact ⟨ret_bool (HBI.out (by rw [HG2.out, hin])).symm, q5⟩
      · have dkn : decide ((k : Int) < (ni : Int)) = false := decide_eq_false (by omega)
        have dkn' : decide (k < ni) = false := decide_eq_false (by omega)
        have HFin := Lib.hid (show okD d v = okL d v by
          have h1 := HF.out
          rw [List.take_of_length_le (by rw [HL1.out]; omega)] at h1
          rw [HAN.out, HCt.out, h1]; rfl)
        obtain ⟨W2, hW2⟩ : ∃ W2 : World, W2 = wr := ⟨_, rfl⟩
        subst hW2
        clear hlt hk
        go_wp2_with fail
        go_loopw [8] (fun i wr => ∃ j : Nat, j ≤ np ∧ i = .int .i64 j ∧ (∀ y ∈ v.parts.take j, ∃ d', d = d' + 1 ∧ okD d' y = true) ∧ Below W2.heap.size W2 wr) (fun i _ => np - (intOf i).toNat)
        case atStart => exact ⟨0, by omega, rfl, by simp, Below.refl _ _⟩
        case round => as_aux_lemma =>
          obtain ⟨j, hj, rfl, hf2, hb2⟩ := hrel
          have HF2 := Lib.hid hf2
          clear hf2 e0 e1 e2 e5
          have q2 := bth qr hb2
          have kr2 := kr.next hb2
          have e2 := kr2.cell 2
          simp only [List.getElem?_cons_zero, List.getElem?_cons_succ] at e2
          by_cases hlt : j < np
          · obtain ⟨b, off, x, Ai', ni', ci', Ap', np', cp', An', nn', cn', Ac', nc', cc', Al', nl', cl', rfl, hbl, hx, hrx, hvx, c0, c1, c2, c3, c4, c5, c6, c7⟩ := parts_at (rep_below hv.pa q2) hlt
            have HM := Lib.hid (List.mem_of_getElem? hx)
            have HT := Lib.hid (take_snoc' hx)
            clear hx
            rcases Nat.eq_zero_or_pos d with hd0 | hd0
            · have td : ((d : Int) == 0) = true := by simp; omega
              have HB := Lib.hid (show okD d v = false by rw [HFin.out]; exact okL_no HM.out (.inl hd0))
              clear hd0
              go_wp2_with fail
              go_ret
              exact ⟨ret_bool HB.out.symm, q2⟩
            · obtain ⟨d', hd'⟩ : ∃ d', d = d' + 1 := ⟨d - 1, by omega⟩
              have td : ((d : Int) == 0) = false := by simp; omega
              have hdm : (d : Int) - 1 = (d' : Int) := by omega
              have HD' := Lib.hid hd'
              have hd1 : 1 ≤ (d : Int) := by omega
              clear hd' hd0
              go_wp2_with fail
              refine (HIH.out d' HD'.out x _ _ (rep_more hrx q2.size) (hbig.part HM.out)).mono ?_
              rintro e w6 ⟨rfl, hb6⟩
              cases hq : okD d' x with
              | false =>
                go_wp2_with fail
                go_ret
                exact ⟨ret_bool (by rw [HFin.out]; exact (okL_no HM.out (.inr ⟨d', HD'.out, hq⟩)).symm), bth q2 hb6⟩
              | true =>
                go_wp2_with fail
                go_roundw
                case rel => exact ⟨j + 1, by omega, by go_num, fun y hy => by
                    rw [HT.out] at hy
                    rcases List.mem_append.1 hy with hy | hy
                    · exact HF2.out y hy
                    · simp at hy; subst hy; exact ⟨d', HD'.out, hq⟩, bth hb2 hb6⟩
                case measure => simp [intOf]; omega
          · obtain rfl : j = np := by omega
            have HY := Lib.hid (show okD d v = true by
              rw [HFin.out]
              exact okL_yes fun y hy => HF2.out y (by rw [List.take_of_length_le (by rw [HL2.out]; omega)]; exact hy))
            go_wp2_with fail
            go_ret
            exact ⟨ret_bool HY.out.symm, q2⟩
end Go.Proofs.Ytekcpadlmfaihaa
