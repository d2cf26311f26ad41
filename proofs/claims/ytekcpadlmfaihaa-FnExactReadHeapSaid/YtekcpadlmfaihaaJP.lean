/- The shape of vectors: what shapeValid returns. -/
import Derived.Test.YtekcpadlmfaihaaJF
import Derived.Deep.DeepCutAuto
set_option linter.unusedSimpArgs false
set_option linter.unusedVariables false
namespace Go.Proofs.Ytekcpadlmfaihaa
open Go.RowKit
set_option maxRecDepth 100000 in
set_option maxHeartbeats 4000000 in
theorem shapeValid_any (v : Vec) (cs : List Value) (w : World) (h : rep w w.heap.size v.toD cs) (hbig : bigV v) :
    Calls Try.prog 99 #[av cs] w fun e w' => e = .returned (.bool (shapeOK v)) ∧ Below w.heap.size w w' := by
  have hblen := hbig.len
  have hlv := lenV_le v
  obtain ⟨Ai, ni, ci, Ap, np, cp, An, nn, cn, Ac, nc, cc, Al, nl, cl, rfl, hv⟩ := vec_open h
  have q0 := (Below.refl w.heap.size w).alloc (Nat.le_refl _) (.cells (vc v Ai ni ci Ap np cp An nn cn Ac nc cc Al nl cl).toArray 34)
  have hkb := Blk.new_ w 34 (vc v Ai ni ci Ap np cp An nn cn Ac nc cc Al nl cl).toArray
  have hC : shC v = decide (shP v.kind v.code v.env ni np nn nc nl) := by rw [shC, hv.it.len, hv.pab.2.2, hv.na.len, hv.ca.len, hv.la.len]
  have HC := Lib.hid hC
  have HNo := Lib.hid (@shNo v)
  have b1 := hv.itb
  have b2 := hv.pab
  have b3 := hv.nab
  have b4 := hv.cab
  have b5 := hv.lab
  unfold maxLen at b1 b2 b3 b4 b5
  have HL1 := Lib.hid hv.it.len
  have HL3 := Lib.hid hv.na.len
  have HL5 := Lib.hid hv.la.len
  have b2' : np ≤ 9223372036854775807 := by omega
  clear hC b2
  go_enter Try.func99, Try.ntmps99
  go_wp2_with fail
  refine (length_any v _ _ (rep_next h q0) (by omega)).mono ?_
  rintro e w1 ⟨rfl, hb1⟩
  have q1 := bth q0 hb1
  have kb1 := hkb.next hb1
  have c10 : w1.cell? ⟨w.heap.size, 0, none⟩ = some (.int .i64 v.kind) := kb1.cell 0
  have c14 : w1.cell? ⟨w.heap.size, 4, none⟩ = some (.slice Ac nc cc) := kb1.cell 4
  by_cases k0 : 0 ≤ v.kind ∧ v.kind ≤ 5 ∧ lenV v ≤ 40
  case neg =>
    have HB := Lib.hid (HNo.out (.inl (by rw [shA, decide_eq_false k0]; rfl)))
    have HK := Lib.hid k0
    clear k0
    go_wp2_with fail
    all_goals first | (go_ret; exact ⟨ret_bool HB.out.symm, q1⟩) | (exfalso; apply HK.out; omega)
  obtain ⟨k01, k02, k03⟩ := k0
  have dk0 : decide (v.kind < 0) = false := by simp; omega
  have dk5 : decide (5 < v.kind) = false := by simp; omega
  have dk4 : decide ((40 : Int) < (lenV v : Int)) = false := by simp; omega
  have HA0 := Lib.hid (show shA v = (labV v.cls 3 && labV v.levels 20) by rw [shA, decide_eq_true ⟨k01, k02, k03⟩]; rfl)
  go_wp2_with fail
  refine (labelsValid_any Ac nc cc v.cls 3 _ ((hv.ca.below q1).more q1.size) hv.cao b4.1 (by unfold maxLen; omega) (by omega)).mono ?_
  rintro e w2 ⟨rfl, hb2⟩
  have q2 := bth q1 hb2
  have kb2 := kb1.next hb2
  have c25 : w2.cell? ⟨w.heap.size, 5, none⟩ = some (.slice Al nl cl) := kb2.cell 5
  cases l1 : labV v.cls 3 with
  | false =>
    go_wp2_with fail
    go_ret
    exact ⟨ret_bool (HNo.out (.inl (by rw [HA0.out, l1]; rfl))).symm, q2⟩
  | true =>
  go_wp2_with fail
  refine (labelsValid_any Al nl cl v.levels 20 _ ((hv.la.below q2).more q2.size) hv.lao b5.1 (by unfold maxLen; omega) (by omega)).mono ?_
  rintro e w3 ⟨rfl, hb3⟩
  have q3 := bth q2 hb3
  have kb3 := kb2.next hb3
  have c33 : w3.cell? ⟨w.heap.size, 3, none⟩ = some (.slice An nn cn) := kb3.cell 3
  cases l2 : labV v.levels 20 with
  | false =>
    go_wp2_with fail
    go_ret
    exact ⟨ret_bool (HNo.out (.inl (by rw [HA0.out, l1, l2]; rfl))).symm, q3⟩
  | true =>
  have HA := Lib.hid (show shA v = true by rw [HA0.out, l1, l2]; rfl)
  clear l1 l2 c10 c14 c25 hb1 hb2 kb1 kb2 q1 q2
  have hN2 : shN v = ((decide (nn = 0) || (decide (nn = lenV v) && !allE v.names)) && v.names.all (fun s => decide (s.length ≤ 60))) := by rw [shN, HL3.out]
  have HN2 := Lib.hid hN2
  clear hN2
  go_upto_region 4 with fail
  go_cut [49] (fun c wx => c = .bool (!(decide (nn = 0) || (decide (nn = lenV v) && !allE v.names))) ∧ Blk wx w.heap.size 34 (vc v Ai ni ci Ap np cp An nn cn Ac nc cc Al nl cl) ∧ Below w.heap.size w wx)
  case first => as_aux_lemma =>
    by_cases n0 : nn = 0
    · have d0 : decide ((0 : Int) < (nn : Int)) = false := by simp; omega
      have d1 : decide (0 < nn) = false := by simp; omega
      have HB := Lib.hid (show false = !(decide (nn = 0) || (decide (nn = lenV v) && !allE v.names)) by rw [decide_eq_true n0]; rfl)
      clear n0
      go_wp2_with fail
      go_meet
      exact ⟨congrArg Value.bool HB.out, kb3, q3⟩
    have d0 : decide ((0 : Int) < (nn : Int)) = true := by simp; omega
    by_cases hnl : nn = lenV v
    · have d1 : ((nn : Int) != (lenV v : Int)) = false := by simp; omega
      have HB := Lib.hid (show allE v.names = !(decide (nn = 0) || (decide (nn = lenV v) && !allE v.names)) by rw [decide_eq_false n0, decide_eq_true hnl]; simp)
      clear hnl
      go_wp2_with fail
      refine (allEmpty_any An nn cn v.names _ ((hv.na.below q3).more q3.size) (by unfold maxLen; omega)).mono ?_
      rintro e w4 ⟨rfl, hb4⟩
      go_wp2_with fail
      go_meet
      exact ⟨congrArg Value.bool HB.out, kb3.next hb4, bth q3 hb4⟩
    · have d1 : ((nn : Int) != (lenV v : Int)) = true := by simp; omega
      have HB := Lib.hid (show true = !(decide (nn = 0) || (decide (nn = lenV v) && !allE v.names)) by rw [decide_eq_false n0, decide_eq_false hnl]; rfl)
      clear hnl
      go_wp2_with fail
      go_meet
      exact ⟨congrArg Value.bool HB.out, kb3, q3⟩
  case rest => as_aux_lemma =>
    clear kb3 q3 c33 hb3
    obtain ⟨rfl, kbW, qW⟩ := hcut
    obtain ⟨W, hW⟩ : ∃ W : World, W = wc := ⟨_, rfl⟩
    subst hW
    cases hnm : (decide (nn = 0) || (decide (nn = lenV v) && !allE v.names)) with
    | false =>
      go_wp2_with fail
      go_ret
      exact ⟨ret_bool (HNo.out (.inr (.inl (by rw [HN2.out, hnm]; rfl)))).symm, qW⟩
    | true =>
    have HNN := Lib.hid (show shN v = v.names.all (fun s => decide (s.length ≤ 60)) by rw [HN2.out, hnm]; rfl)
    clear hnm
    have e0 := kbW.cell 0
    have e1 := kbW.cell 1
    have e2 := kbW.cell 2
    have e3 := kbW.cell 3
    have e4 := kbW.cell 4
    have e5 := kbW.cell 5
    have e6 := kbW.cell 6
    have e7 := kbW.cell 7
    simp only [List.getElem?_cons_zero, List.getElem?_cons_succ] at e0 e1 e2 e3 e4 e5 e6 e7
    go_wp2_with fail
    go_loop [53] (fun i => ∃ k : Nat, k ≤ nn ∧ i = .int .i64 k ∧ (v.names.take k).all (fun s => decide (s.length ≤ 60)) = true) (fun i => nn - (intOf i).toNat)
    case atStart => exact ⟨0, by omega, rfl, by simp⟩
    case round => as_aux_lemma =>
      obtain ⟨k, hk, rfl, hf⟩ := hrel
      have HF := Lib.hid hf
      clear hf
      by_cases hlt : k < nn
      · obtain ⟨b, off, x, rfl, hbl, hx, hc0⟩ := (hv.na.below qW).atS hlt
        have hxl : x.length ≤ 9223372036854775807 := hv.nao _ (List.mem_of_getElem? hx)
        have HX := Lib.hid hx
        clear hx
        by_cases h60 : (60 : Int) < (x.length : Int)
        · have HB := Lib.hid (HNo.out (.inr (.inl (by rw [HNN.out]; exact all_bad HX.out (decide_eq_false (by omega))))))
          go_wp2_with fail
          go_ret
          exact ⟨ret_bool HB.out.symm, qW⟩
        · go_wp2_with fail
          go_round
          case rel => exact ⟨k + 1, by omega, by go_num, all_snoc HX.out HF.out (decide_eq_true (by omega))⟩
          case measure => simp [intOf]; omega
      · have hkn : k = nn := by omega
        have HN := Lib.hid (show shN v = true by rw [HNN.out]; have := HF.out; rwa [List.take_of_length_le (by rw [HL3.out]; omega)] at this)
        have dkn : decide ((k : Int) < (nn : Int)) = false := by simp; omega
        have dkn' : decide (k < nn) = false := by simp; omega
        clear HNN HF HN2 hlt hk hkn
        obtain ⟨p12, hp12⟩ : ∃ p : Bool, p = decide (0 < nl ∧ v.kind ≠ 2 ∨ 0 < np ∧ v.kind ≠ 4) := ⟨_, rfl⟩
        have HP12 := Lib.hid hp12
        clear hp12
        go_upto_region 12 with fail
        go_cut [80] (fun c wx => c = .bool p12 ∧ W = wx)
        case first => as_aux_lemma =>
          go_wp2_with fail
          all_goals (go_meet; exact ⟨congrArg Value.bool (by rw [HP12.out]; (first | exact (decide_eq_true (by omega)).symm | exact (decide_eq_false (by omega)).symm | (rw [Bool.eq_iff_iff]; simp; omega) | (rw [Bool.eq_iff_iff]; simp))), rfl⟩)
        case rest => as_aux_lemma =>
        obtain ⟨rfl, rfl⟩ := hcut
        cases p12
        case true =>
          have hP12 := of_decide_eq_true HP12.out.symm
          have HB := Lib.hid (HNo.out (.inr (.inr (.inl (by rw [HC.out]; exact decide_eq_false (by unfold shP; omega))))))
          clear hP12
          go_wp2_with fail
          go_ret
          exact ⟨ret_bool HB.out.symm, qW⟩
        have hP12 := of_decide_eq_false HP12.out.symm
        have HQ12 := Lib.hid hP12
        clear hP12
        obtain ⟨p14, hp14⟩ : ∃ p : Bool, p = decide (v.kind ≠ 5 ∧ (v.code ≠ 0 ∨ v.env ≠ 0)) := ⟨_, rfl⟩
        have HP14 := Lib.hid hp14
        clear hp14
        go_upto_region 14 with fail
        go_cut [93] (fun c wx => c = .bool p14 ∧ W = wx)
        case first => as_aux_lemma =>
          go_wp2_with fail
          all_goals (go_meet; exact ⟨congrArg Value.bool (by rw [HP14.out]; (first | exact (decide_eq_true (by omega)).symm | exact (decide_eq_false (by omega)).symm | (rw [Bool.eq_iff_iff]; simp; omega) | (rw [Bool.eq_iff_iff]; simp))), rfl⟩)
        case rest => as_aux_lemma =>
        obtain ⟨rfl, rfl⟩ := hcut
        cases p14
        case true =>
          have hP14 := of_decide_eq_true HP14.out.symm
          have HB := Lib.hid (HNo.out (.inr (.inr (.inl (by rw [HC.out]; exact decide_eq_false (by unfold shP; omega))))))
          clear hP14
          go_wp2_with fail
          go_ret
          exact ⟨ret_bool HB.out.symm, qW⟩
        have hP14 := of_decide_eq_false HP14.out.symm
        have HQ14 := Lib.hid hP14
        clear hP14
        obtain ⟨p16, hp16⟩ : ∃ p : Bool, p = decide (v.kind = 5 ∧ (0 < ni ∨ 0 < nn ∨ v.code < -999 ∨ 99999 < v.code ∨ v.env < 0 ∨ 99999 < v.env)) := ⟨_, rfl⟩
        have HP16 := Lib.hid hp16
        clear hp16
        go_upto_region 16 with fail
        go_cut [128] (fun c wx => c = .bool p16 ∧ W = wx)
        case first => as_aux_lemma =>
          rcases Nat.eq_zero_or_pos ni with azni | azni
          all_goals rcases Nat.eq_zero_or_pos nn with aznn | aznn
          all_goals first | (have dzni : decide ((0 : Int) < (ni : Int)) = false := decide_eq_false (by omega); have ezni : decide (0 < ni) = false := decide_eq_false (by omega)) | (have dzni : decide ((0 : Int) < (ni : Int)) = true := decide_eq_true (by omega); have ezni : decide (0 < ni) = true := decide_eq_true (by omega))
          all_goals first | (have dznn : decide ((0 : Int) < (nn : Int)) = false := decide_eq_false (by omega); have eznn : decide (0 < nn) = false := decide_eq_false (by omega)) | (have dznn : decide ((0 : Int) < (nn : Int)) = true := decide_eq_true (by omega); have eznn : decide (0 < nn) = true := decide_eq_true (by omega))
          all_goals have AZni := Lib.hid azni
          all_goals have AZnn := Lib.hid aznn
          all_goals clear azni aznn
          all_goals go_wp2_with fail
          all_goals (go_meet; exact ⟨congrArg Value.bool (by have := AZni.out; have := AZnn.out; rw [HP16.out]; (first | exact (decide_eq_true (by omega)).symm | exact (decide_eq_false (by omega)).symm | (rw [Bool.eq_iff_iff]; simp; omega) | (rw [Bool.eq_iff_iff]; simp))), rfl⟩)
        case rest => as_aux_lemma =>
        obtain ⟨rfl, rfl⟩ := hcut
        cases p16
        case true =>
          have hP16 := of_decide_eq_true HP16.out.symm
          have HB := Lib.hid (HNo.out (.inr (.inr (.inl (by rw [HC.out]; exact decide_eq_false (by unfold shP; omega))))))
          clear hP16
          go_wp2_with fail
          go_ret
          exact ⟨ret_bool HB.out.symm, qW⟩
        have hP16 := of_decide_eq_false HP16.out.symm
        have HQ16 := Lib.hid hP16
        clear hP16
        obtain ⟨p18, hp18⟩ : ∃ p : Bool, p = decide (v.kind = 0 ∧ (0 < ni ∨ 0 < nc)) := ⟨_, rfl⟩
        have HP18 := Lib.hid hp18
        clear hp18
        go_upto_region 18 with fail
        go_cut [143] (fun c wx => c = .bool p18 ∧ W = wx)
        case first => as_aux_lemma =>
          rcases Nat.eq_zero_or_pos ni with azni | azni
          all_goals first | (have dzni : decide ((0 : Int) < (ni : Int)) = false := decide_eq_false (by omega); have ezni : decide (0 < ni) = false := decide_eq_false (by omega)) | (have dzni : decide ((0 : Int) < (ni : Int)) = true := decide_eq_true (by omega); have ezni : decide (0 < ni) = true := decide_eq_true (by omega))
          all_goals have AZni := Lib.hid azni
          all_goals clear azni
          all_goals go_wp2_with fail
          all_goals (go_meet; exact ⟨congrArg Value.bool (by have := AZni.out; rw [HP18.out]; (first | exact (decide_eq_true (by omega)).symm | exact (decide_eq_false (by omega)).symm | (rw [Bool.eq_iff_iff]; simp; omega) | (rw [Bool.eq_iff_iff]; simp))), rfl⟩)
        case rest => as_aux_lemma =>
        obtain ⟨rfl, rfl⟩ := hcut
        cases p18
        case true =>
          have hP18 := of_decide_eq_true HP18.out.symm
          have HB := Lib.hid (HNo.out (.inr (.inr (.inl (by rw [HC.out]; exact decide_eq_false (by unfold shP; omega))))))
          clear hP18
          go_wp2_with fail
          go_ret
          exact ⟨ret_bool HB.out.symm, qW⟩
        have hP18 := of_decide_eq_false HP18.out.symm
        have HCt := Lib.hid (show shC v = true by rw [HC.out]; exact decide_eq_true (by have := HQ12.out; have := HQ14.out; have := HQ16.out; unfold shP; omega))
        clear hP18
        go_wp2_with fail
        go_loopw [147] (fun i wr => ∃ k : Nat, k ≤ ni ∧ i = .int .i64 k ∧ (v.items.take k).all (shI v) = true ∧ Below W.heap.size W wr) (fun i _ => ni - (intOf i).toNat)
        case atStart => exact ⟨0, by omega, rfl, rfl, Below.refl _ _⟩
        case round => as_aux_lemma =>
          obtain ⟨k, hk, rfl, hf, hb⟩ := hrel
          have HF := Lib.hid hf
          clear hf e0 e1 e2 e3 e4 e5 e6 e7
          have qr := bth qW hb
          have kr := kbW.next hb
          have e0 := kr.cell 0
          have e1 := kr.cell 1
          have e2 := kr.cell 2
          have e3 := kr.cell 3
          have e4 := kr.cell 4
          have e5 := kr.cell 5
          have e6 := kr.cell 6
          have e7 := kr.cell 7
          simp only [List.getElem?_cons_zero, List.getElem?_cons_succ] at e0 e1 e2 e3 e4 e5 e6 e7
          have zr := kr.lt
          by_cases hlt : k < ni
          · obtain ⟨b, off, x, rfl, hbl, hx, hc0, hc1, hc2⟩ := (hv.it.below qr).at3 hlt
            have hok := hv.ito _ (List.mem_of_getElem? hx)
            have HX := Lib.hid hx
            have HBI := Lib.hid (fun (h : shI v x = false) => HNo.out (.inr (.inr (.inr (all_bad HX.out h)))))
            clear hx
            have qx := qr.alloc qr.size (.cells #[.int .i64 x.num, .int .i64 x.den, sv x.text] 101)
            go_wp2_with fail
            refine (isAtomic_any v _ _ (rep_in h qx (by simp only [wsize_alloc]; have := qr.size; omega))).mono ?_
            rintro e w5 ⟨rfl, hb5⟩
            have q5 := bth qx hb5
            obtain ⟨hc5, _⟩ := bcell hb5
            simp only [wsize_alloc] at hc5
            have z5 := hb5.size
            simp only [wsize_alloc] at z5
            have y51 : w.heap.size < wr.heap.size + 1 := by omega
            have y52 : ¬ w.heap.size = wr.heap.size := by omega
            cases hat : atomK v.kind with
            | false =>
              go_wp2_with fail
              go_ret
              exact ⟨ret_bool (HBI.out (by rw [shI, hat]; rfl)).symm, q5⟩
            | true =>
            go_wp2_with fail
            refine (itemValid_any v.kind x _ hok).mono ?_
            rintro e w6 ⟨rfl, hb6⟩
            have q6 := bth q5 hb6
            obtain ⟨hc6, _⟩ := bcell hb6
            have z6 := hb6.size
            have y61 : w.heap.size < w5.heap.size := by omega
            have y62 : wr.heap.size < w5.heap.size := by omega
            cases hio : itemOK v.kind x with
            | false =>
              go_wp2_with fail
              go_ret
              exact ⟨ret_bool (HBI.out (by rw [shI, hat, itL, hio]; rfl)).symm, q6⟩
            | true =>
            rcases Nat.eq_zero_or_pos nl with n0 | n0
            · have d1 : decide ((0 : Int) < (nl : Int)) = false := decide_eq_false (by omega)
              have d2 : decide (0 < nl) = false := decide_eq_false (by omega)
              have HG := Lib.hid (show shI v x = true by rw [shI, hat, itL, hio, HL5.out, decide_eq_true n0]; rfl)
              clear n0
              go_wp2_with fail
              go_roundw
              case rel => exact ⟨k + 1, by omega, by go_num, all_snoc HX.out HF.out HG.out, bth (bth (Below.alloc hb hb.size _) hb5) hb6⟩
              case measure => simp [intOf]; omega
            · have d1 : decide ((0 : Int) < (nl : Int)) = true := decide_eq_true (by omega)
              have d2 : decide (0 < nl) = true := decide_eq_true (by omega)
              go_wp2_with fail
              refine (isMissing_any x _).mono ?_
              rintro e w7 ⟨rfl, hb7⟩
              have q7 := bth q6 hb7
              obtain ⟨hc7, _⟩ := bcell hb7
              have y71 : w.heap.size < w6.heap.size := by omega
              have y72 : wr.heap.size < w6.heap.size := by omega
              have hb8 := bth (bth (bth (Below.alloc hb hb.size _) hb5) hb6) hb7
              cases hmi : isMiss x with
              | true =>
                have HG := Lib.hid (show shI v x = true by rw [shI, hat, itL, hio, hmi]; simp)
                go_wp2_with fail
                go_roundw
                case rel => exact ⟨k + 1, by omega, by go_num, all_snoc HX.out HF.out HG.out, hb8⟩
                case measure => simp [intOf]; omega
              | false =>
                have HG := Lib.hid (show shI v x = decide (x.den = 1 ∧ 1 ≤ x.num ∧ x.num ≤ (nl : Int)) by rw [shI, hat, itL, hio, hmi, HL5.out, decide_eq_false (show ¬ nl = 0 by omega)]; rfl)
                by_cases hin : x.den = 1 ∧ 1 ≤ x.num ∧ x.num ≤ (nl : Int)
                · have HT := Lib.hid (show shI v x = true by rw [HG.out]; exact decide_eq_true hin)
                  have t1 : (x.den != 1) = false := by simpa using hin.1
                  have t2 : decide (x.num < 1) = false := decide_eq_false (by omega)
                  have t3 : decide ((nl : Int) < x.num) = false := decide_eq_false (by omega)
                  clear hin
                  go_wp2_with fail
                  go_roundw
                  case rel => exact ⟨k + 1, by omega, by go_num, all_snoc HX.out HF.out HT.out, hb8⟩
                  case measure => simp [intOf]; omega
                · have HT := Lib.hid (HBI.out (by rw [HG.out]; exact decide_eq_false hin))
                  have HIn := Lib.hid hin
                  clear hin
                  go_wp2_with fail
                  all_goals first | (go_ret; exact ⟨ret_bool HT.out.symm, q7⟩) | (exfalso; apply HIn.out; omega)
          · obtain rfl : k = ni := by omega
            have HR := Lib.hid (show shapeOK v = true by
              have h1 := HF.out
              rw [List.take_of_length_le (by rw [HL1.out]; omega)] at h1
              rw [shapeOK, HA.out, HN.out, HCt.out, h1]; rfl)
            go_wp2_with fail
            go_ret
            exact ⟨ret_bool HR.out.symm, qr⟩
end Go.Proofs.Ytekcpadlmfaihaa
