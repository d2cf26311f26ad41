/- Valid vectors: what partsValid and IsVector of the program return; that both ways of looking at the depth agree. -/
import Derived.Test.YtekcpadlmfaihaaVe
namespace Go.Proofs.Ytekcpadlmfaihaa
open Go.RowKit
set_option maxRecDepth 100000 in
set_option maxHeartbeats 2000000 in
theorem partsValid_any : ∀ (v : Vec) (cs : List Value) (w : World), rep w w.heap.size v.toD cs → bigV v →
    Calls Try.prog 77 #[av cs] w fun e w' => e = .returned (.bool (partsOK v)) ∧ Below w.heap.size w w' := Vector_ind fun v ih => by
  intro cs w h hbig
  have HHF := Lib.hid (partsOK_eq v)
  obtain ⟨Ai, ni, ci, Ap, np, cp, An, nn, cn, Ac, nc, cc, Al, nl, cl, rfl, hv⟩ := vec_open h
  have q0 := (Below.refl w.heap.size w).alloc (Nat.le_refl _) (.cells (vc v Ai ni ci Ap np cp An nn cn Ac nc cc Al nl cl).toArray 34)
  have hkb := Blk.new_ w 34 (vc v Ai ni ci Ap np cp An nn cn Ac nc cc Al nl cl).toArray
  have hpl := hv.pab
  unfold maxLen at hpl
  have HPL := Lib.hid hpl.2.2
  have hpb : np ≤ 9223372036854775807 := by omega
  have HIH := Lib.hid ih
  clear ih hpl
  go_enter Try.func77, Try.ntmps77
  go_wp2_with fail
  refine (shapeValid_any v _ _ (rep_next h q0) hbig).mono ?_
  rintro e w1 ⟨rfl, hb1⟩
  have q1 := bth q0 hb1
  have c2 : w1.cell? ⟨w.heap.size, 2, none⟩ = some (.slice Ap np cp) := (hkb.next hb1).cell 2
  cases hsh : shapeOK v with
  | false =>
    go_wp2_with fail
    go_ret
    exact ⟨ret_bool (by rw [HHF.out, hsh]; rfl), q1⟩
  | true =>
  go_wp2_with fail
  go_loopw [11] (fun i wr => ∃ k : Nat, k ≤ np ∧ i = .int .i64 k ∧ (v.parts.take k).all partsOK = true ∧ Below w.heap.size w wr) (fun i _ => np - (intOf i).toNat)
  case atStart => exact ⟨0, by omega, rfl, rfl, q1⟩
  case round =>
    obtain ⟨k, hk, rfl, hf, hb⟩ := hrel
    have HF := Lib.hid hf
    clear hf
    by_cases hlt : k < np
    · obtain ⟨b, off, x, Ai', ni', ci', Ap', np', cp', An', nn', cn', Ac', nc', cc', Al', nl', cl', rfl, hbl, hx, hrx, hvx, c0, c1, c2, c3, c4, c5, c6, c7⟩ := parts_at (rep_below hv.pa hb) hlt
      have HX := Lib.hid hx
      have HM := Lib.hid (List.mem_of_getElem? hx)
      clear hx
      have q2 := hb.alloc hb.size (.cells (vc x Ai' ni' ci' Ap' np' cp' An' nn' cn' Ac' nc' cc' Al' nl' cl').toArray 34)
      go_wp2_with fail
      refine (HIH.out x HM.out _ _ (rep_in hrx (Below.alloc (Below.refl _ _) hb.size _) (by simp only [wsize_alloc]; have := hb.size; omega)) (hbig.part HM.out)).mono ?_
      rintro e w2 ⟨rfl, hb2⟩
      cases hq : partsOK x with
      | false =>
        go_wp2_with fail
        go_ret
        exact ⟨ret_bool (by rw [HHF.out, all_bad HX.out hq]; simp), bth q2 hb2⟩
      | true =>
        go_wp2_with fail
        go_roundw
        case rel => exact ⟨k + 1, by omega, by go_num, all_snoc HX.out HF.out hq, bth q2 hb2⟩
        case measure => simp [intOf]; omega
    · obtain rfl : k = np := by omega
      go_wp2_with fail
      go_ret
      exact ⟨ret_bool (by have := HF.out; rw [List.take_of_length_le (by rw [HPL.out]; omega)] at this; rw [HHF.out, this, hsh]; rfl), hb⟩
set_option maxHeartbeats 2000000 in
theorem implIsVector_any (v : Vec) (cs : List Value) (w : World) (h : rep w w.heap.size v.toD cs) (hbig : bigV v) :
    Calls Try.prog 32 #[av cs] w fun e w' => e = .returned (.bool (isVec v)) ∧ Below w.heap.size w w' := by
  have hcb := hbig.cells
  obtain ⟨Ai, ni, ci, Ap, np, cp, An, nn, cn, Ac, nc, cc, Al, nl, cl, rfl, hv⟩ := vec_open h
  have q0 := (Below.refl w.heap.size w).alloc (Nat.le_refl _) (.cells (vc v Ai ni ci Ap np cp An nn cn Ac nc cc Al nl cl).toArray 34)
  have hkb := Blk.new_ w 34 (vc v Ai ni ci Ap np cp An nn cn Ac nc cc Al nl cl).toArray
  have HI := Lib.hid (show isVec v = (decide (nestV 4 v ≤ 3) && partsOK v && decide (cellsV v ≤ 200)) by rw [isVec, okD_eq])
  go_enter Try.func32, Try.ntmps32
  go_wp2_with fail
  refine (nest_any 4 (by omega) v _ _ (rep_next h q0)).mono ?_
  rintro e w1 ⟨rfl, hb1⟩
  have q1 := bth q0 hb1
  obtain ⟨hc1, _⟩ := bcell hb1
  simp only [wsize_alloc] at hc1
  by_cases hn : nestV 4 v ≤ 3
  case neg =>
    have hd : decide ((nestV 4 v : Int) ≤ 3) = false := decide_eq_false (by omega)
    have HB := Lib.hid (show isVec v = false by rw [HI.out, decide_eq_false hn]; rfl)
    clear hn
    go_wp2_with fail
    go_ret
    exact ⟨ret_bool HB.out.symm, q1⟩
  have hd : decide ((nestV 4 v : Int) ≤ 3) = true := decide_eq_true (by omega)
  have HI2 := Lib.hid (show isVec v = (partsOK v && decide (cellsV v ≤ 200)) by rw [HI.out, decide_eq_true hn]; rfl)
  clear hn
  go_wp2_with fail
  refine (partsValid_any v _ _ (rep_next (rep_next h q0) hb1) hbig).mono ?_
  rintro e w2 ⟨rfl, hb2⟩
  have q2 := bth q1 hb2
  obtain ⟨hc2, _⟩ := bcell hb2
  have y1 : w.heap.size < w1.heap.size := by have := hb1.size; simp only [wsize_alloc] at this; omega
  cases hp : partsOK v with
  | false =>
    go_wp2_with fail
    go_ret
    exact ⟨ret_bool (by rw [HI2.out, hp]; rfl), q2⟩
  | true =>
  go_wp2_with fail
  refine (cells_any v _ _ (rep_next (rep_next (rep_next h q0) hb1) hb2) hbig).mono ?_
  rintro e w3 ⟨rfl, hb3⟩
  have HR := Lib.hid (show isVec v = decide (cellsV v ≤ 200) by rw [HI2.out, hp]; rfl)
  go_wp2_with fail
  go_ret
  exact ⟨ret_bool (by rw [HR.out, decide_eq_decide]; omega), bth q2 hb3⟩
end Go.Proofs.Ytekcpadlmfaihaa
