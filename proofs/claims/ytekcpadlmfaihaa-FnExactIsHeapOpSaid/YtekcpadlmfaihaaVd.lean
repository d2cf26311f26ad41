/- Cells of vectors; functions in them: what cells, hasFunction and their kin return. -/
import Derived.Test.YtekcpadlmfaihaaVc
namespace Go.Proofs.Ytekcpadlmfaihaa
open Go.RowKit
mutual
def cellsV : Vec → Nat
  | ⟨k, i, p, n, c, l, cd, e⟩ => lenV ⟨k, i, p, n, c, l, cd, e⟩ + cellsL p
def cellsL : List Vec → Nat
  | [] => 0
  | v :: t => cellsV v + cellsL t
end
theorem cellsV_eq (v : Vec) : cellsV v = lenV v + cellsL v.parts := by cases v; rw [cellsV]
theorem cellsL_app (l l' : List Vec) : cellsL (l ++ l') = cellsL l + cellsL l' := by
  induction l with
  | nil => simp [cellsL]
  | cons a t ih => simp only [List.cons_append, cellsL, ih]; omega
theorem cellsL_snoc {l : List Vec} {k : Nat} {x : Vec} (h : l[k]? = some x) : cellsL (l.take (k + 1)) = cellsL (l.take k) + cellsV x := by
  rw [take_snoc' h, cellsL_app]; simp [cellsL]
theorem cellsL_le (l : List Vec) (k : Nat) : cellsL (l.take k) ≤ cellsL l := by
  have h : l = l.take k ++ l.drop k := by rw [List.take_append_drop]
  conv => rhs; rw [h]
  rw [cellsL_app]; omega
mutual
def hasF : Vec → Bool
  | ⟨k, _, p, _, _, _, _, _⟩ => (k == 5) || hasFL p
def hasFL : List Vec → Bool
  | [] => false
  | v :: t => hasF v || hasFL t
end
theorem hasF_eq (v : Vec) : hasF v = ((v.kind == 5) || hasFL v.parts) := by cases v; rw [hasF]
theorem hasFL_any (l : List Vec) : hasFL l = l.any hasF := by
  induction l with
  | nil => rw [hasFL]; rfl
  | cons a t ih => rw [hasFL, ih]; rfl
theorem any_snoc {α : Type} {p : α → Bool} {l : List α} {k : Nat} {x : α} (h : l[k]? = some x) (ha : (l.take k).any p = false) (hb : p x = false) : (l.take (k + 1)).any p = false := by
  rw [take_snoc' h, List.any_append, ha]; simp [hb]
theorem any_yes {α : Type} {p : α → Bool} {l : List α} {k : Nat} {x : α} (h : l[k]? = some x) (hb : p x = true) : l.any p = true := List.any_eq_true.2 ⟨x, List.mem_of_getElem? h, hb⟩
theorem cellsL_sz (l : List Vec) (h : ∀ x ∈ l, cellsV x ≤ 2 * szD x.toD + 1) : cellsL l ≤ 2 * szDs (l.map Vec.toD) + l.length := by
  induction l with
  | nil => simp [cellsL]
  | cons a t ih =>
    have h1 := ih (fun x hx => h x (List.mem_cons_of_mem _ hx))
    have h2 := h a List.mem_cons_self
    simp only [cellsL, List.map_cons, szDs, List.length_cons]
    omega
theorem vsz (v : Vec) : v.items.length + v.parts.length + szDs (v.parts.map Vec.toD) ≤ szD v.toD := by
  rw [Vector_sz, szD, szD, List.length_map, List.length_map]; omega
theorem cellsV_sz : ∀ v : Vec, cellsV v ≤ 2 * szD v.toD + 1 := Vector_ind fun v ih => by
  have h1 := cellsL_sz v.parts ih
  have h2 := lenV_le v
  have h3 := vsz v
  rw [cellsV_eq]; omega
theorem vsz_part {v x : Vec} (h : x ∈ v.parts) : szD x.toD ≤ szD v.toD := by
  have h1 := szDs_mem (List.mem_map_of_mem (f := Vec.toD) h)
  have h2 := vsz v
  omega
def bigV (v : Vec) : Prop := (szD v.toD : Int) ≤ 1000000000000000
theorem bigV.part {v x : Vec} (h : bigV v) (hx : x ∈ v.parts) : bigV x := by unfold bigV at h ⊢; have := vsz_part hx; omega
theorem bigV.len {v : Vec} (h : bigV v) : ((v.items.length + v.parts.length : Nat) : Int) ≤ 1000000000000000 := by unfold bigV at h; have := vsz v; omega
theorem bigV.cells {v : Vec} (h : bigV v) : (cellsV v : Int) ≤ 3000000000000000 := by unfold bigV at h; have := cellsV_sz v; omega
set_option maxRecDepth 100000 in
set_option maxHeartbeats 2000000 in
theorem cells_any : ∀ (v : Vec) (cs : List Value) (w : World), rep w w.heap.size v.toD cs → bigV v →
    Calls Try.prog 78 #[av cs] w fun e w' => e = .returned (.int .i64 (cellsV v)) ∧ Below w.heap.size w w' := Vector_ind fun v ih => by
  intro cs w h hbig
  have hblen := hbig.len
  have hbc := hbig.cells
  rw [cellsV_eq] at hbc
  obtain ⟨Ai, ni, ci, Ap, np, cp, An, nn, cn, Ac, nc, cc, Al, nl, cl, rfl, hv⟩ := vec_open h
  have q0 := (Below.refl w.heap.size w).alloc (Nat.le_refl _) (.cells (vc v Ai ni ci Ap np cp An nn cn Ac nc cc Al nl cl).toArray 34)
  have hpl := hv.pab
  unfold maxLen at hpl
  have HPL := Lib.hid hpl.2.2
  have hpb : np ≤ 9223372036854775807 := by omega
  have HIH := Lib.hid ih
  clear ih hpl
  go_enter Try.func78, Try.ntmps78
  go_wp2_with fail
  refine (length_any v _ _ (rep_next h q0) (by omega)).mono ?_
  rintro e w1 ⟨rfl, hb1⟩
  obtain ⟨hc1, _⟩ := bcell hb1
  simp only [wsize_alloc] at hc1
  have q1 := bth q0 hb1
  go_wp2_with fail
  have hbp : Below (w.alloc (.cells (vc v Ai ni ci Ap np cp An nn cn Ac nc cc Al nl cl).toArray 34)).heap.size (w.alloc (.cells (vc v Ai ni ci Ap np cp An nn cn Ac nc cc Al nl cl).toArray 34)) w1 := hb1
  go_loopw [3, 11] (fun u i wr => ∃ k : Nat, k ≤ np ∧ i = .int .i64 k ∧ u = .int .i64 ((lenV v + cellsL (v.parts.take k) : Nat) : Int) ∧ Below w.heap.size w wr) (fun _ i _ => np - (intOf i).toNat)
  case atStart => exact ⟨0, by omega, rfl, by simp [cellsL], q1⟩
  case round =>
    obtain ⟨k, hk, rfl, rfl, hb⟩ := hrel
    by_cases hlt : k < np
    · obtain ⟨b, off, x, Ai', ni', ci', Ap', np', cp', An', nn', cn', Ac', nc', cc', Al', nl', cl', rfl, hbl, hx, hrx, hvx, c0, c1, c2, c3, c4, c5, c6, c7⟩ := parts_at (rep_below hv.pa hb) hlt
      have HX := Lib.hid (cellsL_snoc hx)
      have HM := Lib.hid (List.mem_of_getElem? hx)
      have hle := cellsL_le v.parts (k + 1)
      rw [HX.out] at hle
      clear hx
      obtain ⟨m, hm⟩ : ∃ m : Nat, m = lenV v + cellsL (v.parts.take k) := ⟨_, rfl⟩
      have hm2 : (m + cellsV x : Int) ≤ 3000000000000000 := by omega
      rw [← hm]
      have HMM := Lib.hid hm
      clear hm hle
      have q2 := hb.alloc hb.size (.cells (vc x Ai' ni' ci' Ap' np' cp' An' nn' cn' Ac' nc' cc' Al' nl' cl').toArray 34)
      go_wp2_with fail
      refine (HIH.out x HM.out _ _ (rep_in hrx (Below.alloc (Below.refl _ _) hb.size _) (by simp only [wsize_alloc]; have := hb.size; omega)) (hbig.part HM.out)).mono ?_
      rintro e w2 ⟨rfl, hb2⟩
      go_wp2_with fail
      go_roundw
      case rel => exact ⟨k + 1, by omega, by go_num, by rw [HX.out, HMM.out]; congr 1; omega, bth q2 hb2⟩
      case measure => simp [intOf]; omega
    · obtain rfl : k = np := by omega
      go_wp2_with fail
      go_ret
      exact ⟨ret_int (by rw [cellsV_eq, List.take_of_length_le (by rw [HPL.out]; omega)]), hb⟩
set_option maxRecDepth 100000 in
set_option maxHeartbeats 2000000 in
theorem l4Cells_any : ∀ (v : Vec) (cs : List Value) (w : World), rep w w.heap.size v.toD cs → bigV v →
    Calls Try.prog 73 #[av cs] w fun e w' => e = .returned (.int .i64 (cellsV v)) ∧ Below w.heap.size w w' := Vector_ind fun v ih => by
  intro cs w h hbig
  have hblen := hbig.len
  have hbc := hbig.cells
  rw [cellsV_eq] at hbc
  obtain ⟨Ai, ni, ci, Ap, np, cp, An, nn, cn, Ac, nc, cc, Al, nl, cl, rfl, hv⟩ := vec_open h
  have q0 := (Below.refl w.heap.size w).alloc (Nat.le_refl _) (.cells (vc v Ai ni ci Ap np cp An nn cn Ac nc cc Al nl cl).toArray 34)
  have hpl := hv.pab
  unfold maxLen at hpl
  have HPL := Lib.hid hpl.2.2
  have hpb : np ≤ 9223372036854775807 := by omega
  have HIH := Lib.hid ih
  clear ih hpl
  go_enter Try.func73, Try.ntmps73
  go_wp2_with fail
  refine (l4Len_any v _ _ (rep_next h q0) (by omega)).mono ?_
  rintro e w1 ⟨rfl, hb1⟩
  obtain ⟨hc1, _⟩ := bcell hb1
  simp only [wsize_alloc] at hc1
  have q1 := bth q0 hb1
  go_wp2_with fail
  have hkb := Blk.new_ w 34 (vc v Ai ni ci Ap np cp An nn cn Ac nc cc Al nl cl).toArray
  go_loopw [3, 4] (fun u i wr => ∃ k : Nat, k ≤ np ∧ i = .int .i64 k ∧ u = .int .i64 ((lenV v + cellsL (v.parts.take k) : Nat) : Int) ∧ Below (w.alloc (.cells (vc v Ai ni ci Ap np cp An nn cn Ac nc cc Al nl cl).toArray 34)).heap.size (w.alloc (.cells (vc v Ai ni ci Ap np cp An nn cn Ac nc cc Al nl cl).toArray 34)) wr) (fun _ i _ => np - (intOf i).toNat)
  case atStart => exact ⟨0, by omega, rfl, by simp [cellsL], hb1⟩
  case round =>
    obtain ⟨k, hk, rfl, rfl, hb0⟩ := hrel
    have hb := bth q0 hb0
    have hpc : wr.cell? ⟨w.heap.size, 2, none⟩ = some (.slice Ap np cp) := (hkb.below hb0 hkb.lt).cell 2
    by_cases hlt : k < np
    · obtain ⟨b, off, x, Ai', ni', ci', Ap', np', cp', An', nn', cn', Ac', nc', cc', Al', nl', cl', rfl, hbl, hx, hrx, hvx, c0, c1, c2, c3, c4, c5, c6, c7⟩ := parts_at (rep_below hv.pa hb) hlt
      have HX := Lib.hid (cellsL_snoc hx)
      have HM := Lib.hid (List.mem_of_getElem? hx)
      have hle := cellsL_le v.parts (k + 1)
      rw [HX.out] at hle
      clear hx
      obtain ⟨m, hm⟩ : ∃ m : Nat, m = lenV v + cellsL (v.parts.take k) := ⟨_, rfl⟩
      have hm2 : (m + cellsV x : Int) ≤ 3000000000000000 := by omega
      rw [← hm]
      have HMM := Lib.hid hm
      clear hm hle
      go_wp2_with fail
      refine (HIH.out x HM.out _ _ (rep_more hrx hb.size) (hbig.part HM.out)).mono ?_
      rintro e w2 ⟨rfl, hb2⟩
      go_wp2_with fail
      go_roundw
      case rel => exact ⟨k + 1, by omega, by go_num, by rw [HX.out, HMM.out]; congr 1; omega, bth hb0 hb2⟩
      case measure => simp [intOf]; omega
    · obtain rfl : k = np := by omega
      go_wp2_with fail
      go_ret
      exact ⟨ret_int (by rw [cellsV_eq, List.take_of_length_le (by rw [HPL.out]; omega)]; omega), hb⟩
set_option maxRecDepth 100000 in
set_option maxHeartbeats 2000000 in
theorem hasFunction_any : ∀ (v : Vec) (cs : List Value) (w : World), rep w w.heap.size v.toD cs →
    Calls Try.prog 33 #[av cs] w fun e w' => e = .returned (.bool (hasF v)) ∧ Below w.heap.size w w' := Vector_ind fun v ih => by
  intro cs w h
  have hHF := hasF_eq v
  rw [hasFL_any] at hHF
  have HHF := Lib.hid hHF
  clear hHF
  obtain ⟨Ai, ni, ci, Ap, np, cp, An, nn, cn, Ac, nc, cc, Al, nl, cl, rfl, hv⟩ := vec_open h
  have q0 := (Below.refl w.heap.size w).alloc (Nat.le_refl _) (.cells (vc v Ai ni ci Ap np cp An nn cn Ac nc cc Al nl cl).toArray 34)
  have hpl := hv.pab
  unfold maxLen at hpl
  have HPL := Lib.hid hpl.2.2
  have hpb : np ≤ 9223372036854775807 := by omega
  have HIH := Lib.hid ih
  clear ih hpl
  cases hk5 : (v.kind == 5) with
  | true =>
    go_enter Try.func33, Try.ntmps33
    go_wp2_with fail
    go_ret
    exact ⟨ret_bool (by rw [HHF.out, hk5]; rfl), q0⟩
  | false =>
  go_enter Try.func33, Try.ntmps33
  go_wp2_with fail
  go_loopw [11] (fun i wr => ∃ k : Nat, k ≤ np ∧ i = .int .i64 k ∧ (v.parts.take k).any hasF = false ∧ Below w.heap.size w wr) (fun i _ => np - (intOf i).toNat)
  case atStart => exact ⟨0, by omega, rfl, rfl, q0⟩
  case round =>
    obtain ⟨k, hk, rfl, hf, hb⟩ := hrel
    have HF := Lib.hid hf
    clear hf
    by_cases hlt : k < np
    · obtain ⟨b, off, x, Ai', ni', ci', Ap', np', cp', An', nn', cn', Ac', nc', cc', Al', nl', cl', rfl, hbl, hx, hrx, hvx, c0, c1, c2, c3, c4, c5, c6, c7⟩ := parts_at (rep_below hv.pa hb) hlt
      have HX := Lib.hid hx
      have HM := Lib.hid (List.mem_of_getElem? hx)
      clear hx
      have q2 := hb.alloc hb.size (.cells (vc x Ai' ni' ci' Ap' np' cp' An' nn' cn' Ac' nc' cc' Al' nl' cl').toArray 34)
      go_wp2_with fail
      refine (HIH.out x HM.out _ _ (rep_in hrx (Below.alloc (Below.refl _ _) hb.size _) (by simp only [wsize_alloc]; have := hb.size; omega))).mono ?_
      rintro e w2 ⟨rfl, hb2⟩
      cases hq : hasF x with
      | true =>
        go_wp2_with fail
        go_ret
        exact ⟨ret_bool (by rw [HHF.out, any_yes HX.out hq]; simp), bth q2 hb2⟩
      | false =>
        go_wp2_with fail
        go_roundw
        case rel => exact ⟨k + 1, by omega, by go_num, any_snoc HX.out HF.out hq, bth q2 hb2⟩
        case measure => simp [intOf]; omega
    · obtain rfl : k = np := by omega
      go_wp2_with fail
      go_ret
      exact ⟨ret_bool (by have := HF.out; rw [List.take_of_length_le (by rw [HPL.out]; omega)] at this; rw [HHF.out, this, hk5]; rfl), hb⟩
set_option maxRecDepth 100000 in
set_option maxHeartbeats 2000000 in
theorem l30HasFunction_any : ∀ (v : Vec) (cs : List Value) (w : World), rep w w.heap.size v.toD cs →
    Calls Try.prog 29 #[av cs] w fun e w' => e = .returned (.bool (hasF v)) ∧ Below w.heap.size w w' := Vector_ind fun v ih => by
  intro cs w h
  have hHF := hasF_eq v
  rw [hasFL_any] at hHF
  have HHF := Lib.hid hHF
  clear hHF
  obtain ⟨Ai, ni, ci, Ap, np, cp, An, nn, cn, Ac, nc, cc, Al, nl, cl, rfl, hv⟩ := vec_open h
  have q0 := (Below.refl w.heap.size w).alloc (Nat.le_refl _) (.cells (vc v Ai ni ci Ap np cp An nn cn Ac nc cc Al nl cl).toArray 34)
  have hkb := Blk.new_ w 34 (vc v Ai ni ci Ap np cp An nn cn Ac nc cc Al nl cl).toArray
  have hpl := hv.pab
  unfold maxLen at hpl
  have HPL := Lib.hid hpl.2.2
  have hpb : np ≤ 9223372036854775807 := by omega
  have HIH := Lib.hid ih
  clear ih hpl
  go_enter Try.func29, Try.ntmps29
  go_wp2_with fail
  go_loopw [3] (fun i wr => ∃ k : Nat, k ≤ np ∧ i = .int .i64 k ∧ (v.parts.take k).any hasF = false ∧ Below (w.alloc (.cells (vc v Ai ni ci Ap np cp An nn cn Ac nc cc Al nl cl).toArray 34)).heap.size (w.alloc (.cells (vc v Ai ni ci Ap np cp An nn cn Ac nc cc Al nl cl).toArray 34)) wr) (fun i _ => np - (intOf i).toNat)
  case atStart => exact ⟨0, by omega, rfl, rfl, Below.refl _ _⟩
  case round =>
    obtain ⟨k, hk, rfl, hf, hb0⟩ := hrel
    have HF := Lib.hid hf
    clear hf
    have hb := bth q0 hb0
    have hpc : wr.cell? ⟨w.heap.size, 2, none⟩ = some (.slice Ap np cp) := (hkb.below hb0 hkb.lt).cell 2
    have hpk : wr.cell? ⟨w.heap.size, 0, none⟩ = some (.int .i64 v.kind) := (hkb.below hb0 hkb.lt).cell 0
    by_cases hlt : k < np
    · obtain ⟨b, off, x, Ai', ni', ci', Ap', np', cp', An', nn', cn', Ac', nc', cc', Al', nl', cl', rfl, hbl, hx, hrx, hvx, c0, c1, c2, c3, c4, c5, c6, c7⟩ := parts_at (rep_below hv.pa hb) hlt
      have HX := Lib.hid hx
      have HM := Lib.hid (List.mem_of_getElem? hx)
      clear hx
      go_wp2_with fail
      refine (HIH.out x HM.out _ _ (rep_more hrx hb.size)).mono ?_
      rintro e w2 ⟨rfl, hb2⟩
      cases hq : hasF x with
      | true =>
        go_wp2_with fail
        go_ret
        exact ⟨ret_bool (by rw [HHF.out, any_yes HX.out hq]; simp), bth hb hb2⟩
      | false =>
        go_wp2_with fail
        go_roundw
        case rel => exact ⟨k + 1, by omega, by go_num, any_snoc HX.out HF.out hq, bth hb0 hb2⟩
        case measure => simp [intOf]; omega
    · obtain rfl : k = np := by omega
      go_wp2_with fail
      go_ret
      exact ⟨ret_bool (by have := HF.out; rw [List.take_of_length_le (by rw [HPL.out]; omega)] at this; rw [HHF.out, this, Bool.or_false]), hb⟩
end Go.Proofs.Ytekcpadlmfaihaa
