/- Cells of vectors; functions in them: what cells, hasFunction and their kin return. The shape and the depth of valid vectors, plainly. Items and labels as texts: what formatItem, formatLabel, joinTexts and their kin return. Vectors of texts: what TextVector returns for a few short texts. -/
import Derived.Test.YtekcpadlmfaihaaFnExactFormatHeapOpJag
import Derived.Deep.DeepCutAuto
import Derived.Test.YtekcpadlmfaihaaFnExactFormatHeapOpJaf
import Derived.Test.YtekcpadlmfaihaaFnExactFormatHeapOpJae
namespace Go.Proofs.Ytekcpadlmfaihaa
open Go.RowKit
mutual
def cellsV : Vec → Nat
  | ⟨k, i, p, n, c, l, cd, e⟩ => lenV ⟨k, i, p, n, c, l, cd, e⟩ + cellsL p
def cellsL : List Vec → Nat
  | [] => 0
  | v :: t => cellsV v + cellsL t
end
theorem cellsV_eq (v : Vec) : cellsV v = lenV v + cellsL v.parts := by cases v; rw [cellsV]
theorem cellsL_app (l l' : List Vec) : cellsL (l ++ l') = cellsL l + cellsL l' := by
  induction l with
  | nil => simp [cellsL]
  | cons a t ih => simp only [List.cons_append, cellsL, ih]; omega
theorem cellsL_snoc {l : List Vec} {k : Nat} {x : Vec} (h : l[k]? = some x) : cellsL (l.take (k + 1)) = cellsL (l.take k) + cellsV x := by
  rw [take_snoc' h, cellsL_app]; simp [cellsL]
theorem cellsL_le (l : List Vec) (k : Nat) : cellsL (l.take k) ≤ cellsL l := by
  have h : l = l.take k ++ l.drop k := by rw [List.take_append_drop]
  conv => rhs; rw [h]
  rw [cellsL_app]; omega
mutual
def hasF : Vec → Bool
  | ⟨k, _, p, _, _, _, _, _⟩ => (k == 5) || hasFL p
def hasFL : List Vec → Bool
  | [] => false
  | v :: t => hasF v || hasFL t
end
theorem hasF_eq (v : Vec) : hasF v = ((v.kind == 5) || hasFL v.parts) := by cases v; rw [hasF]
theorem hasFL_any (l : List Vec) : hasFL l = l.any hasF := by
  induction l with
  | nil => rw [hasFL]; rfl
  | cons a t ih => rw [hasFL, ih]; rfl
theorem any_snoc {α : Type} {p : α → Bool} {l : List α} {k : Nat} {x : α} (h : l[k]? = some x) (ha : (l.take k).any p = false) (hb : p x = false) : (l.take (k + 1)).any p = false := by
  rw [take_snoc' h, List.any_append, ha]; simp [hb]
theorem any_yes {α : Type} {p : α → Bool} {l : List α} {k : Nat} {x : α} (h : l[k]? = some x) (hb : p x = true) : l.any p = true := List.any_eq_true.2 ⟨x, List.mem_of_getElem? h, hb⟩
theorem cellsL_sz (l : List Vec) (h : ∀ x ∈ l, cellsV x ≤ 2 * szD x.toD + 1) : cellsL l ≤ 2 * szDs (l.map Vec.toD) + l.length := by
  induction l with
  | nil => simp [cellsL]
  | cons a t ih =>
    have h1 := ih (fun x hx => h x (List.mem_cons_of_mem _ hx))
    have h2 := h a List.mem_cons_self
    simp only [cellsL, List.map_cons, szDs, List.length_cons]
    omega
theorem vsz (v : Vec) : v.items.length + v.parts.length + szDs (v.parts.map Vec.toD) ≤ szD v.toD := by
  rw [Vector_sz, szD, szD, List.length_map, List.length_map]; omega
theorem cellsV_sz : ∀ v : Vec, cellsV v ≤ 2 * szD v.toD + 1 := Vector_ind fun v ih => by
  have h1 := cellsL_sz v.parts ih
  have h2 := lenV_le v
  have h3 := vsz v
  rw [cellsV_eq]; omega
theorem vsz_part {v x : Vec} (h : x ∈ v.parts) : szD x.toD ≤ szD v.toD := by
  have h1 := szDs_mem (List.mem_map_of_mem (f := Vec.toD) h)
  have h2 := vsz v
  omega
def bigV (v : Vec) : Prop := (szD v.toD : Int) ≤ 1000000000000000
theorem bigV.part {v x : Vec} (h : bigV v) (hx : x ∈ v.parts) : bigV x := by unfold bigV at h ⊢; have := vsz_part hx; omega
theorem bigV.len {v : Vec} (h : bigV v) : ((v.items.length + v.parts.length : Nat) : Int) ≤ 1000000000000000 := by unfold bigV at h; have := vsz v; omega
theorem bigV.cells {v : Vec} (h : bigV v) : (cellsV v : Int) ≤ 3000000000000000 := by unfold bigV at h; have := cellsV_sz v; omega
set_option maxRecDepth 100000 in
set_option maxHeartbeats 2000000 in
theorem cells_any : ∀ (v : Vec) (cs : List Value) (w : World), rep w w.heap.size v.toD cs → bigV v →
    Calls Try.prog 78 #[av cs] w fun e w' => e = .returned (.int .i64 (cellsV v)) ∧ Below w.heap.size w w' := Vector_ind fun v ih => by
  intro cs w h hbig
  have hblen := hbig.len
  have hbc := hbig.cells
  rw [cellsV_eq] at hbc
  obtain ⟨Ai, ni, ci, Ap, np, cp, An, nn, cn, Ac, nc, cc, Al, nl, cl, rfl, hv⟩ := vec_open h
  have q0 := (Below.refl w.heap.size w).alloc (Nat.le_refl _) (.cells (vc v Ai ni ci Ap np cp An nn cn Ac nc cc Al nl cl).toArray 34)
  have hpl := hv.pab
  unfold maxLen at hpl
  have HPL := Lib.hid hpl.2.2
  have hpb : np ≤ 9223372036854775807 := by omega
  have HIH := Lib.hid ih
  clear ih hpl
  go_enter Try.func78, Try.ntmps78
  go_wp2_with fail
  refine (length_any v _ _ (rep_next h q0) (by omega)).mono ?_
  rintro e w1 ⟨rfl, hb1⟩
  obtain ⟨hc1, _⟩ := bcell hb1
  simp only [wsize_alloc] at hc1
  have q1 := bth q0 hb1
  go_wp2_with fail
  have hbp : Below (w.alloc (.cells (vc v Ai ni ci Ap np cp An nn cn Ac nc cc Al nl cl).toArray 34)).heap.size (w.alloc (.cells (vc v Ai ni ci Ap np cp An nn cn Ac nc cc Al nl cl).toArray 34)) w1 := hb1
  go_loopw [3, 11] (fun u i wr => ∃ k : Nat, k ≤ np ∧ i = .int .i64 k ∧ u = .int .i64 ((lenV v + cellsL (v.parts.take k) : Nat) : Int) ∧ Below w.heap.size w wr) (fun _ i _ => np - (intOf i).toNat)
  case atStart => exact ⟨0, by omega, rfl, by simp [cellsL], q1⟩
  case round =>
    obtain ⟨k, hk, rfl, rfl, hb⟩ := hrel
    by_cases hlt : k < np
    · obtain ⟨b, off, x, Ai', ni', ci', Ap', np', cp', An', nn', cn', Ac', nc', cc', Al', nl', cl', rfl, hbl, hx, hrx, hvx, c0, c1, c2, c3, c4, c5, c6, c7⟩ := parts_at (rep_below hv.pa hb) hlt
      have HX := Lib.hid (cellsL_snoc hx)
      have HM := Lib.hid (List.mem_of_getElem? hx)
      have hle := cellsL_le v.parts (k + 1)
      rw [HX.out] at hle
      clear hx
      obtain ⟨m, hm⟩ : ∃ m : Nat, m = lenV v + cellsL (v.parts.take k) := ⟨_, rfl⟩
      have hm2 : (m + cellsV x : Int) ≤ 3000000000000000 := by omega
      rw [← hm]
      have HMM := Lib.hid hm
      clear hm hle
      have q2 := hb.alloc hb.size (.cells (vc x Ai' ni' ci' Ap' np' cp' An' nn' cn' Ac' nc' cc' Al' nl' cl').toArray 34)
      go_wp2_with fail
      refine (HIH.out x HM.out _ _ (rep_in hrx (Below.alloc (Below.refl _ _) hb.size _) (by simp only [wsize_alloc]; have := hb.size; omega)) (hbig.part HM.out)).mono ?_
      rintro e w2 ⟨rfl, hb2⟩
      go_wp2_with fail
      go_roundw
      case rel => exact ⟨k + 1, by omega, by go_num, by rw [HX.out, HMM.out]; congr 1; omega, bth q2 hb2⟩
      case measure => simp [intOf]; omega
    · obtain rfl : k = np := by omega
      go_wp2_with fail
      go_ret
      exact ⟨ret_int (by rw [cellsV_eq, List.take_of_length_le (by rw [HPL.out]; omega)]), hb⟩
set_option maxRecDepth 100000 in
set_option maxHeartbeats 2000000 in
theorem l4Cells_any : ∀ (v : Vec) (cs : List Value) (w : World), rep w w.heap.size v.toD cs → bigV v →
    Calls Try.prog 73 #[av cs] w fun e w' => e = .returned (.int .i64 (cellsV v)) ∧ Below w.heap.size w w' := Vector_ind fun v ih => by
  intro cs w h hbig
  have hblen := hbig.len
  have hbc := hbig.cells
  rw [cellsV_eq] at hbc
  obtain ⟨Ai, ni, ci, Ap, np, cp, An, nn, cn, Ac, nc, cc, Al, nl, cl, rfl, hv⟩ := vec_open h
  have q0 := (Below.refl w.heap.size w).alloc (Nat.le_refl _) (.cells (vc v Ai ni ci Ap np cp An nn cn Ac nc cc Al nl cl).toArray 34)
  have hpl := hv.pab
  unfold maxLen at hpl
  have HPL := Lib.hid hpl.2.2
  have hpb : np ≤ 9223372036854775807 := by omega
  have HIH := Lib.hid ih
  clear ih hpl
  go_enter Try.func73, Try.ntmps73
  go_wp2_with fail
  refine (l4Len_any v _ _ (rep_next h q0) (by omega)).mono ?_
  rintro e w1 ⟨rfl, hb1⟩
  obtain ⟨hc1, _⟩ := bcell hb1
  simp only [wsize_alloc] at hc1
  have q1 := bth q0 hb1
  go_wp2_with fail
  have hkb := Blk.new_ w 34 (vc v Ai ni ci Ap np cp An nn cn Ac nc cc Al nl cl).toArray
  go_loopw [3, 4] (fun u i wr => ∃ k : Nat, k ≤ np ∧ i = .int .i64 k ∧ u = .int .i64 ((lenV v + cellsL (v.parts.take k) : Nat) : Int) ∧ Below (w.alloc (.cells (vc v Ai ni ci Ap np cp An nn cn Ac nc cc Al nl cl).toArray 34)).heap.size (w.alloc (.cells (vc v Ai ni ci Ap np cp An nn cn Ac nc cc Al nl cl).toArray 34)) wr) (fun _ i _ => np - (intOf i).toNat)
  case atStart => exact ⟨0, by omega, rfl, by simp [cellsL], hb1⟩
  case round =>
    obtain ⟨k, hk, rfl, rfl, hb0⟩ := hrel
    have hb := bth q0 hb0
    have hpc : wr.cell? ⟨w.heap.size, 2, none⟩ = some (.slice Ap np cp) := (hkb.below hb0 hkb.lt).cell 2
    by_cases hlt : k < np
    · obtain ⟨b, off, x, Ai', ni', ci', Ap', np', cp', An', nn', cn', Ac', nc', cc', Al', nl', cl', rfl, hbl, hx, hrx, hvx, c0, c1, c2, c3, c4, c5, c6, c7⟩ := parts_at (rep_below hv.pa hb) hlt
      have HX := Lib.hid (cellsL_snoc hx)
      have HM := Lib.hid (List.mem_of_getElem? hx)
      have hle := cellsL_le v.parts (k + 1)
      rw [HX.out] at hle
      clear hx
      obtain ⟨m, hm⟩ : ∃ m : Nat, m = lenV v + cellsL (v.parts.take k) := ⟨_, rfl⟩
      have hm2 : (m + cellsV x : Int) ≤ 3000000000000000 := by omega
      rw [← hm]
      have HMM := Lib.hid hm
      clear hm hle
      go_wp2_with fail
      refine (HIH.out x HM.out _ _ (rep_more hrx hb.size) (hbig.part HM.out)).mono ?_
      rintro e w2 ⟨rfl, hb2⟩
      go_wp2_with fail
      go_roundw
      case rel => exact ⟨k + 1, by omega, by go_num, by rw [HX.out, HMM.out]; congr 1; omega, bth hb0 hb2⟩
      case measure => simp [intOf]; omega
    · obtain rfl : k = np := by omega
      go_wp2_with fail
      go_ret
      exact ⟨ret_int (by rw [cellsV_eq, List.take_of_length_le (by rw [HPL.out]; omega)]; omega), hb⟩
set_option maxRecDepth 100000 in
set_option maxHeartbeats 2000000 in
theorem hasFunction_any : ∀ (v : Vec) (cs : List Value) (w : World), rep w w.heap.size v.toD cs →
    Calls Try.prog 33 #[av cs] w fun e w' => e = .returned (.bool (hasF v)) ∧ Below w.heap.size w w' := Vector_ind fun v ih => by
  intro cs w h
  have hHF := hasF_eq v
  rw [hasFL_any] at hHF
  have HHF := Lib.hid hHF
  clear hHF
  obtain ⟨Ai, ni, ci, Ap, np, cp, An, nn, cn, Ac, nc, cc, Al, nl, cl, rfl, hv⟩ := vec_open h
  have q0 := (Below.refl w.heap.size w).alloc (Nat.le_refl _) (.cells (vc v Ai ni ci Ap np cp An nn cn Ac nc cc Al nl cl).toArray 34)
  have hpl := hv.pab
  unfold maxLen at hpl
  have HPL := Lib.hid hpl.2.2
  have hpb : np ≤ 9223372036854775807 := by omega
  have HIH := Lib.hid ih
  clear ih hpl
  cases hk5 : (v.kind == 5) with
  | true =>
    go_enter Try.func33, Try.ntmps33
    go_wp2_with fail
    go_ret
    exact ⟨ret_bool (by rw [HHF.out, hk5]; rfl), q0⟩
  | false =>
  go_enter Try.func33, Try.ntmps33
  go_wp2_with fail
  go_loopw [11] (fun i wr => ∃ k : Nat, k ≤ np ∧ i = .int .i64 k ∧ (v.parts.take k).any hasF = false ∧ Below w.heap.size w wr) (fun i _ => np - (intOf i).toNat)
  case atStart => exact ⟨0, by omega, rfl, rfl, q0⟩
  case round =>
    obtain ⟨k, hk, rfl, hf, hb⟩ := hrel
    have HF := Lib.hid hf
    clear hf
    by_cases hlt : k < np
    · obtain ⟨b, off, x, Ai', ni', ci', Ap', np', cp', An', nn', cn', Ac', nc', cc', Al', nl', cl', rfl, hbl, hx, hrx, hvx, c0, c1, c2, c3, c4, c5, c6, c7⟩ := parts_at (rep_below hv.pa hb) hlt
      have HX := Lib.hid hx
      have HM := Lib.hid (List.mem_of_getElem? hx)
      clear hx
      have q2 := hb.alloc hb.size (.cells (vc x Ai' ni' ci' Ap' np' cp' An' nn' cn' Ac' nc' cc' Al' nl' cl').toArray 34)
      go_wp2_with fail
      refine (HIH.out x HM.out _ _ (rep_in hrx (Below.alloc (Below.refl _ _) hb.size _) (by simp only [wsize_alloc]; have := hb.size; omega))).mono ?_
      rintro e w2 ⟨rfl, hb2⟩
      cases hq : hasF x with
      | true =>
        go_wp2_with fail
        go_ret
        exact ⟨ret_bool (by rw [HHF.out, any_yes HX.out hq]; simp), bth q2 hb2⟩
      | false =>
        go_wp2_with fail
        go_roundw
        case rel => exact ⟨k + 1, by omega, by go_num, any_snoc HX.out HF.out hq, bth q2 hb2⟩
        case measure => simp [intOf]; omega
    · obtain rfl : k = np := by omega
      go_wp2_with fail
      go_ret
      exact ⟨ret_bool (by have := HF.out; rw [List.take_of_length_le (by rw [HPL.out]; omega)] at this; rw [HHF.out, this, hk5]; rfl), hb⟩
set_option maxRecDepth 100000 in
set_option maxHeartbeats 2000000 in
theorem l30HasFunction_any : ∀ (v : Vec) (cs : List Value) (w : World), rep w w.heap.size v.toD cs →
    Calls Try.prog 29 #[av cs] w fun e w' => e = .returned (.bool (hasF v)) ∧ Below w.heap.size w w' := Vector_ind fun v ih => by
  intro cs w h
  have hHF := hasF_eq v
  rw [hasFL_any] at hHF
  have HHF := Lib.hid hHF
  clear hHF
  obtain ⟨Ai, ni, ci, Ap, np, cp, An, nn, cn, Ac, nc, cc, Al, nl, cl, rfl, hv⟩ := vec_open h
  have q0 := (Below.refl w.heap.size w).alloc (Nat.le_refl _) (.cells (vc v Ai ni ci Ap np cp An nn cn Ac nc cc Al nl cl).toArray 34)
  have hkb := Blk.new_ w 34 (vc v Ai ni ci Ap np cp An nn cn Ac nc cc Al nl cl).toArray
  have hpl := hv.pab
  unfold maxLen at hpl
  have HPL := Lib.hid hpl.2.2
  have hpb : np ≤ 9223372036854775807 := by omega
  have HIH := Lib.hid ih
  clear ih hpl
  go_enter Try.func29, Try.ntmps29
  go_wp2_with fail
  go_loopw [3] (fun i wr => ∃ k : Nat, k ≤ np ∧ i = .int .i64 k ∧ (v.parts.take k).any hasF = false ∧ Below (w.alloc (.cells (vc v Ai ni ci Ap np cp An nn cn Ac nc cc Al nl cl).toArray 34)).heap.size (w.alloc (.cells (vc v Ai ni ci Ap np cp An nn cn Ac nc cc Al nl cl).toArray 34)) wr) (fun i _ => np - (intOf i).toNat)
  case atStart => exact ⟨0, by omega, rfl, rfl, Below.refl _ _⟩
  case round =>
    obtain ⟨k, hk, rfl, hf, hb0⟩ := hrel
    have HF := Lib.hid hf
    clear hf
    have hb := bth q0 hb0
    have hpc : wr.cell? ⟨w.heap.size, 2, none⟩ = some (.slice Ap np cp) := (hkb.below hb0 hkb.lt).cell 2
    have hpk : wr.cell? ⟨w.heap.size, 0, none⟩ = some (.int .i64 v.kind) := (hkb.below hb0 hkb.lt).cell 0
    by_cases hlt : k < np
    · obtain ⟨b, off, x, Ai', ni', ci', Ap', np', cp', An', nn', cn', Ac', nc', cc', Al', nl', cl', rfl, hbl, hx, hrx, hvx, c0, c1, c2, c3, c4, c5, c6, c7⟩ := parts_at (rep_below hv.pa hb) hlt
      have HX := Lib.hid hx
      have HM := Lib.hid (List.mem_of_getElem? hx)
      clear hx
      go_wp2_with fail
      refine (HIH.out x HM.out _ _ (rep_more hrx hb.size)).mono ?_
      rintro e w2 ⟨rfl, hb2⟩
      cases hq : hasF x with
      | true =>
        go_wp2_with fail
        go_ret
        exact ⟨ret_bool (by rw [HHF.out, any_yes HX.out hq]; simp), bth hb hb2⟩
      | false =>
        go_wp2_with fail
        go_roundw
        case rel => exact ⟨k + 1, by omega, by go_num, any_snoc HX.out HF.out hq, bth hb0 hb2⟩
        case measure => simp [intOf]; omega
    · obtain rfl : k = np := by omega
      go_wp2_with fail
      go_ret
      exact ⟨ret_bool (by have := HF.out; rw [List.take_of_length_le (by rw [HPL.out]; omega)] at this; rw [HHF.out, this, Bool.or_false]), hb⟩
end Go.Proofs.Ytekcpadlmfaihaa
namespace Go.Proofs.Ytekcpadlmfaihaa
open Go.RowKit
theorem zdec (n : Nat) : decide ((0 : Int) < (n : Int)) = decide (0 < n) := by rw [decide_eq_decide]; omega
def shP (kind code env : Int) (ni np nn nc nl : Nat) : Prop :=
  (0 < nl → kind = 2) ∧ (0 < np → kind = 4) ∧ (kind ≠ 5 → code = 0 ∧ env = 0) ∧ (kind = 5 → ni = 0 ∧ nn = 0 ∧ -999 ≤ code ∧ code ≤ 99999 ∧ 0 ≤ env ∧ env ≤ 99999) ∧ (kind = 0 → ni = 0 ∧ nc = 0)
instance (kind code env : Int) (ni np nn nc nl : Nat) : Decidable (shP kind code env ni np nn nc nl) := by unfold shP; infer_instance
def itL (v : Vec) (x : Item) : Bool := itemOK v.kind x && (decide (v.levels.length = 0) || isMiss x || decide (x.den = 1 ∧ 1 ≤ x.num ∧ x.num ≤ v.levels.length))
def shI (v : Vec) (x : Item) : Bool := atomK v.kind && itL v x
def shA (v : Vec) : Bool := decide (0 ≤ v.kind ∧ v.kind ≤ 5 ∧ lenV v ≤ 40) && labV v.cls 3 && labV v.levels 20
def shN (v : Vec) : Bool := (decide (v.names.length = 0) || (decide (v.names.length = lenV v) && !allE v.names)) && v.names.all (fun s => decide (s.length ≤ 60))
def shC (v : Vec) : Bool := decide (shP v.kind v.code v.env v.items.length v.parts.length v.names.length v.cls.length v.levels.length)
def shapeOK (v : Vec) : Bool := shA v && shN v && shC v && v.items.all (shI v)
theorem shNo {v : Vec} (h : shA v = false ∨ shN v = false ∨ shC v = false ∨ v.items.all (shI v) = false) : shapeOK v = false := by
  unfold shapeOK
  rcases h with h | h | h | h <;> rw [h] <;> simp
mutual
def partsOK : Vec → Bool
  | ⟨k, i, p, n, c, l, cd, e⟩ => shapeOK ⟨k, i, p, n, c, l, cd, e⟩ && partsOKL p
def partsOKL : List Vec → Bool
  | [] => true
  | v :: t => partsOK v && partsOKL t
end
theorem partsOK_eq (v : Vec) : partsOK v = (shapeOK v && v.parts.all partsOK) := by
  have h : ∀ l, partsOKL l = l.all partsOK := by
    intro l
    induction l with
    | nil => rw [partsOKL]; rfl
    | cons a t ih => rw [partsOKL, ih]; rfl
  cases v; rw [partsOK, h]
def okD : Nat → Vec → Bool
  | 0, v => shapeOK v && v.parts.isEmpty
  | d + 1, v => shapeOK v && v.parts.all (okD d)
theorem foldl_max_iff {α : Type} (f : α → Nat) (l : List α) (o M : Nat) : l.foldl (fun o p => max o (f p)) o ≤ M ↔ o ≤ M ∧ ∀ x ∈ l, f x ≤ M := by
  induction l generalizing o with
  | nil => simp
  | cons a t ih =>
    rw [List.foldl_cons, ih]
    simp only [List.mem_cons, forall_eq_or_imp]
    constructor
    · rintro ⟨h1, h2⟩; exact ⟨by omega, by omega, h2⟩
    · rintro ⟨h1, h2, h3⟩; exact ⟨by omega, h3⟩
theorem okD_eq (d : Nat) (v : Vec) : okD d v = (decide (nestV (d + 1) v ≤ d) && partsOK v) := by
  induction d generalizing v with
  | zero =>
    rw [okD, partsOK_eq, nestV]
    cases hp : v.parts with
    | nil => simp
    | cons a t =>
      have : ¬ (a :: t).foldl (fun o p => max o (1 + nestV 0 p)) 0 ≤ 0 := by
        rw [foldl_max_iff (fun p => 1 + nestV 0 p)]
        intro h
        have := h.2 a List.mem_cons_self
        omega
      rw [decide_eq_false this]; simp
  | succ d ih =>
    rw [okD, partsOK_eq, nestV]
    have h1 : v.parts.all (okD d) = (decide (v.parts.foldl (fun o p => max o (1 + nestV (d + 1) p)) 0 ≤ d + 1) && v.parts.all partsOK) := by
      rw [Bool.eq_iff_iff, List.all_eq_true, Bool.and_eq_true, decide_eq_true_iff, foldl_max_iff (fun p => 1 + nestV (d + 1) p), List.all_eq_true]
      constructor
      · intro h
        refine ⟨⟨by omega, fun x hx => ?_⟩, fun x hx => ?_⟩
        · have := h x hx; rw [ih, Bool.and_eq_true, decide_eq_true_iff] at this; omega
        · have := h x hx; rw [ih, Bool.and_eq_true] at this; exact this.2
      · rintro ⟨⟨_, h2⟩, h3⟩ x hx
        rw [ih, Bool.and_eq_true, decide_eq_true_iff]
        exact ⟨by have := h2 x hx; omega, h3 x hx⟩
    rw [h1]
    cases shapeOK v <;> cases (decide (v.parts.foldl (fun o p => max o (1 + nestV (d + 1) p)) 0 ≤ d + 1)) <;> simp
def isVec (v : Vec) : Bool := okD 3 v && decide (cellsV v ≤ 200)
theorem shN_eq (v : Vec) : shN v = ((decide (v.names.length = 0) || decide (v.names.length = lenV v)) && named v.names) := by
  unfold shN named
  cases hn : v.names with
  | nil => simp
  | cons a t =>
    have h0 : decide ((a :: t).length = 0) = false := by simp
    rw [h0]
    cases decide ((a :: t).length = lenV v) <;> cases allE (a :: t) <;> cases (a :: t).all (fun s => decide (s.length ≤ 60)) <;> rfl
def okL (d : Nat) (v : Vec) : Bool := match d with
  | 0 => v.parts.isEmpty
  | d + 1 => v.parts.all (okD d)
theorem okD_split (d : Nat) (v : Vec) : okD d v = (shA v && shN v && shC v && v.items.all (shI v) && okL d v) := by
  cases d <;> rw [okD, shapeOK] <;> rfl
theorem den_ne {kind : Int} {x : Item} (h : itemOK kind x = true) : isMiss x = decide (x.den = 0) := by
  cases hm : isMiss x with
  | true =>
    obtain rfl : x = ⟨0, 0, []⟩ := by simpa [isMiss] using hm
    rfl
  | false =>
    rw [itemOK, hm, Bool.false_or] at h
    rw [eq_comm, decide_eq_false_iff_not]
    split at h
    · simp at h; omega
    · split at h
      · simp [isNum] at h; omega
      · split at h
        · simp at h; omega
        · cases h
theorem okNo {d : Nat} {v : Vec} (h : shA v = false ∨ shN v = false ∨ shC v = false ∨ v.items.all (shI v) = false ∨ okL d v = false) : okD d v = false := by
  rw [okD_split]
  rcases h with h | h | h | h | h <;> rw [h] <;> simp
end Go.Proofs.Ytekcpadlmfaihaa
namespace Go.Proofs.Ytekcpadlmfaihaa
open Go.RowKit
def nam (l : List Str) (k : Nat) : Str := (l[k]?).getD []
def lbl (s : Str) : Str := if s = [] then [] else if isNm s then fmtN s ++ [32, 61, 32] else quo s ++ [32, 61, 32]
def shw (kind : Int) (x : Item) : Str :=
  if kind = 1 then (if isMiss x then [78, 65] else if x.num = 1 then [84, 82, 85, 69] else [70, 65, 76, 83, 69])
  else if kind = 2 then (if isMiss x then [78, 65, 95, 110, 117, 109, 98, 101, 114, 95] else fmtNum x)
  else (if isMiss x then [78, 65, 95, 99, 104, 97, 114, 97, 99, 116, 101, 114, 95] else quo x.text)
theorem quo_len (s : Str) : (quo s).length ≤ 4 * s.length + 2 := by
  unfold quo
  have : (s.flatMap qB).length ≤ 4 * s.length := by
    induction s with
    | nil => simp
    | cons a t ih => rw [List.flatMap_cons, List.length_append, List.length_cons]; have := qB_len a; omega
  simp only [List.length_cons, List.length_append, List.length_nil]; omega
theorem fmtN_len (s : Str) : (fmtN s).length ≤ s.length + 2 := by
  unfold fmtN; split
  · omega
  · split
    · simp
    · simp
set_option maxHeartbeats 1000000 in
theorem nameAt_any (v : Vec) (cs : List Value) (k : Nat) (w : World) (h : rep w w.heap.size v.toD cs) :
    Calls Try.prog 127 #[av cs, .int .i64 k] w fun e w' => e = .returned (sv (nam v.names k)) ∧ Below w.heap.size w w' := by
  obtain ⟨Ai, ni, ci, Ap, np, cp, An, nn, cn, Ac, nc, cc, Al, nl, cl, rfl, hv⟩ := vec_open h
  have q0 := (Below.refl w.heap.size w).alloc (Nat.le_refl _) (.cells (vc v Ai ni ci Ap np cp An nn cn Ac nc cc Al nl cl).toArray 34)
  have hl := hv.na.len
  by_cases hk : k < nn
  · obtain ⟨b, off, x, rfl, hb, hx, hc⟩ := hv.na.at_ hk
    have h0 := hc 0 _ rfl
    have hki : (k : Int) < nn := by omega
    have HN := Lib.hid (show nam v.names k = x by rw [nam, hx]; rfl)
    simp only [Nat.mul_one, Nat.add_zero] at h0
    clear hc hx hl
    go_enter Try.func127, Try.ntmps127
    go_wp2_with fail
    go_ret
    exact ⟨ret_str HN.out.symm, q0⟩
  · have HN := Lib.hid (show nam v.names k = [] by rw [nam, List.getElem?_eq_none (by omega)]; rfl)
    have hki : ¬ (k : Int) < nn := by omega
    clear hl
    go_enter Try.func127, Try.ntmps127
    go_wp2_with fail
    go_ret
    exact ⟨ret_str HN.out.symm, q0⟩
set_option maxHeartbeats 1000000 in
theorem formatLabel_any (s : Str) (w : World) (hs : (s.length : Int) ≤ 1000000) :
    Calls Try.prog 126 #[sv s] w fun e w' => e = .returned (sv (lbl s)) ∧ Below w.heap.size w w' := by
  have hm : s.length ≤ maxLen := by unfold maxLen; omega
  have HF := Lib.hid (show lbl s = if s = [] then [] else if isNm s then fmtN s ++ [32, 61, 32] else quo s ++ [32, 61, 32] from rfl)
  have l1 := quo_len s
  have l2 := fmtN_len s
  cases he : s.isEmpty with
  | true =>
    have H0 := Lib.hid (show s = [] by simpa using he)
    go_enter Try.func126, Try.ntmps126
    go_wp2_with fail
    go_ret
    exact ⟨ret_str (by rw [HF.out, if_pos H0.out]), Below.refl _ _⟩
  | false =>
    have H0 := Lib.hid (show ¬ s = [] by simpa using he)
    go_enter Try.func126, Try.ntmps126
    go_wp2_with fail
    refine (implIsName_any s _ hm).mono ?_
    rintro e w1 ⟨rfl, rfl⟩
    cases hN : isNm s with
    | true =>
      have HN := Lib.hid hN
      go_wp2_with fail
      refine (implFormatName_any s _ hm).mono ?_
      rintro e w1 ⟨rfl, rfl⟩
      go_wp2_with fail
      go_ret
      exact ⟨ret_str (by rw [HF.out, if_neg H0.out, HN.out, if_pos rfl]), Below.refl _ _⟩
    | false =>
      have HN := Lib.hid hN
      go_wp2_with fail
      refine (implQuote_any s _ (by omega)).mono ?_
      rintro e w1 ⟨rfl, hb1⟩
      go_wp2_with fail
      go_ret
      exact ⟨ret_str (by rw [HF.out, if_neg H0.out, HN.out, if_neg (by simp)]), hb1⟩
set_option maxHeartbeats 1000000 in
theorem l4Label_any (s : Str) (w : World) (hs : (s.length : Int) ≤ 1000000) :
    Calls Try.prog 108 #[sv s] w fun e w' => e = .returned (sv (lbl s)) ∧ Below w.heap.size w w' := by
  have hm : s.length ≤ maxLen := by unfold maxLen; omega
  have HF := Lib.hid (show lbl s = if s = [] then [] else if isNm s then fmtN s ++ [32, 61, 32] else quo s ++ [32, 61, 32] from rfl)
  have l1 := quo_len s
  have l2 := fmtN_len s
  cases he : s.isEmpty with
  | true =>
    have H0 := Lib.hid (show s = [] by simpa using he)
    go_enter Try.func108, Try.ntmps108
    go_wp2_with fail
    go_ret
    exact ⟨ret_str (by rw [HF.out, if_pos H0.out]), Below.refl _ _⟩
  | false =>
    have H0 := Lib.hid (show ¬ s = [] by simpa using he)
    go_enter Try.func108, Try.ntmps108
    go_wp2_with fail
    refine (specIsName_any s _ hm).mono ?_
    rintro e w1 ⟨rfl, rfl⟩
    cases hN : isNm s with
    | true =>
      have HN := Lib.hid hN
      go_wp2_with fail
      refine (specFormatName_any s _ hm).mono ?_
      rintro e w1 ⟨rfl, hb1⟩
      go_wp2_with fail
      go_ret
      exact ⟨ret_str (by rw [HF.out, if_neg H0.out, HN.out, if_pos rfl]), hb1⟩
    | false =>
      have HN := Lib.hid hN
      go_wp2_with fail
      refine (specQuote_any s _ (by omega)).mono ?_
      rintro e w1 ⟨rfl, rfl⟩
      go_wp2_with fail
      go_ret
      exact ⟨ret_str (by rw [HF.out, if_neg H0.out, HN.out, if_neg (by simp)]), Below.refl _ _⟩
theorem isMissing_it (x : Item) (w : World) (v : Value) (hv : v = itv x) : Calls Try.prog 120 #[v] w fun e w' => e = .returned (.bool (isMiss x)) ∧ Below w.heap.size w w' := by subst hv; exact isMissing_any x w
set_option maxRecDepth 100000 in
set_option maxHeartbeats 2000000 in
theorem formatItem_any (kind : Int) (x : Item) (w : World) (hx : (x.text.length : Int) ≤ 1000000) :
    Calls Try.prog 125 #[.int .i64 kind, itv x] w fun e w' => e = .returned (sv (shw kind x)) ∧ Below w.heap.size w w' := by
  have q0 := (Below.refl w.heap.size w).alloc (Nat.le_refl _) (.cells #[.int .i64 x.num, .int .i64 x.den, sv x.text] 101)
  have HF := Lib.hid (show shw kind x = if kind = 1 then (if isMiss x then [78, 65] else if x.num = 1 then [84, 82, 85, 69] else [70, 65, 76, 83, 69])
    else if kind = 2 then (if isMiss x then [78, 65, 95, 110, 117, 109, 98, 101, 114, 95] else fmtNum x)
    else (if isMiss x then [78, 65, 95, 99, 104, 97, 114, 97, 99, 116, 101, 114, 95] else quo x.text) from rfl)
  cases k1 : (kind == 1) with
  | true =>
    have K1 := Lib.hid (of_beq k1)
    go_enter Try.func125, Try.ntmps125
    go_wp2_with fail
    refine (isMissing_it x _ _ rfl).mono ?_
    rintro e w1 ⟨rfl, hb1⟩
    obtain ⟨hc1, hf1⟩ := bcell hb1
    simp only [wsize_alloc] at hc1 hf1
    cases hm : isMiss x with
    | true =>
      have HM := Lib.hid hm
      go_wp2_with fail
      go_ret
      exact ⟨ret_str (by rw [HF.out, if_pos K1.out, HM.out]; rfl), bth q0 hb1⟩
    | false =>
      have HM := Lib.hid hm
      cases hn : (x.num == 1) with
      | true =>
        have HN := Lib.hid (of_beq hn)
        go_wp2_with fail
        go_ret
        exact ⟨ret_str (by rw [HF.out, if_pos K1.out, HM.out, if_neg (by simp), if_pos HN.out]), bth q0 hb1⟩
      | false =>
        have HN := Lib.hid (of_nbeq hn)
        go_wp2_with fail
        go_ret
        exact ⟨ret_str (by rw [HF.out, if_pos K1.out, HM.out, if_neg (by simp), if_neg HN.out]), bth q0 hb1⟩
  | false =>
    have K1 := Lib.hid (of_nbeq k1)
    cases k2 : (kind == 2) with
    | true =>
      have K2 := Lib.hid (of_beq k2)
      go_enter Try.func125, Try.ntmps125
      go_wp2_with fail
      refine (isMissing_it x _ _ rfl).mono ?_
      rintro e w1 ⟨rfl, hb1⟩
      obtain ⟨hc1, hf1⟩ := bcell hb1
      simp only [wsize_alloc] at hc1 hf1
      cases hm : isMiss x with
      | true =>
        have HM := Lib.hid hm
        go_wp2_with fail
        go_ret
        exact ⟨ret_str (by rw [HF.out, if_neg K1.out, if_pos K2.out, HM.out]; rfl), bth q0 hb1⟩
      | false =>
        have HM := Lib.hid hm
        go_wp2_with fail
        refine (implFormatNumber_any x _).mono ?_
        rintro e w2 ⟨rfl, hb2⟩
        go_wp2_with fail
        go_ret
        exact ⟨ret_str (by rw [HF.out, if_neg K1.out, if_pos K2.out, HM.out, if_neg (by simp)]), bth (bth q0 hb1) hb2⟩
    | false =>
      have K2 := Lib.hid (of_nbeq k2)
      go_enter Try.func125, Try.ntmps125
      go_wp2_with fail
      refine (isMissing_it x _ _ rfl).mono ?_
      rintro e w1 ⟨rfl, hb1⟩
      obtain ⟨hc1, hf1⟩ := bcell hb1
      simp only [wsize_alloc] at hc1 hf1
      cases hm : isMiss x with
      | true =>
        have HM := Lib.hid hm
        go_wp2_with fail
        go_ret
        exact ⟨ret_str (by rw [HF.out, if_neg K1.out, if_neg K2.out, HM.out]; rfl), bth q0 hb1⟩
      | false =>
        have HM := Lib.hid hm
        go_wp2_with fail
        refine (implQuote_any x.text _ (by omega)).mono ?_
        rintro e w2 ⟨rfl, hb2⟩
        go_wp2_with fail
        go_ret
        exact ⟨ret_str (by rw [HF.out, if_neg K1.out, if_neg K2.out, HM.out, if_neg (by simp)]), bth (bth q0 hb1) hb2⟩
theorem logical_num {x : Item} (h : itemOK 1 x = true) (hm : isMiss x = false) : x.num = 0 ∨ x.num = 1 := by
  simp [itemOK, hm] at h
  omega
set_option maxRecDepth 100000 in
set_option maxHeartbeats 2000000 in
theorem l4Show_any (kind : Int) (x : Item) (w : World) (hx : (x.text.length : Int) ≤ 1000000) (hok : itemOK kind x = true) :
    Calls Try.prog 109 #[.int .i64 kind, itv x] w fun e w' => e = .returned (sv (shw kind x)) ∧ Below w.heap.size w w' := by
  have q0 := (Below.refl w.heap.size w).alloc (Nat.le_refl _) (.cells #[.int .i64 x.num, .int .i64 x.den, sv x.text] 101)
  have HF := Lib.hid (show shw kind x = if kind = 1 then (if isMiss x then [78, 65] else if x.num = 1 then [84, 82, 85, 69] else [70, 65, 76, 83, 69])
    else if kind = 2 then (if isMiss x then [78, 65, 95, 110, 117, 109, 98, 101, 114, 95] else fmtNum x)
    else (if isMiss x then [78, 65, 95, 99, 104, 97, 114, 97, 99, 116, 101, 114, 95] else quo x.text) from rfl)
  have HM := Lib.hid (den_ne hok)
  have HO := Lib.hid hok
  clear hok
  cases hd : (x.den == 0) with
  | true =>
    have HM1 := Lib.hid (show isMiss x = true by rw [HM.out]; simpa using hd)
    cases k1 : (kind == 1) with
    | true =>
      have K1 := Lib.hid (of_beq k1)
      go_enter Try.func109, Try.ntmps109
      go_wp2_with fail
      go_ret
      exact ⟨ret_str (by rw [HF.out, if_pos K1.out, HM1.out]; rfl), q0⟩
    | false =>
      have K1 := Lib.hid (of_nbeq k1)
      cases k2 : (kind == 2) with
      | true =>
        have K2 := Lib.hid (of_beq k2)
        go_enter Try.func109, Try.ntmps109
        go_wp2_with fail
        go_ret
        exact ⟨ret_str (by rw [HF.out, if_neg K1.out, if_pos K2.out, HM1.out]; rfl), q0⟩
      | false =>
        have K2 := Lib.hid (of_nbeq k2)
        go_enter Try.func109, Try.ntmps109
        go_wp2_with fail
        go_ret
        exact ⟨ret_str (by rw [HF.out, if_neg K1.out, if_neg K2.out, HM1.out]; rfl), q0⟩
  | false =>
    have HM1 := Lib.hid (show isMiss x = false by rw [HM.out]; simpa using hd)
    cases k1 : (kind == 1) with
    | true =>
      have K1 := Lib.hid (of_beq k1)
      rcases logical_num (by have := HO.out; rw [K1.out] at this; exact this) HM1.out with hn | hn
      all_goals
        have HN := Lib.hid hn
        obtain ⟨nu, de, te⟩ := x
        simp only at hn
        subst hn
        go_enter Try.func109, Try.ntmps109
        go_wp2_with fail
        go_ret
        refine ⟨ret_str (by rw [HF.out, if_pos K1.out, HM1.out]; rfl), ?_⟩
        (repeat' (first | with_reducible assumption | with_reducible exact Below.refl _ _ | with_reducible refine bel_dw ?_ | with_reducible refine bel_al ?_ ?_ | with_reducible refine bel_set ?_ ?_ | with_reducible refine bel_call ?_ (by with_reducible assumption) ?_ | ((try simp only [wsize_drew, wsize_alloc, wsize_set]); omega)))
    | false =>
      have K1 := Lib.hid (of_nbeq k1)
      cases k2 : (kind == 2) with
      | true =>
        have K2 := Lib.hid (of_beq k2)
        go_enter Try.func109, Try.ntmps109
        go_wp2_with fail
        refine (specFormatNumber_any x _).mono ?_
        rintro e w2 ⟨rfl, hb2⟩
        go_wp2_with fail
        go_ret
        exact ⟨ret_str (by rw [HF.out, if_neg K1.out, if_pos K2.out, HM1.out, if_neg (by simp)]), bth q0 hb2⟩
      | false =>
        have K2 := Lib.hid (of_nbeq k2)
        go_enter Try.func109, Try.ntmps109
        go_wp2_with fail
        refine (specQuote_any x.text _ (by omega)).mono ?_
        rintro e w2 ⟨rfl, rfl⟩
        go_wp2_with fail
        go_ret
        exact ⟨ret_str (by rw [HF.out, if_neg K1.out, if_neg K2.out, HM1.out, if_neg (by simp)]), q0⟩
def jn : List Str → Str
  | [] => []
  | s :: t => s ++ t.flatMap fun x => 44 :: 32 :: x
theorem jn_one (s : Str) : jn [s] = s := by simp [jn]
theorem jn_snoc {l : List Str} (h : l ≠ []) (x : Str) : jn (l ++ [x]) = (jn l ++ [44, 32]) ++ x := by
  cases l with
  | nil => exact absurd rfl h
  | cons a t => simp [jn]
theorem jn_take {l : List Str} {k : Nat} {x : Str} (h : l[k]? = some x) : jn (l.take (k + 1)) = if k = 0 then x else (jn (l.take k) ++ [44, 32]) ++ x := by
  rw [take_snoc' h]
  split
  · next hk => subst hk; rw [List.take_zero]; exact jn_one x
  · next hk =>
    refine jn_snoc ?_ x
    intro he
    have := (List.getElem?_eq_some_iff.1 h).1
    have h2 := congrArg List.length he
    rw [List.length_take, List.length_nil] at h2
    omega
theorem jn_len (l : List Str) (B : Nat) (h : ∀ x ∈ l, x.length ≤ B) : (jn l).length ≤ l.length * (B + 2) := by
  cases l with
  | nil => simp [jn]
  | cons a t =>
    have h1 : (t.flatMap fun x => 44 :: 32 :: x).length ≤ t.length * (B + 2) := by
      have ht : ∀ x ∈ t, x.length ≤ B := fun x hx => h x (List.mem_cons_of_mem _ hx)
      clear h
      induction t with
      | nil => simp
      | cons b t ih =>
        rw [List.flatMap_cons, List.length_append, List.length_cons, List.length_cons, List.length_cons, Nat.succ_mul]
        have := ht b List.mem_cons_self
        have := ih fun x hx => ht x (List.mem_cons_of_mem _ hx)
        omega
    have := h a List.mem_cons_self
    rw [jn, List.length_append, List.length_cons, Nat.succ_mul]
    omega
set_option maxRecDepth 100000 in
set_option maxHeartbeats 2000000 in
theorem joinTexts_any (l : List Str) (A : Option Addr) (n c : Nat) (w : World) (hr : Reads encS 1 w w.heap.size A n l) (hn : (n : Int) ≤ 50) (B : Nat) (hB : (B : Int) ≤ 100000000000000000) (hl : ∀ x ∈ l, x.length ≤ B) :
    Calls Try.prog 128 #[.slice A n c, sv [44, 32]] w fun e w' => e = .returned (sv (jn l)) ∧ w = w' := by
  have hlen := hr.len
  have HLen := Lib.hid hlen
  clear hlen
  go_enter Try.func128, Try.ntmps128
  go_wp2
  go_loop [5, 10] (fun v5 v10 => ∃ k : Nat, k ≤ n ∧ v10 = .int .i64 k ∧ v5 = sv (jn (l.take k))) (fun _ v10 => n - (intOf v10).toNat)
  case atStart => exact ⟨0, Nat.zero_le _, rfl, rfl⟩
  case round =>
    obtain ⟨k, hk, rfl, rfl⟩ := hrel
    by_cases hlt : k < n
    · obtain ⟨b, off, x, rfl, hb, hx, hc⟩ := hr.at_ hlt
      have h0 := hc 0 _ rfl
      simp only [Nat.mul_one, Nat.add_zero] at h0
      have hxl := hl x (List.mem_of_getElem? hx)
      have hjl := jn_len (l.take k) B (fun y hy => hl y (List.mem_of_mem_take hy))
      have hjt : (l.take k).length ≤ 50 := by have := List.length_take_le k l; omega
      have hjb : ((jn (l.take k)).length : Int) ≤ 5000000000000000200 := by
        have := Nat.mul_le_mul_right (B + 2) hjt
        omega
      have HJ := Lib.hid (jn_take hx)
      clear hc hx hjl hjt
      by_cases hk0 : k = 0
      · have hkp : ¬ (0 : Int) < k := by omega
        have HK := Lib.hid hk0
        clear hk0
        go_wp2
        go_round
        case rel => exact ⟨k + 1, by omega, by go_num, by rw [HJ.out, if_pos HK.out, HK.out, List.take_zero]; rfl⟩
        case measure => simp only [intOf]; omega
      · have hkp : (0 : Int) < k := by omega
        go_wp2
        go_round
        case rel => exact ⟨k + 1, by omega, by go_num, by rw [HJ.out, if_neg hk0]; simp⟩
        case measure => simp only [intOf]; omega
    · obtain rfl : k = n := by omega
      go_wp2
      go_ret
      exact ⟨ret_str (by rw [List.take_of_length_le (by rw [HLen.out]; omega)]), rfl⟩
end Go.Proofs.Ytekcpadlmfaihaa
namespace Go.Proofs.Ytekcpadlmfaihaa
open Go.RowKit
def tIt (s : Str) : Item := ⟨0, 1, s⟩
def txtV (l : List Str) : Vec := ⟨3, l.map tIt, [], [], [], [], 0, 0⟩
theorem wf0 : (Lit.int .i64 0).wf = true := by decide
theorem wf1 : (Lit.int .i64 1).wf = true := by decide
theorem wf3 : (Lit.int .i64 3).wf = true := by decide
theorem textItem_any (s : Str) (w : World) : Calls Try.prog 129 #[sv s] w fun e w' => e = .returned (.agg #[.int .i64 0, .int .i64 1, sv s]) ∧ Below w.heap.size w w' := by
  go_enter Try.func129, Try.ntmps129
  go_wp2_with fail
  exact bodyPost_ret (v := .agg #[.int .i64 0, .int .i64 1, sv s]) (by simp [results, Try.results129, go_sem]) rfl ⟨rfl, (Below.refl _ _).alloc (Nat.le_refl _) _⟩
theorem l4Text_any (s : Str) (w : World) : Calls Try.prog 124 #[sv s] w fun e w' => e = .returned (.agg #[.int .i64 0, .int .i64 1, sv s]) ∧ Below w.heap.size w w' := by
  go_enter Try.func124, Try.ntmps124
  go_wp2_with fail
  exact bodyPost_ret (v := .agg #[.int .i64 0, .int .i64 1, sv s]) (by simp [results, Try.results124, go_sem]) rfl ⟨rfl, (Below.refl _ _).alloc (Nat.le_refl _) _⟩
abbrev zv8 : List Value := [.int .i64 0, .slice none 0 0, .slice none 0 0, .slice none 0 0, .slice none 0 0, .slice none 0 0, .int .i64 0, .int .i64 0]
def tvL (l : List Str) (w : World) (n : Nat) (i : Value) (wr : World) : Prop := ∃ (k : Nat) (Ao : Option Addr) (co : Nat) (FP : List Nat), k ≤ n ∧ i = .int .i64 k ∧
  Blk wr (w.heap.size + 1) 34 [.int .i64 3, .slice Ao k co, .slice none 0 0, .slice none 0 0, .slice none 0 0, .slice none 0 0, .int .i64 0, .int .i64 0] ∧ Blk wr w.heap.size 34 zv8 ∧
  own Try.prog wr (.sl ((l.take k).map fun s => (tIt s).toD)) 31 FP [.slice Ao k co] ∧ Fresh (w.heap.size + 2) FP ∧ Below w.heap.size w wr
theorem own_tIt {w : World} {x : Str} (h : x.length ≤ 60) : own Try.prog w (tIt x).toD 101 [] [.int .i64 0, .int .i64 1, sv x] := own_item (tIt x) ⟨wf0, wf1, by unfold maxLen tIt; simp only; omega⟩ rfl
set_option maxRecDepth 100000 in
set_option maxHeartbeats 4000000 in
theorem implTextVector_any (l : List Str) (A : Option Addr) (n c : Nat) (w : World) (hr : Reads encS 1 w w.heap.size A n l) (hn : (n : Int) ≤ 40) (hl : ∀ x ∈ l, x.length ≤ 60) :
    Calls Try.prog 115 #[.slice A n c] w (NewSt (txtV l).toD 34 w) := by
  have HLen := Lib.hid hr.len
  have q0 := ((Below.refl w.heap.size w).alloc (Nat.le_refl _) (.cells zv8.toArray 34)).alloc (by simp only [wsize_alloc]; omega) (.cells #[.int .i64 3, .slice none 0 0, .slice none 0 0, .slice none 0 0, .slice none 0 0, .slice none 0 0, .int .i64 0, .int .i64 0] 34)
  have k0 : Blk (w.alloc (.cells zv8.toArray 34)) w.heap.size 34 zv8 := Blk.new'
  have k1 : Blk ((w.alloc (.cells zv8.toArray 34)).alloc (.cells #[.int .i64 3, .slice none 0 0, .slice none 0 0, .slice none 0 0, .slice none 0 0, .slice none 0 0, .int .i64 0, .int .i64 0] 34)) (w.heap.size + 1) 34 [.int .i64 3, .slice none 0 0, .slice none 0 0, .slice none 0 0, .slice none 0 0, .slice none 0 0, .int .i64 0, .int .i64 0] := by
    have := Blk.new' (w := w.alloc (.cells zv8.toArray 34)) (t := 34) (l := [.int .i64 3, .slice none 0 0, .slice none 0 0, .slice none 0 0, .slice none 0 0, .slice none 0 0, .int .i64 0, .int .i64 0])
    simp only [wsize_alloc] at this
    exact this
  have HL := Lib.hid hl
  clear hl
  go_enter Try.func115, Try.ntmps115
  go_wp2_with fail
  go_loopw [13] (fun i wr => tvL l w n i wr) (fun i _ => n - (intOf i).toNat)
  case atStart => exact ⟨0, none, 0, [], by omega, rfl, k1, k0.al, by rw [List.take_zero]; exact own_nil Try.underlying31, Fresh.nil, q0⟩
  case round =>
    clear k0 k1 q0
    obtain ⟨k, Ao, co, FP, hk, rfl, kg, kz, oP, fr, bb⟩ := hrel
    have z0 := kg.lt
    by_cases hlt : k < n
    · obtain ⟨b, off, x, rfl, hb, hx, hc⟩ := (hr.below bb).at_ hlt
      have h0 := hc 0 _ rfl
      simp only [Nat.mul_one, Nat.add_zero] at h0
      have hx60 := HL.out x (List.mem_of_getElem? hx)
      have hxi : ¬ (60 : Int) < x.length := by omega
      have HX := Lib.hid (take_snoc' hx)
      clear hc hx
      have eg := kg.cell 1
      simp only [List.getElem?_cons_zero, List.getElem?_cons_succ] at eg
      have zf := kg.frozen 1
      have lP := own_lo oP
      go_upto_region 9 with fail
      go_region_law (first
        | (go_simp; go_at_call 129; refine (textItem_any x _).mono ?_; rintro e w1 ⟨rfl, hb1⟩; obtain ⟨hc1, hf1⟩ := bcell hb1; have z1 := hb1.size; (try simp only [wsize_drew, wsize_alloc, wsize_set] at hc1 hf1 z1); have yg : w.heap.size + 1 < w1.heap.size := by omega)
        | (refine step_appD (A := Ao) (n := k) (c := co) (b := w1.heap.size) (m := 1) (xs := (l.take k).map fun s => (tIt s).toD) (F := FP) (d := (tIt x).toD) (F' := []) (te := 101) (cs := [.int .i64 0, .int .i64 1, sv x]) tyItem ?_ ?_ (.tmp 22) (.tmp 25) ?_ ?_ ?_ ?_ ?_ ?_ ?_ ?_ ?_ ?_ ?_; (kernel_rfl); (rfl); (rfl); (rfl); (focus (repeat' (first | with_reducible assumption | with_reducible refine own_dw ?_ | with_reducible refine own_al ?_ | with_reducible refine own_pk ?_ ?_ | with_reducible exact notin_nil | with_reducible refine notin_app ?_ ?_ | (with_reducible refine Fresh.notin (by with_reducible assumption) ?_; ((try simp only [wsize_drew, wsize_alloc, wsize_set]); omega)) | (with_reducible refine Lo.notin (by with_reducible assumption) ?_; ((try simp only [wsize_drew, wsize_alloc, wsize_set]); omega)) | with_reducible refine own_below ?_ (by with_reducible assumption)))); (rfl); (focus (repeat' (first | with_reducible assumption | with_reducible exact Blk.new' | with_reducible exact Blk.newd | with_reducible apply Blk.set8 | (with_reducible refine Blk.pk ?_ ?_; ((try simp only [wsize_drew, wsize_alloc, wsize_set]); omega)) | with_reducible refine Blk.dw ?_ | with_reducible refine Blk.al ?_ | with_reducible refine Blk.next ?_ (by with_reducible assumption)))); (exact own_tIt hx60); (rfl); (rw [List.append_nil]; exact fr.1); (unfold maxLen; omega); (omega); intro gg cc w2 FP2 oP2 ap2 md2; have kg2 := Blk.mod (t := 34) (cs := [.int .i64 3, .slice Ao k co, .slice none 0 0, .slice none 0 0, .slice none 0 0, .slice none 0 0, .int .i64 0, .int .i64 0]) (g := w.heap.size + 1) (by (repeat' (first | with_reducible assumption | with_reducible exact Blk.new' | with_reducible exact Blk.newd | with_reducible apply Blk.set8 | (with_reducible refine Blk.pk ?_ ?_; ((try simp only [wsize_drew, wsize_alloc, wsize_set]); omega)) | with_reducible refine Blk.dw ?_ | with_reducible refine Blk.al ?_ | with_reducible refine Blk.next ?_ (by with_reducible assumption)))) md2 (fr.notin (by omega)); have eg2 := kg2.cell 1; (simp only [List.getElem?_cons_zero, List.getElem?_cons_succ] at eg2); have zf2 := kg2.frozen 1))
      all_goals
        go_wp2_with fail
        go_roundw
        case rel =>
          have z2 := md2.size
          simp only [wsize_drew, wsize_alloc, wsize_set] at z2
          have ng : w.heap.size + 1 ∉ FP2 := ap2.notin (C := w.heap.size + 2) (fr.notin (by omega)) (by simp) (by omega) (by ((try simp only [wsize_drew, wsize_alloc, wsize_set]); omega))
          refine ⟨k + 1, some ⟨gg, 0, none⟩, cc, FP2, by omega, by go_num, kg2.set_ 1 _, ?_, ?_, ?_, ?_⟩
          · have := Blk.mod (t := 34) (cs := zv8) (g := w.heap.size) (by (repeat' (first | with_reducible assumption | with_reducible exact Blk.new' | with_reducible exact Blk.newd | with_reducible apply Blk.set8 | (with_reducible refine Blk.pk ?_ ?_; ((try simp only [wsize_drew, wsize_alloc, wsize_set]); omega)) | with_reducible refine Blk.dw ?_ | with_reducible refine Blk.al ?_ | with_reducible refine Blk.next ?_ (by with_reducible assumption)))) md2 (fr.notin (by omega))
            exact this.pk (by simp only; omega)
          · rw [HX.out, List.map_append, List.map_cons, List.map_nil]
            (repeat' (first | with_reducible assumption | with_reducible refine own_dw ?_ | with_reducible refine own_al ?_ | with_reducible refine own_pk ?_ ?_ | with_reducible exact notin_nil | with_reducible refine notin_app ?_ ?_ | (with_reducible refine Fresh.notin (by with_reducible assumption) ?_; ((try simp only [wsize_drew, wsize_alloc, wsize_set]); omega)) | (with_reducible refine Lo.notin (by with_reducible assumption) ?_; ((try simp only [wsize_drew, wsize_alloc, wsize_set]); omega)) | with_reducible refine own_below ?_ (by with_reducible assumption)))
          · refine ⟨ap2.1, fun y hy => ?_⟩
            rcases ap2.2 y hy with h1 | h1 | h1
            · exact fr.2 y h1
            · simp at h1
            · rw [h1]; ((try simp only [wsize_drew, wsize_alloc, wsize_set]); omega)
          · have B2 := bel_mod (B := w.heap.size) (a := w) (by (repeat' (first | with_reducible assumption | with_reducible exact Below.refl _ _ | with_reducible refine bel_dw ?_ | with_reducible refine bel_al ?_ ?_ | with_reducible refine bel_set ?_ ?_ | with_reducible refine bel_call ?_ (by with_reducible assumption) ?_ | ((try simp only [wsize_drew, wsize_alloc, wsize_set]); omega)))) md2 (fun y hy => by have := fr.2 y hy; omega) (by ((try simp only [wsize_drew, wsize_alloc, wsize_set]); omega))
            (repeat' (first | with_reducible assumption | with_reducible exact Below.refl _ _ | with_reducible refine bel_dw ?_ | with_reducible refine bel_al ?_ ?_ | with_reducible refine bel_set ?_ ?_ | with_reducible refine bel_call ?_ (by with_reducible assumption) ?_ | ((try simp only [wsize_drew, wsize_alloc, wsize_set]); omega)))
        case measure => simp [intOf]; omega
    · obtain rfl : k = n := by omega
      obtain ⟨r0, r1, r2, r3, r4, r5, r6, r7⟩ := kz.c8
      have hR1 : w.heap.size < wr.heap.size := by omega
      obtain ⟨e0, e1, e2, e3, e4, e5, e6, e7⟩ := kg.c8
      have zr := fun i => kz.frozen i
      have zr0 := zr 0; have zr1 := zr 1; have zr2 := zr 2; have zr3 := zr 3; have zr4 := zr 4; have zr5 := zr 5; have zr6 := zr 6; have zr7 := zr 7
      clear zr
      go_wp2_with fail
      rw [List.take_of_length_le (by rw [HLen.out]; omega)] at oP
      refine bodyPost_ret (v := .agg #[.int .i64 3, .slice Ao k co, .slice none 0 0, .slice none 0 0, .slice none 0 0, .slice none 0 0, .int .i64 0, .int .i64 0]) (by simp [results, Try.results115, go_sem, r0, r1, r2, r3, r4, r5, r6, r7, hR1]) rfl ⟨_, FP ++ ([] ++ ([] ++ ([] ++ ([] ++ [])))), rfl, ?_, ?_, ?_⟩
      · refine Vector_own (x := txtV l) wf3 ?_ (own_nil Try.underlying32) (own_nil Try.underlying24) (own_nil Try.underlying24) (own_nil Try.underlying24) wf0 wf0
        have e9 : (txtV l).items.map Item.toD = l.map fun s => (tIt s).toD := by simp [txtV, Function.comp_def]
        rw [e9]
        have lo := own_lo oP
        have fn : w.heap.size ∉ FP := fr.notin (by omega)
        repeat' (first | with_reducible assumption | with_reducible refine own_pk ?_ ?_)
      · simpa using fr.mono (by omega)
      · (repeat' (first | with_reducible assumption | with_reducible exact Below.refl _ _ | with_reducible refine bel_dw ?_ | with_reducible refine bel_al ?_ ?_ | with_reducible refine bel_set ?_ ?_ | with_reducible refine bel_call ?_ (by with_reducible assumption) ?_ | ((try simp only [wsize_drew, wsize_alloc, wsize_set]); omega)))
end Go.Proofs.Ytekcpadlmfaihaa
