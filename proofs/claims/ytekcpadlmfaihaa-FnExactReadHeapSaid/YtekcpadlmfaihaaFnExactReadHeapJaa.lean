/- How many marks a datum takes at most. The law FnExactReadHeap, walked out of the contracts of its callees. The law FnExactReadHeap, walked. -/
import Derived.Test.YtekcpadlmfaihaaJW
import Derived.Test.YtekcpadlmfaihaaJV
import Derived.Test.YtekcpadlmfaihaaJU
import Derived.Test.YtekcpadlmfaihaaJX
set_option linter.unusedSimpArgs false
set_option linter.unusedVariables false
namespace Go.Proofs.Ytekcpadlmfaihaa
open Go.RowKit
theorem cntDs_of {α : Type} {f : α → D} : ∀ {l : List α}, (∀ x ∈ l, cntD (f x) ≤ 4 + 4 * szD (f x)) → cntDs (l.map f) ≤ 4 * szD (.sl (l.map f))
  | [], _ => by simp [cntDs]
  | x :: t, h => by
    have h1 := h x List.mem_cons_self
    have h2 := cntDs_of (l := t) (fun y hy => h y (List.mem_cons_of_mem _ hy))
    simp only [szD, List.length_map, List.map_cons, cntDs, szDs, List.length_cons] at h2 ⊢
    omega
theorem cntS (l : List Str) : cntDs (l.map D.s) ≤ 4 * szD (.sl (l.map D.s)) := cntDs_of (fun x _ => by simp only [cntD]; omega)
theorem cntI (l : List Int) : cntDs (l.map (D.i .i64)) ≤ 4 * szD (.sl (l.map (D.i .i64))) := cntDs_of (fun x _ => by simp only [cntD]; omega)
theorem cntIt (l : List Item) : cntDs (l.map Item.toD) ≤ 4 * szD (.sl (l.map Item.toD)) := cntDs_of (fun x _ => by rw [Item_cnt]; omega)
theorem cntV (x : Vec) : cntD x.toD ≤ 3 + 4 * szD x.toD := by
  refine Vector_ind (P := fun x => cntD x.toD ≤ 3 + 4 * szD x.toD) (fun v ih => ?_) x
  have h1 := cntDs_of (f := Vec.toD) (l := v.parts) (fun y hy => by have := ih y hy; omega)
  have h2 := cntIt v.items
  have h3 := cntS v.names
  have h4 := cntS v.cls
  have h5 := cntS v.levels
  rw [Vector_cnt, Vector_sz]
  omega
theorem cntVs (l : List Vec) : cntDs (l.map Vec.toD) ≤ 4 * szD (.sl (l.map Vec.toD)) := cntDs_of (fun x _ => by have := cntV x; omega)
theorem cntC (x : Cel) : cntD x.toD ≤ 4 + 4 * szD x.toD := by
  have h1 := cntV x.value
  have h2 := cntI x.parts
  rw [Cell_cnt, Cell_sz]
  omega
theorem cntCs (l : List Cel) : cntDs (l.map Cel.toD) ≤ 4 * szD (.sl (l.map Cel.toD)) := cntDs_of (fun x _ => cntC x)
theorem read_sz {h : Hp} (hz : szD h.toD ≤ 1048576) (s : Str) : szD (readD h s).1.toD ≤ 3000000000000 := by
  have hz0 : szD zeroV.toD = 0 := by rw [Vector_sz]; simp [zeroV, szD, szDs]
  cases hok : heapOK h with
  | false => rw [readD_no (.inl hok)]; simp only; omega
  | true =>
    cases hn : hasN h s with
    | false => rw [readD_no (.inr hn)]; simp only; omega
    | true =>
      obtain ⟨i, -, -, -, -, -, hd, -⟩ := heapOK_name hok hn
      have := asm_sz hz 3 _ hd
      rw [readD_yes hok hn]
      simp only
      omega
def RdQ (x : Vec) (b : Bool) (w : World) (e : Ending) (w' : World) : Prop :=
  ∃ (cs : List Value) (F : List Nat), e = .returned (.tuple #[.agg cs.toArray, .bool b]) ∧ own Try.prog w' x.toD 34 F cs ∧ Fresh w.heap.size F ∧ Below w.heap.size w w'
theorem own_r {P : Program} {w : World} {d : D} {t : TypeId} {F : List Nat} {cs : List Value} (h : own P w d t F cs) : rep w w.heap.size d cs := own_rep _ _ _ _ h
end Go.Proofs.Ytekcpadlmfaihaa
namespace Go.Proofs.Ytekcpadlmfaihaa
open Go.RowKit
set_option maxRecDepth 100000 in
set_option maxHeartbeats 8000000 in
theorem fnExactReadHeap_of (h : Hp) (cs : List Value) (s : Str) (w : World) (hr : rep w w.heap.size h.toD cs)
    (hS : szD h.toD ≤ 1048576 → ∀ (cs : List Value) (w : World), rep w w.heap.size h.toD cs → Calls Try.prog 19 #[av cs, sv s] w (RdP h s w))
    (hI : szD h.toD ≤ 1048576 → ∀ (cs : List Value) (w : World), rep w w.heap.size h.toD cs → Calls Try.prog 20 #[av cs, sv s] w (RdP h s w)) :
    Calls Try.prog 6 #[av cs, sv s] w fun e w' => e = .returned (.bool true) ∧ Below w.heap.size w w' := by
  have hrz : szD h.toD ≤ 1048576 → szD (readD h s).1.toD ≤ 3000000000000 := fun hz => read_sz hz s
  have hS2 : szD h.toD ≤ 1048576 → ∀ (cs : List Value) (w : World), rep w w.heap.size h.toD cs → Calls Try.prog 19 #[av cs, sv s] w (RdQ (readD h s).1 (readD h s).2 w) := hS
  have hI2 : szD h.toD ≤ 1048576 → ∀ (cs : List Value) (w : World), rep w w.heap.size h.toD cs → Calls Try.prog 20 #[av cs, sv s] w (RdQ (readD h s).1 (readD h s).2 w) := hI
  clear hS hI
  revert hrz hS2 hI2
  generalize (readD h s).1 = x
  generalize (readD h s).2 = b
  intro hrz hS hI
  have HS := Lib.hid hS
  have HI := Lib.hid hI
  have HRZ := Lib.hid hrz
  clear hS hI hrz
  have HR := Lib.hid hr
  obtain ⟨Aaa, naa, caa, Aab, nab, cab, Aad, nad, cad, rfl, -⟩ := Heap_open hr
  clear hr
  have q0 := (Below.refl w.heap.size w).alloc (Nat.le_refl _) (.cells #[.slice Aaa naa caa, .slice Aab nab cab, .slice Aad nad cad, .int .i64 h.copies] 43)
  have kA := Blk.new_ w 43 #[.slice Aaa naa caa, .slice Aab nab cab, .slice Aad nad cad, .int .i64 h.copies]
  by_cases hln : (1048576 : Int) < (s.length : Int)
  · go_enter Try.func6, Try.ntmps6
    go_wp2_with fail
    go_ret
    exact ⟨rfl, q0⟩
  go_enter Try.func6, Try.ntmps6
  go_wp2_with fail
  refine (szHeap_any h _ _ _ (rep_in HR.out q0 q0.size) (by omega) (by omega)).mono ?_
  rintro e w1 ⟨rfl, hb1⟩
  have q1 := bth q0 hb1
  replace kA := kA.next hb1
  by_cases hsz : lft (szD h.toD) 1048576 < 0
  · go_wp2_with fail
    go_ret
    exact ⟨rfl, q1⟩
  have hz : szD h.toD ≤ 1048576 := by unfold lft at hsz; split at hsz <;> omega
  have hrz := HRZ.out hz
  have hS := HS.out hz
  have hI := HI.out hz
  have hne : (b != b) = false := by simp
  have z1 := hb1.size
  simp only [wsize_alloc] at z1
  have y0 : w.heap.size < w1.heap.size := by omega
  obtain ⟨a0, a1, a2, a3⟩ := kA.c4
  go_wp2_with fail
  refine (toHeap_any h _ _ (rep_in HR.out q1 q1.size) hz).mono ?_
  rintro e w2 ⟨cs2, F2, rfl, o2, fr2, hb2⟩
  have q2 := bth q1 hb2
  replace kA := kA.next hb2
  have z2 := hb2.size
  have r2 := own_rep _ _ _ _ o2
  obtain ⟨Aba, nba, cba, Abb, nbb, cbb, Abd, nbd, cbd, rfl, -⟩ := Heap_open r2
  clear a0 a1 a2 a3
  obtain ⟨a0, a1, a2, a3⟩ := kA.c4
  go_wp2_with fail
  refine (hS _ _ r2).mono ?_
  rintro e w3 ⟨cs3, F6, rfl, o6, fr6, hb3⟩
  have q3 := bth q2 hb3
  replace kA := kA.next hb3
  have z3 := hb3.size
  obtain ⟨Asi, nsi, csi, Asp, nsp, csp, Asn, nsn, csn, Asc, nsc, csc, Asl, nsl, csl, rfl, -⟩ := Vector_open (own_rep _ _ _ _ o6)
  clear a0 a1 a2 a3 r2 o2 fr2
  obtain ⟨a0, a1, a2, a3⟩ := kA.c4
  -- the box of w0
  obtain ⟨g6, hg6⟩ : ∃ g, g = w3.heap.size := ⟨_, rfl⟩
  have k6 := Blk.new_ w3 34 #[.int .i64 x.kind, .slice Asi nsi csi, .slice Asp nsp csp, .slice Asn nsn csn, .slice Asc nsc csc, .slice Asl nsl csl, .int .i64 x.code, .int .i64 x.env]
  have lo6 := own_lo o6
  have x3 : Below w3.heap.size w3 (w3.alloc (.cells #[.int .i64 x.kind, .slice Asi nsi csi, .slice Asp nsp csp, .slice Asn nsn csn, .slice Asc nsc csc, .slice Asl nsl csl, .int .i64 x.code, .int .i64 x.env] 34)) := (Below.refl _ _).alloc (Nat.le_refl _) _
  have y3 : w.heap.size < w3.heap.size := by omega
  go_wp2_with fail
  refine (toHeap_any h _ _ (rep_in HR.out (bth q3 x3) (bth q3 x3).size) hz).mono ?_
  rintro e w4 ⟨cs4, F8, rfl, o8, fr8, hb4⟩
  have q4 := bth (bth q3 x3) hb4
  replace kA := (kA.next x3).next hb4
  replace k6 := k6.next hb4
  replace o6 := own_below (own_below o6 x3) hb4
  have z4 := hb4.size
  simp only [wsize_alloc] at z4 fr8
  obtain ⟨Axa, nxa, cxa, Axb, nxb, cxb, Axd, nxd, cxd, rfl, -⟩ := Heap_open (own_rep _ _ _ _ o8)
  clear a0 a1 a2 a3 z3 z2 z1 hb1 hb2 hb3 x3
  -- the box of x0
  have k8 := Blk.new_ w4 48 #[.slice Axa nxa cxa, .slice Axb nxb cxb, .slice Axd nxd cxd, .int .i64 h.copies]
  have lo8 := own_lo o8
  have x4 : Below w4.heap.size w4 (w4.alloc (.cells #[.slice Axa nxa cxa, .slice Axb nxb cxb, .slice Axd nxd cxd, .int .i64 h.copies] 48)) := (Below.refl _ _).alloc (Nat.le_refl _) _
  replace o8 := own_below o8 x4
  go_wp2_with fail
  refine (hI _ _ (own_rep _ _ _ _ o8)).mono ?_
  rintro e w5 ⟨cs5, F9, rfl, o9, fr9, hb5⟩
  have q5 := bth (bth q4 x4) hb5
  replace kA := (kA.next x4).next hb5
  replace k6 := (k6.next x4).next hb5
  replace k8 := k8.next hb5
  replace o6 := own_below (own_below o6 x4) hb5
  replace o8 := own_below o8 hb5
  have z5 := hb5.size
  simp only [wsize_alloc] at z5 fr9
  obtain ⟨Agi, ngi, cgi, Agp, ngp, cgp, Agn, ngn, cgn, Agc, ngc, cgc, Agl, ngl, cgl, hc5, -⟩ := Vector_open (own_rep _ _ _ _ o9)
  subst hc5
  -- the box of g0
  have k9 := Blk.new_ w5 34 #[.int .i64 x.kind, .slice Agi ngi cgi, .slice Agp ngp cgp, .slice Agn ngn cgn, .slice Agc ngc cgc, .slice Agl ngl cgl, .int .i64 x.code, .int .i64 x.env]
  have lo9 := own_lo o9
  have x5 : Below w5.heap.size w5 (w5.alloc (.cells #[.int .i64 x.kind, .slice Agi ngi cgi, .slice Agp ngp cgp, .slice Agn ngn cgn, .slice Agc ngc cgc, .slice Agl ngl cgl, .int .i64 x.code, .int .i64 x.env] 34)) := (Below.refl _ _).alloc (Nat.le_refl _) _
  have q6 := bth q5 x5
  replace kA := kA.next x5
  replace k6 := k6.next x5
  replace k8 := k8.next x5
  replace o6 := own_below o6 x5
  replace o8 := own_below o8 x5
  replace o9 := own_below o9 x5
  obtain ⟨e60, e61, e62, e63, e64, e65, e66, e67⟩ := k6.c8
  obtain ⟨e90, e91, e92, e93, e94, e95, e96, e97⟩ := k9.c8
  have y6 : w3.heap.size < w5.heap.size := by omega
  have y8 : w4.heap.size < w5.heap.size := by omega
  have ya : w.heap.size < w5.heap.size := by omega
  go_wp2_with fail
  refine (eqVector_any x _ _ _ (own_rep _ _ _ _ o9) (own_rep _ _ _ _ o6)).mono ?_
  rintro e w6 ⟨rfl, hb6⟩
  have q7 := bth q6 hb6
  replace kA := kA.next hb6
  replace k6 := k6.next hb6
  replace k8 := k8.next hb6
  replace k9 := k9.next hb6
  replace o6 := own_below o6 hb6
  replace o8 := own_below o8 hb6
  replace o9 := own_below o9 hb6
  have z6 := hb6.size
  simp only [wsize_alloc] at z6
  clear e60 e61 e62 e63 e64 e65 e66 e67 e90 e91 e92 e93 e94 e95 e96 e97 hb4 hb5 hb6 x4 x5
  have h7 := rep_in HR.out q7 q7.size
  have r8 := own_rep _ _ _ _ o8
  go_wp2_with fail
  go_region_held3 (fun W => (W.cell? ⟨w.heap.size, 0, none⟩ = some (.slice Aaa naa caa) ∧ W.cell? ⟨w.heap.size, 1, none⟩ = some (.slice Aab nab cab) ∧ W.cell? ⟨w.heap.size, 2, none⟩ = some (.slice Aad nad cad) ∧ W.cell? ⟨w.heap.size, 3, none⟩ = some (.int .i64 h.copies)) ∧ W.cell? ⟨w4.heap.size, 0, none⟩ = some (.slice Axa nxa cxa) ∧ W.cell? ⟨w4.heap.size, 1, none⟩ = some (.slice Axb nxb cxb) ∧ W.cell? ⟨w4.heap.size, 2, none⟩ = some (.slice Axd nxd cxd) ∧ W.cell? ⟨w4.heap.size, 3, none⟩ = some (.int .i64 h.copies))
    (first | exact ⟨kA.c4, k8.c4⟩ | exact ⟨(Blk.next (w := w6.drew) kA hb7).c4, (Blk.next (w := w6.drew) k8 hb7).c4⟩ | exact ⟨((Blk.next (w := w6.drew) kA hb7).next hb8).c4, ((Blk.next (w := w6.drew) k8 hb7).next hb8).c4⟩)
    (first | (go_at_call 14; refine (toHeap_any h _ _ (by first | with_reducible exact h7 | exact rep_drew h7) hz).mono ?_; rintro e w7 ⟨cs7, F7, rfl, o7, fr7, hb7⟩) | (go_at_call 16; refine (eqHeap_any h _ _ _ (rep_next (w := w6.drew) (rep_drew r8) hb7) (own_rep _ _ _ _ o7)).mono ?_; rintro e w8 ⟨rfl, hb8⟩))
  have q8 := bth (bth q7.drew hb7) hb8
  replace kA := (kA.dw.next hb7).next hb8
  replace k6 := (k6.dw.next hb7).next hb8
  replace k8 := (k8.dw.next hb7).next hb8
  replace k9 := (k9.dw.next hb7).next hb8
  replace o6 := own_below (own_below (own_dw o6) hb7) hb8
  replace o8 := own_below (own_below (own_dw o8) hb7) hb8
  replace o9 := own_below (own_below (own_dw o9) hb7) hb8
  have z8 : w6.heap.size ≤ w8.heap.size := by have z7 := hb7.size; have z8 := hb8.size; simp only [wsize_drew] at z7; omega
  clear h7 r8 o7 fr7 hb7 hb8
  obtain ⟨A1, n1, c1, A2, n2, c2, A3, n3, c3, G1, G2, G3, he, rfl, oc, on, os⟩ := Heap_ownopen o8
  simp only [List.cons.injEq, Value.slice.injEq, true_and, and_true] at he
  obtain ⟨⟨rfl, rfl, rfl⟩, ⟨rfl, rfl, rfl⟩, rfl, rfl, rfl⟩ := he
  have hsz := Heap_sz h
  have u1 := cntCs h.cells
  have u2 := cntS h.names
  have u3 := cntI h.slots
  obtain ⟨N1, H1⟩ : ∃ N : Nat, cntDs (h.cells.map Cel.toD) = N := ⟨_, rfl⟩
  obtain ⟨N2, H2⟩ : ∃ N : Nat, cntDs (h.names.map D.s) = N := ⟨_, rfl⟩
  obtain ⟨N3, H3⟩ : ∃ N : Nat, cntDs (h.slots.map (D.i .i64)) = N := ⟨_, rfl⟩
  rw [H1] at u1
  rw [H2] at u2
  rw [H3] at u3
  have bN : 1 + N1 + N2 + N3 ≤ 1152921504606846976 := by omega
  have hd1 : decide ((1 : Int) + (N1 : Int) + (N2 : Int) + (N3 : Int) < 0) = false := by simp; omega
  have K1 := Lib.hid H1
  have K2 := Lib.hid H2
  have K3 := Lib.hid H3
  clear H1 H2 H3 hsz u1 u2 u3 o8
  obtain ⟨e80, e81, e82, e83⟩ := k8.c4
  go_wp2_with fail
  refine (markHeap_any h _ _ _ _ _ _ _ _ _ 1 1 w8 oc on os K1.out K2.out K3.out fr8.1 rfl bN).mono ?_
  rintro e w9 ⟨rfl, -, -, -, md⟩
  have z9 := md.size
  have q9 := bel_mod q8 md (fun g hg => by have := fr8.2 g hg; omega) (by omega)
  replace kA := Blk.mod (g := w.heap.size) kA md (fr8.notin (by omega))
  replace k6 := Blk.mod (g := w3.heap.size) k6 md (fr8.notin (by omega))
  replace k9 := Blk.mod (g := w5.heap.size) k9 md (lo8.notin (by omega))
  replace o6 := own_mod o6 md (fun g hg => fr8.notin (by have := lo6 g hg; omega))
  replace o9 := own_mod o9 md (fun g hg => lo8.notin (by have := fr9.2 g hg; omega))
  clear e80 e81 e82 e83 k8 md oc on os
  obtain ⟨e60, e61, e62, e63, e64, e65, e66, e67⟩ := k6.c8
  obtain ⟨e90, e91, e92, e93, e94, e95, e96, e97⟩ := k9.c8
  go_wp2_with fail
  refine (eqVector_any x _ _ _ (own_rep _ _ _ _ o9) (own_rep _ _ _ _ o6)).mono ?_
  rintro e w10 ⟨rfl, hb10⟩
  have q10 := bth q9 hb10
  have z10 := hb10.size
  replace kA := kA.next hb10
  replace k6 := k6.next hb10
  replace k9 := k9.next hb10
  replace o6 := own_below o6 hb10
  replace o9 := own_below o9 hb10
  clear e60 e61 e62 e63 e64 e65 e66 e67 e90 e91 e92 e93 e94 e95 e96 e97 hb10
  obtain ⟨B1, m1, d1, B2, m2, d2, B3, m3, d3, B4, m4, d4, B5, m5, d5, L1, L2, L3, L4, L5, he, rfl, oi, op, on, oc, ol⟩ := Vector_ownopen o9
  simp only [List.cons.injEq, Value.slice.injEq, true_and, and_true] at he
  obtain ⟨⟨rfl, rfl, rfl⟩, ⟨rfl, rfl, rfl⟩, ⟨rfl, rfl, rfl⟩, ⟨rfl, rfl, rfl⟩, rfl, rfl, rfl⟩ := he
  have u1 := cntV x
  have u2 := Vector_cnt x
  obtain ⟨M1, H1⟩ : ∃ N : Nat, cntDs (x.items.map Item.toD) = N := ⟨_, rfl⟩
  obtain ⟨M2, H2⟩ : ∃ N : Nat, cntDs (x.parts.map Vec.toD) = N := ⟨_, rfl⟩
  obtain ⟨M3, H3⟩ : ∃ N : Nat, cntDs (x.names.map D.s) = N := ⟨_, rfl⟩
  obtain ⟨M4, H4⟩ : ∃ N : Nat, cntDs (x.cls.map D.s) = N := ⟨_, rfl⟩
  obtain ⟨M5, H5⟩ : ∃ N : Nat, cntDs (x.levels.map D.s) = N := ⟨_, rfl⟩
  rw [H1, H2, H3, H4, H5] at u2
  have bM : 1 + M1 + M2 + M3 + M4 + M5 ≤ 1152921504606846976 := by omega
  have hd2 : decide ((1 : Int) + (M1 : Int) + (M2 : Int) + (M3 : Int) + (M4 : Int) + (M5 : Int) < 0) = false := by simp; omega
  have hd3 : ((1 : Int) + (M1 : Int) + (M2 : Int) + (M3 : Int) + (M4 : Int) + (M5 : Int) != (1 : Int) + (M1 : Int) + (M2 : Int) + (M3 : Int) + (M4 : Int) + (M5 : Int)) = false := by simp
  have J1 := Lib.hid H1
  have J2 := Lib.hid H2
  have J3 := Lib.hid H3
  have J4 := Lib.hid H4
  have J5 := Lib.hid H5
  clear H1 H2 H3 H4 H5 u1 u2 o9
  obtain ⟨e90, e91, e92, e93, e94, e95, e96, e97⟩ := k9.c8
  go_wp2_with fail
  refine (markVector_any x _ _ _ _ _ _ _ _ _ _ _ _ _ _ _ 1 1 w10 oi op on oc ol J1.out J2.out J3.out J4.out J5.out fr9.1 rfl bM).mono ?_
  clear oi op on oc ol
  rintro e w11 ⟨rfl, oi, op, on, oc, ol, md⟩
  have z11 := md.size
  have q11 := bel_mod q10 md (fun g hg => by have := fr9.2 g hg; omega) (by omega)
  replace kA := Blk.mod (g := w.heap.size) kA md (fr9.notin (by omega))
  replace k6 := Blk.mod (g := w3.heap.size) k6 md (fr9.notin (by omega))
  replace k9 := Blk.mod (g := w5.heap.size) k9 md (lo9.notin (by omega))
  replace o6 := own_mod o6 md (fun g hg => fr9.notin (by have := lo6 g hg; omega))
  clear e90 e91 e92 e93 e94 e95 e96 e97 md
  have ri := own_rep _ _ _ _ oi
  have rp := own_rep _ _ _ _ op
  have rn := own_rep _ _ _ _ on
  have rc := own_rep _ _ _ _ oc
  have rl := own_rep _ _ _ _ ol
  clear oi op on oc ol
  obtain ⟨e90, e91, e92, e93, e94, e95, e96, e97⟩ := k9.c8
  go_wp2_with fail
  refine (heldVector_any x _ _ _ _ _ _ _ _ _ _ _ _ _ _ _ 1 1 w11 J1.out J2.out J3.out J4.out J5.out ri rp rn rc rl rfl bM).mono ?_
  rintro e w12 ⟨rfl, hb12⟩
  have q12 := bth q11 hb12
  have z12 := hb12.size
  replace kA := kA.next hb12
  replace k6 := k6.next hb12
  replace k9 := k9.next hb12
  replace o6 := own_below o6 hb12
  replace ri := rep_next ri hb12
  replace rp := rep_next rp hb12
  replace rn := rep_next rn hb12
  replace rc := rep_next rc hb12
  replace rl := rep_next rl hb12
  clear e90 e91 e92 e93 e94 e95 e96 e97 hb12
  obtain ⟨a0, a1, a2, a3⟩ := kA.c4
  go_wp2_with fail
  refine (toHeap_any h _ _ (rep_in HR.out q12 q12.size) hz).mono ?_
  rintro e w13 ⟨cs13, F13, rfl, o13, fr13, hb13⟩
  obtain ⟨Aya, nya, cya, Ayb, nyb, cyb, Ayd, nyd, cyd, rfl, -⟩ := Heap_open (own_rep _ _ _ _ o13)
  go_wp2_with fail
  refine (hI _ _ (own_rep _ _ _ _ o13)).mono ?_
  rintro e w14 ⟨cs14, F14, rfl, o14, fr14, hb14⟩
  obtain ⟨Ayi, nyi, cyi, Ayp, nyp, cyp, Ayn, nyn, cyn, Ayc, nyc, cyc, Ayl, nyl, cyl, rfl, -⟩ := Vector_open (own_rep _ _ _ _ o14)
  have hb14' : Below w12.heap.size w12 w14 := bth hb13 hb14
  have x14 : Below w12.heap.size w12 (w14.alloc (.cells #[.int .i64 x.kind, .slice Ayi nyi cyi, .slice Ayp nyp cyp, .slice Ayn nyn cyn, .slice Ayc nyc cyc, .slice Ayl nyl cyl, .int .i64 x.code, .int .i64 x.env] 34)) := hb14'.alloc hb14'.size _
  have q14 := bth q12 x14
  replace k6 := k6.next x14
  replace k9 := k9.next x14
  replace o6 := own_below o6 x14
  have r14 := rep_al (o := .cells #[.int .i64 x.kind, .slice Ayi nyi cyi, .slice Ayp nyp cyp, .slice Ayn nyn cyn, .slice Ayc nyc cyc, .slice Ayl nyl cyl, .int .i64 x.code, .int .i64 x.env] 34) (own_rep _ _ _ _ o14)
  replace ri := rep_next ri x14
  replace rp := rep_next rp x14
  replace rn := rep_next rn x14
  replace rc := rep_next rc x14
  replace rl := rep_next rl x14
  have z14 := hb14'.size
  clear a0 a1 a2 a3
  obtain ⟨e60, e61, e62, e63, e64, e65, e66, e67⟩ := k6.c8
  have y6 : w3.heap.size < w14.heap.size := by omega
  have ya : w.heap.size < w14.heap.size := by omega
  go_wp2_with fail
  refine (eqVector_any x _ _ _ r14 (own_rep _ _ _ _ o6)).mono ?_
  rintro e w15 ⟨rfl, hb15⟩
  have q15 := bth q14 hb15
  replace k9 := k9.next hb15
  replace ri := rep_next ri hb15
  replace rp := rep_next rp hb15
  replace rn := rep_next rn hb15
  replace rc := rep_next rc hb15
  replace rl := rep_next rl hb15
  clear e60 e61 e62 e63 e64 e65 e66 e67
  obtain ⟨e90, e91, e92, e93, e94, e95, e96, e97⟩ := k9.c8
  go_wp2_with fail
  refine (heldVector_any x _ _ _ _ _ _ _ _ _ _ _ _ _ _ _ 1 1 w15 J1.out J2.out J3.out J4.out J5.out ri rp rn rc rl rfl bM).mono ?_
  rintro e w16 ⟨rfl, hb16⟩
  have q16 := bth q15 hb16
  go_wp2_with fail
  go_ret
  exact ⟨rfl, q16⟩
end Go.Proofs.Ytekcpadlmfaihaa
namespace Go.Proofs.Ytekcpadlmfaihaa
open Go.RowKit
theorem fnExactReadHeap_walk (h : Hp) (cs : List Value) (s : Str) (w : World) (hr : rep w w.heap.size h.toD cs) (_hs : s.length ≤ maxLen) :
    Calls Try.prog 6 #[av cs, sv s] w fun e w' => e = .returned (.bool true) ∧ Below w.heap.size w w' :=
  fnExactReadHeap_of h cs s w hr (fun hz cs w hr => specReadHeap_of h hz s cs w hr (fun w hr => specIsHeap_any h hz cs w hr)) (fun hz cs w hr => implReadHeap_of h hz s cs w hr (fun w hr => implIsHeap_any h hz cs w hr))
end Go.Proofs.Ytekcpadlmfaihaa
