/- Vectors assembled out of the cells of a heap: what assembled returns. -/
import Derived.Test.YtekcpadlmfaihaaJG
import Derived.Test.YtekcpadlmfaihaaJL
set_option linter.unusedSimpArgs false
set_option linter.unusedVariables false
namespace Go.Proofs.Ytekcpadlmfaihaa
open Go.RowKit
/-- What is known of a cell whose vector fits. -/
theorem depD_cell {h : Hp} {d : Nat} {k : Int} (hd : depD h d k = true) : ∃ (j : Nat) (x : Cel), k = j ∧ j < h.cells.length ∧ h.cells[j]? = some x ∧ x.value.parts = [] ∧ x.parts.length ≤ 40 ∧ (∀ p ∈ x.parts, ∃ d', d = d' + 1 ∧ depD h d' p = true) ∧ asm h d k = { x.value with parts := x.parts.map (asm h (d - 1)) } := by
  obtain ⟨j, x, rfl, hj, hx, he⟩ := inR_at (celD_in (depD_pos hd))
  refine ⟨j, x, rfl, hj, hx, ?_⟩
  cases d with
  | zero =>
    rw [depD, he] at hd
    simp only [Bool.and_eq_true, decide_eq_true_eq] at hd
    have h0 := fitL_zero hd.1
    have hv := List.length_eq_zero_iff.1 hd.2
    refine ⟨hv, by simp [h0], by simp [h0], ?_⟩
    rw [asm, he, h0]
    rcases hxv : x.value with ⟨a, b, c, d, e, f, g, i⟩
    rw [hxv] at hv
    simp only at hv
    subst hv
    rfl
  | succ d =>
    rw [depD, he] at hd
    simp only [Bool.and_eq_true, decide_eq_true_eq, List.all_eq_true] at hd
    obtain ⟨⟨h1, h2⟩, h3⟩ := hd
    refine ⟨List.length_eq_zero_iff.1 h3, ?_, fun p hp => ⟨d, rfl, h2 p hp⟩, by rw [asm, he]; rfl⟩
    simp only [fitL, Bool.and_eq_true, Bool.or_eq_true, decide_eq_true_eq] at h1
    omega
def hpc (h : Hp) (A : Option Addr) (n c : Nat) (Am : Option Addr) (nm cm : Nat) (As : Option Addr) (ns ca : Nat) : List Value := [.slice A n c, .slice Am nm cm, .slice As ns ca, .int .i64 h.copies]
/-- The loop over the parts of a cell. -/
def asL (v : Vec) (ps : List Vec) (h : Hp) (w W0 : World) (bs : Nat) (hcs : List Value) (np g : Nat) (A1 : Option Addr) (n1 c1 : Nat) (A2 : Option Addr) (n2 c2 : Nat) (A3 : Option Addr) (n3 c3 : Nat) (A4 : Option Addr) (n4 c4 : Nat) (F1 F2 F3 F4 : List Nat) (i : Value) (wr : World) : Prop :=
  ∃ (k : Nat) (Ao : Option Addr) (co : Nat) (FP : List Nat), k ≤ np ∧ i = .int .i64 k ∧ Blk wr g 34 [.int .i64 v.kind, .slice A1 n1 c1, .slice Ao k co, .slice A2 n2 c2, .slice A3 n3 c3, .slice A4 n4 c4, .int .i64 v.code, .int .i64 v.env] ∧
  Blk wr w.heap.size 48 hcs ∧
  own Try.prog wr (.sl ((ps.take k).map Vec.toD)) 32 FP [.slice Ao k co] ∧
  own Try.prog wr (.sl (v.items.map Item.toD)) 31 F1 [.slice A1 n1 c1] ∧ own Try.prog wr (.sl (v.names.map .s)) 24 F2 [.slice A2 n2 c2] ∧ own Try.prog wr (.sl (v.cls.map .s)) 24 F3 [.slice A3 n3 c3] ∧ own Try.prog wr (.sl (v.levels.map .s)) 24 F4 [.slice A4 n4 c4] ∧ Fresh bs (FP ++ (g :: (F1 ++ (F2 ++ (F3 ++ F4))))) ∧ Below W0.heap.size W0 wr
def asP (h : Hp) (d : Nat) : Prop := ∀ (k : Int) (cs : List Value) (w : World), rep w w.heap.size h.toD cs → depD h d k = true → Calls Try.prog 49 #[av cs, .int .i64 k] w (NewSt (asm h d k).toD 34 w)
theorem own_nilF {P : Program} {w : World} {t : TypeId} {F : List Nat} {A : Option Addr} {n c : Nat} (h : own P w (.sl []) t F [.slice A n c]) : n = 0 := (own_len h).symm
set_option maxRecDepth 100000 in
set_option maxHeartbeats 8000000 in
theorem assembled_of (h : Hp) (hz : szD h.toD ≤ 1048576) (d : Nat) (ih : ∀ d', d = d' + 1 → asP h d') : asP h d := by
  intro k cs w hr hd
  obtain ⟨j, x, rfl, hjl, hx, hxv, h40, hps, hasm⟩ := depD_cell hd
  have hcz := celD_sz h (j : Int)
  rw [celD_at hx] at hcz
  obtain ⟨A, n, c, Am, nm, cm, As, ns, ca, rfl, rc, rn, rs, wc⟩ := Heap_open hr
  have hl := (rep_sl_len rc).1
  rw [List.length_map] at hl
  obtain ⟨b, off, x', Ai, ni, ci, Ap, np, cp, An, nn, cn, Ac, nc, cc, Al, nl, cl, Aq, nq, cq, rfl, hbl, hx', hrx, e0, e1, e2, e3, e4, e5, e6, e7, e8, e9⟩ := Cell_at rc (k := j) (by omega)
  rw [hx] at hx'
  injection hx' with hx'
  subst hx'
  obtain ⟨_, _, _, _, _, _, _, _, _, _, _, _, _, _, _, Aq', nq', cq', hcs, wcn, rv, rq⟩ := Cell_open hrx
  simp only [List.cons.injEq, Value.slice.injEq, true_and, and_true] at hcs
  obtain ⟨⟨rfl, rfl, rfl⟩, ⟨rfl, rfl, rfl⟩, ⟨rfl, rfl, rfl⟩, ⟨rfl, rfl, rfl⟩, ⟨rfl, rfl, rfl⟩, rfl, rfl, rfl⟩ := hcs
  obtain ⟨Aq', nq', cq', he, hqc, hqm, hq, _⟩ := (repI _ _ _ _).1 rq
  injection he with he; injection he with f1 f2 f3; subst f1 f2 f3
  have hql := hq.len
  have hnq : nq ≤ 40 := by omega
  have bj : (j : Int) < (n : Int) := by omega
  have bj0 : (0 : Int) ≤ (j : Int) := by omega
  have q0 := ((Below.refl w.heap.size w).alloc (Nat.le_refl _) (.cells #[.slice (some ⟨b, off, none⟩) n c, .slice Am nm cm, .slice As ns ca, .int .i64 h.copies] 48)).alloc (by simp only [wsize_alloc]; omega) (.cells #[.int .i64 0, .slice none 0 0, .slice none 0 0, .slice none 0 0, .slice none 0 0, .slice none 0 0, .int .i64 0, .int .i64 0] 34)
  have kH : Blk ((w.alloc (.cells #[.slice (some ⟨b, off, none⟩) n c, .slice Am nm cm, .slice As ns ca, .int .i64 h.copies] 48)).alloc (.cells #[.int .i64 0, .slice none 0 0, .slice none 0 0, .slice none 0 0, .slice none 0 0, .slice none 0 0, .int .i64 0, .int .i64 0] 34)) w.heap.size 48 [.slice (some ⟨b, off, none⟩) n c, .slice Am nm cm, .slice As ns ca, .int .i64 h.copies] := (Blk.new' (l := [.slice (some ⟨b, off, none⟩) n c, .slice Am nm cm, .slice As ns ca, .int .i64 h.copies])).al
  have kR : Blk ((w.alloc (.cells #[.slice (some ⟨b, off, none⟩) n c, .slice Am nm cm, .slice As ns ca, .int .i64 h.copies] 48)).alloc (.cells #[.int .i64 0, .slice none 0 0, .slice none 0 0, .slice none 0 0, .slice none 0 0, .slice none 0 0, .int .i64 0, .int .i64 0] 34)) (w.heap.size + 1) 34 [.int .i64 0, .slice none 0 0, .slice none 0 0, .slice none 0 0, .slice none 0 0, .slice none 0 0, .int .i64 0, .int .i64 0] := by
    have := Blk.new' (w := w.alloc (.cells #[.slice (some ⟨b, off, none⟩) n c, .slice Am nm cm, .slice As ns ca, .int .i64 h.copies] 48)) (t := 34) (l := [.int .i64 0, .slice none 0 0, .slice none 0 0, .slice none 0 0, .slice none 0 0, .slice none 0 0, .int .i64 0, .int .i64 0])
    simpa only [wsize_alloc] using this
  have HX := Lib.hid hx
  have HXV := Lib.hid hxv
  have HIH := Lib.hid ih
  have HPS := Lib.hid hps
  have HASM := Lib.hid hasm
  have HQL := Lib.hid hql
  have HR := Lib.hid hr
  clear hx hxv ih hps hasm hql hr hd hl
  have rv0 := rep_in rv q0 q0.size
  have zv0 : szD x.value.toD ≤ 500000000000 := by omega
  go_enter Try.func49, Try.ntmps49
  go_wp2_with fail
  refine (copyVector_any x.value _ _ rv0 zv0).mono ?_
  rintro e w1 ⟨cs1, G, rfl, o1, fr1, hb1⟩
  obtain ⟨A1, n1, c1, A5, n5, c5, A2, n2, c2, A3, n3, c3, A4, n4, c4, F1, F5, F2, F3, F4, rfl, rfl, wk, p1, p5, p2, p3, p4, wcode, wenv⟩ := Vector_own_inv o1
  rw [HXV.out] at p5
  obtain rfl := own_nilF p5
  obtain ⟨hc1, hf1⟩ := bcell hb1; have z1 := hb1.size; (try simp only [wsize_drew, wsize_alloc, wsize_set] at hc1 hf1 z1)
  have kH1 := kH.next hb1
  have kR1 := kR.next hb1
  have yb : b < w1.heap.size := by omega
  have y0 : w.heap.size < w1.heap.size := by omega
  have y1 : w.heap.size + 1 < w1.heap.size := by omega
  have q1 := bth q0 hb1
  have e9 := (q1.cell (p := ⟨b, off + j * 10 + 9, none⟩) hbl).trans e9
  obtain ⟨g0, g1, g2, g3⟩ := kH1.c4
  clear e0 e1 e2 e3 e4 e5 e6 e7 e8 hc1 hf1
  go_wp2_with fail
  clear g0 g1 g2 g3 e9
  have kg : Blk (w1.alloc (.cells #[.int .i64 x.value.kind, .slice A1 n1 c1, .slice A5 0 c5, .slice A2 n2 c2, .slice A3 n3 c3, .slice A4 n4 c4, .int .i64 x.value.code, .int .i64 x.value.env] 34)) w1.heap.size 34 [.int .i64 x.value.kind, .slice A1 n1 c1, .slice A5 0 c5, .slice A2 n2 c2, .slice A3 n3 c3, .slice A4 n4 c4, .int .i64 x.value.code, .int .i64 x.value.env] := Blk.new'
  have qa := (Below.refl w1.heap.size w1).alloc (Nat.le_refl _) (.cells #[.int .i64 x.value.kind, .slice A1 n1 c1, .slice A5 0 c5, .slice A2 n2 c2, .slice A3 n3 c3, .slice A4 n4 c4, .int .i64 x.value.code, .int .i64 x.value.env] 34)
  have l1 := own_lo o1
  go_loopw [22] (fun i wr => asL x.value (x.parts.map (asm h (d - 1))) h w w (w.heap.size + 2) [.slice (some ⟨b, off, none⟩) n c, .slice Am nm cm, .slice As ns ca, .int .i64 h.copies] nq w1.heap.size A1 n1 c1 A2 n2 c2 A3 n3 c3 A4 n4 c4 F1 F2 F3 F4 i wr ∧ Blk wr (w.heap.size + 1) 34 [.int .i64 0, .slice none 0 0, .slice none 0 0, .slice none 0 0, .slice none 0 0, .slice none 0 0, .int .i64 0, .int .i64 0]) (fun i _ => nq - (intOf i).toNat)
  case atStart =>
    refine ⟨⟨0, A5, c5, F5, by omega, rfl, kg, kH1.al, by simpa using own_al p5, own_al p1, own_al p2, own_al p3, own_al p4, ?_, bel_al q1 q1.size⟩, kR1.al⟩
    have f1 : Fresh (w.heap.size + 2) (w1.heap.size :: (F1 ++ (F5 ++ (F2 ++ (F3 ++ F4))))) := Fresh.cons (l1.notin (Nat.le_refl _)) (by omega) (fr1.mono (by simp only [wsize_alloc]; omega))
    exact f1.perm (List.perm_iff_count.2 fun a => by simp only [List.count_append, List.count_cons]; omega)
  case round =>
    clear kg kH1 kR1 p1 p2 p3 p4 p5 qa o1 l1
    obtain ⟨⟨k, Ao, co, FP, hk, rfl, kg, kH, oP, o1, o2, o3, o4, fr, bb⟩, kR⟩ := hrel
    have z0 := bb.size
    have hgl := kg.lt
    have yb : b < wr.heap.size := by omega
    have yh : w.heap.size < wr.heap.size := by omega
    obtain ⟨g0, g1, g2, g3⟩ := kH.c4
    by_cases hlt : k < nq
    · obtain ⟨bq, oq, y, rfl, hbq, hy, hcq⟩ := (hq.below bb).at_ hlt
      have c0 := hcq 0 _ rfl
      simp only [Nat.mul_one, Nat.add_zero] at c0
      have HY := Lib.hid (take_snoc' (l := x.parts.map (asm h (d - 1))) (k := k) (x := asm h (d - 1) y) (by rw [List.getElem?_map, hy]; rfl))
      obtain ⟨d', hd', hdy⟩ := HPS.out y (List.mem_of_getElem? hy)
      have HP := Lib.hid (HIH.out d' hd')
      have HD : Hid (d - 1 = d') := Lib.hid (by omega)
      have HDY := Lib.hid hdy
      have ry := rep_in HR.out bb bb.size
      have hyb : bq < wr.heap.size := by omega
      clear hcq hy hd' hdy
      go_upto_region 5 with fail
      clear c0 g0 g1 g2 g3
      obtain ⟨g0, g1, g2, g3⟩ := kH.c4
      have eg := kg.cell 2
      simp only [List.getElem?_cons_zero, List.getElem?_cons_succ] at eg
      have zf := kg.frozen 2
      have lP := own_lo oP
      have LL := Lib.hid (lP.app (Lo.cons hgl ((own_lo o1).app ((own_lo o2).app ((own_lo o3).app (own_lo o4))))))
      have frP := fr.left
      have dg := fr.dis w1.heap.size List.mem_cons_self
      have ng1 := (List.nodup_cons.1 fr.right.1).1
      simp only [List.mem_append, not_or] at ng1
      obtain ⟨N1, N2, N3, N4⟩ := ng1
      have D1 := Lib.hid (fun y (hy : y ∈ F1) => fr.dis y (by simp [hy]))
      have D2 := Lib.hid (fun y (hy : y ∈ F2) => fr.dis y (by simp [hy]))
      have D3 := Lib.hid (fun y (hy : y ∈ F3) => fr.dis y (by simp [hy]))
      have D4 := Lib.hid (fun y (hy : y ∈ F4) => fr.dis y (by simp [hy]))
      go_region_law (first
        | (go_simp; go_at_call 49; refine (HP.out y _ _ (by (repeat' (first | with_reducible assumption | with_reducible refine rep_dw ?_ | with_reducible refine rep_al ?_ | with_reducible refine rep_next ?_ (by with_reducible assumption)))) HDY.out).mono ?_; rintro e w2 ⟨cs1, G1, rfl, ho1, hG1, hb2⟩; obtain ⟨Ci, ki, ei, Cp, kp, ep, Cn, kn, en, Cc, kc, ec, Cl, kl, el, rfl, _⟩ := Vector_open (own_rep _ _ _ _ ho1); obtain ⟨hc2, hf2⟩ := bcell hb2; have z2 := hb2.size; (try simp only [wsize_drew, wsize_alloc, wsize_set] at hc2 hf2 z2 hG1); have yg : w1.heap.size < w2.heap.size := by omega)
        | (refine step_appD (A := Ao) (n := k) (c := co) (b := w2.heap.size) (m := 1) (xs := ((x.parts.map (asm h (d - 1))).take k).map Vec.toD) (F := FP) (d := (asm h d' y).toD) (F' := G1) (te := 34) (cs := [.int .i64 (asm h d' y).kind, .slice Ci ki ei, .slice Cp kp ep, .slice Cn kn en, .slice Cc kc ec, .slice Cl kl el, .int .i64 (asm h d' y).code, .int .i64 (asm h d' y).env]) tyVector ?_ ?_ (.tmp 27) (.tmp 31) ?_ ?_ ?_ ?_ ?_ ?_ ?_ ?_ ?_ ?_ ?_; (kernel_rfl); (rfl); (rfl); (rfl); (focus (repeat' (first | with_reducible assumption | with_reducible refine own_dw ?_ | with_reducible refine own_al ?_ | with_reducible refine own_pk ?_ ?_ | with_reducible exact notin_nil | with_reducible refine notin_app ?_ ?_ | (with_reducible refine Fresh.notin (by with_reducible assumption) ?_; ((try simp only [wsize_drew, wsize_alloc, wsize_set]); omega)) | (with_reducible refine Lo.notin (by with_reducible assumption) ?_; ((try simp only [wsize_drew, wsize_alloc, wsize_set]); omega)) | with_reducible refine own_below ?_ (by with_reducible assumption)))); (rfl); (focus (repeat' (first | with_reducible assumption | with_reducible exact Blk.new' | with_reducible exact Blk.newd | with_reducible apply Blk.set8 | (with_reducible refine Blk.pk ?_ ?_; ((try simp only [wsize_drew, wsize_alloc, wsize_set]); omega)) | with_reducible refine Blk.dw ?_ | with_reducible refine Blk.al ?_ | with_reducible refine Blk.next ?_ (by with_reducible assumption)))); (focus (repeat' (first | with_reducible assumption | with_reducible refine own_dw ?_ | with_reducible refine own_al ?_ | with_reducible refine own_pk ?_ ?_ | with_reducible exact notin_nil | with_reducible refine notin_app ?_ ?_ | (with_reducible refine Fresh.notin (by with_reducible assumption) ?_; ((try simp only [wsize_drew, wsize_alloc, wsize_set]); omega)) | (with_reducible refine Lo.notin (by with_reducible assumption) ?_; ((try simp only [wsize_drew, wsize_alloc, wsize_set]); omega)) | with_reducible refine own_below ?_ (by with_reducible assumption)))); (rfl); (exact (Fresh.app2 lP frP hG1 (by omega)).1); (unfold maxLen; omega); (omega); intro gg cc w3 FP2 oP2 ap2 md2; have kg2 := Blk.mod (t := 34) (cs := [.int .i64 x.value.kind, .slice A1 n1 c1, .slice Ao k co, .slice A2 n2 c2, .slice A3 n3 c3, .slice A4 n4 c4, .int .i64 x.value.code, .int .i64 x.value.env]) (by (repeat' (first | with_reducible assumption | with_reducible exact Blk.new' | with_reducible exact Blk.newd | with_reducible apply Blk.set8 | (with_reducible refine Blk.pk ?_ ?_; ((try simp only [wsize_drew, wsize_alloc, wsize_set]); omega)) | with_reducible refine Blk.dw ?_ | with_reducible refine Blk.al ?_ | with_reducible refine Blk.next ?_ (by with_reducible assumption)))) md2 dg; have eg2 := kg2.cell 2; (simp only [List.getElem?_cons_zero, List.getElem?_cons_succ] at eg2); have zf2 := kg2.frozen 2))
      all_goals
        go_wp2_with fail
        go_roundw
        case rel =>
          have z3 := md2.size
          simp only [wsize_drew, wsize_alloc, wsize_set] at z3
          have ng : w1.heap.size ∉ FP2 := ap2.notin dg hG1.2 (by omega) (by ((try simp only [wsize_drew, wsize_alloc, wsize_set]); omega))
          refine ⟨⟨k + 1, some ⟨gg, 0, none⟩, cc, FP2, by omega, by go_num, ?_, ?_, ?_, ?_, ?_, ?_, ?_, ?_, ?_⟩, ?_⟩
          · exact kg2.set_ 2 _
          · have k2 := Blk.mod (g := w.heap.size) (t := 48) (cs := [.slice (some ⟨b, off, none⟩) n c, .slice Am nm cm, .slice As ns ca, .int .i64 h.copies]) (by (repeat' (first | with_reducible assumption | with_reducible exact Blk.new' | with_reducible exact Blk.newd | with_reducible apply Blk.set8 | (with_reducible refine Blk.pk ?_ ?_; ((try simp only [wsize_drew, wsize_alloc, wsize_set]); omega)) | with_reducible refine Blk.dw ?_ | with_reducible refine Blk.al ?_ | with_reducible refine Blk.next ?_ (by with_reducible assumption)))) md2 (frP.notin (by omega))
            exact k2.pk (by simp only; omega)
          · rw [HY.out, HD.out, List.map_append, List.map_cons, List.map_nil]
            rw [HD.out] at oP2
            (repeat' (first | with_reducible assumption | with_reducible refine own_dw ?_ | with_reducible refine own_al ?_ | with_reducible refine own_pk ?_ ?_ | with_reducible exact notin_nil | with_reducible refine notin_app ?_ ?_ | (with_reducible refine Fresh.notin (by with_reducible assumption) ?_; ((try simp only [wsize_drew, wsize_alloc, wsize_set]); omega)) | (with_reducible refine Lo.notin (by with_reducible assumption) ?_; ((try simp only [wsize_drew, wsize_alloc, wsize_set]); omega)) | with_reducible refine own_below ?_ (by with_reducible assumption)))
          · have o12 := own_mod (cs := [.slice A1 n1 c1]) (d := .sl (x.value.items.map Item.toD)) (t := 31) (P := Try.prog) (G := F1) (by (repeat' (first | with_reducible assumption | with_reducible refine own_dw ?_ | with_reducible refine own_al ?_ | with_reducible refine own_pk ?_ ?_ | with_reducible exact notin_nil | with_reducible refine notin_app ?_ ?_ | (with_reducible refine Fresh.notin (by with_reducible assumption) ?_; ((try simp only [wsize_drew, wsize_alloc, wsize_set]); omega)) | (with_reducible refine Lo.notin (by with_reducible assumption) ?_; ((try simp only [wsize_drew, wsize_alloc, wsize_set]); omega)) | with_reducible refine own_below ?_ (by with_reducible assumption)))) md2 D1.out
            (repeat' (first | with_reducible assumption | with_reducible refine own_dw ?_ | with_reducible refine own_al ?_ | with_reducible refine own_pk ?_ ?_ | with_reducible exact notin_nil | with_reducible refine notin_app ?_ ?_ | (with_reducible refine Fresh.notin (by with_reducible assumption) ?_; ((try simp only [wsize_drew, wsize_alloc, wsize_set]); omega)) | (with_reducible refine Lo.notin (by with_reducible assumption) ?_; ((try simp only [wsize_drew, wsize_alloc, wsize_set]); omega)) | with_reducible refine own_below ?_ (by with_reducible assumption)))
          · have o12 := own_mod (cs := [.slice A2 n2 c2]) (d := .sl (x.value.names.map .s)) (t := 24) (P := Try.prog) (G := F2) (by (repeat' (first | with_reducible assumption | with_reducible refine own_dw ?_ | with_reducible refine own_al ?_ | with_reducible refine own_pk ?_ ?_ | with_reducible exact notin_nil | with_reducible refine notin_app ?_ ?_ | (with_reducible refine Fresh.notin (by with_reducible assumption) ?_; ((try simp only [wsize_drew, wsize_alloc, wsize_set]); omega)) | (with_reducible refine Lo.notin (by with_reducible assumption) ?_; ((try simp only [wsize_drew, wsize_alloc, wsize_set]); omega)) | with_reducible refine own_below ?_ (by with_reducible assumption)))) md2 D2.out
            (repeat' (first | with_reducible assumption | with_reducible refine own_dw ?_ | with_reducible refine own_al ?_ | with_reducible refine own_pk ?_ ?_ | with_reducible exact notin_nil | with_reducible refine notin_app ?_ ?_ | (with_reducible refine Fresh.notin (by with_reducible assumption) ?_; ((try simp only [wsize_drew, wsize_alloc, wsize_set]); omega)) | (with_reducible refine Lo.notin (by with_reducible assumption) ?_; ((try simp only [wsize_drew, wsize_alloc, wsize_set]); omega)) | with_reducible refine own_below ?_ (by with_reducible assumption)))
          · have o12 := own_mod (cs := [.slice A3 n3 c3]) (d := .sl (x.value.cls.map .s)) (t := 24) (P := Try.prog) (G := F3) (by (repeat' (first | with_reducible assumption | with_reducible refine own_dw ?_ | with_reducible refine own_al ?_ | with_reducible refine own_pk ?_ ?_ | with_reducible exact notin_nil | with_reducible refine notin_app ?_ ?_ | (with_reducible refine Fresh.notin (by with_reducible assumption) ?_; ((try simp only [wsize_drew, wsize_alloc, wsize_set]); omega)) | (with_reducible refine Lo.notin (by with_reducible assumption) ?_; ((try simp only [wsize_drew, wsize_alloc, wsize_set]); omega)) | with_reducible refine own_below ?_ (by with_reducible assumption)))) md2 D3.out
            (repeat' (first | with_reducible assumption | with_reducible refine own_dw ?_ | with_reducible refine own_al ?_ | with_reducible refine own_pk ?_ ?_ | with_reducible exact notin_nil | with_reducible refine notin_app ?_ ?_ | (with_reducible refine Fresh.notin (by with_reducible assumption) ?_; ((try simp only [wsize_drew, wsize_alloc, wsize_set]); omega)) | (with_reducible refine Lo.notin (by with_reducible assumption) ?_; ((try simp only [wsize_drew, wsize_alloc, wsize_set]); omega)) | with_reducible refine own_below ?_ (by with_reducible assumption)))
          · have o12 := own_mod (cs := [.slice A4 n4 c4]) (d := .sl (x.value.levels.map .s)) (t := 24) (P := Try.prog) (G := F4) (by (repeat' (first | with_reducible assumption | with_reducible refine own_dw ?_ | with_reducible refine own_al ?_ | with_reducible refine own_pk ?_ ?_ | with_reducible exact notin_nil | with_reducible refine notin_app ?_ ?_ | (with_reducible refine Fresh.notin (by with_reducible assumption) ?_; ((try simp only [wsize_drew, wsize_alloc, wsize_set]); omega)) | (with_reducible refine Lo.notin (by with_reducible assumption) ?_; ((try simp only [wsize_drew, wsize_alloc, wsize_set]); omega)) | with_reducible refine own_below ?_ (by with_reducible assumption)))) md2 D4.out
            (repeat' (first | with_reducible assumption | with_reducible refine own_dw ?_ | with_reducible refine own_al ?_ | with_reducible refine own_pk ?_ ?_ | with_reducible exact notin_nil | with_reducible refine notin_app ?_ ?_ | (with_reducible refine Fresh.notin (by with_reducible assumption) ?_; ((try simp only [wsize_drew, wsize_alloc, wsize_set]); omega)) | (with_reducible refine Lo.notin (by with_reducible assumption) ?_; ((try simp only [wsize_drew, wsize_alloc, wsize_set]); omega)) | with_reducible refine own_below ?_ (by with_reducible assumption)))
          · exact Fresh.repl fr LL.out (by omega) hG1.2 (by ((try simp only [wsize_drew, wsize_alloc, wsize_set]); omega)) ap2
          · have B2 := bel_mod (B := w.heap.size) (a := w) (by (repeat' (first | with_reducible assumption | with_reducible exact Below.refl _ _ | with_reducible refine bel_dw ?_ | with_reducible refine bel_al ?_ ?_ | with_reducible refine bel_set ?_ ?_ | with_reducible refine bel_call ?_ (by with_reducible assumption) ?_ | ((try simp only [wsize_drew, wsize_alloc, wsize_set]); omega)))) md2 (fun y hy => by have := frP.2 y hy; omega) (by ((try simp only [wsize_drew, wsize_alloc, wsize_set]); omega))
            (repeat' (first | with_reducible assumption | with_reducible exact Below.refl _ _ | with_reducible refine bel_dw ?_ | with_reducible refine bel_al ?_ ?_ | with_reducible refine bel_set ?_ ?_ | with_reducible refine bel_call ?_ (by with_reducible assumption) ?_ | ((try simp only [wsize_drew, wsize_alloc, wsize_set]); omega)))
          · have k2 := Blk.mod (g := w.heap.size + 1) (t := 34) (cs := [.int .i64 0, .slice none 0 0, .slice none 0 0, .slice none 0 0, .slice none 0 0, .slice none 0 0, .int .i64 0, .int .i64 0]) (by (repeat' (first | with_reducible assumption | with_reducible exact Blk.new' | with_reducible exact Blk.newd | with_reducible apply Blk.set8 | (with_reducible refine Blk.pk ?_ ?_; ((try simp only [wsize_drew, wsize_alloc, wsize_set]); omega)) | with_reducible refine Blk.dw ?_ | with_reducible refine Blk.al ?_ | with_reducible refine Blk.next ?_ (by with_reducible assumption)))) md2 (frP.notin (by omega))
            exact k2.pk (by simp only; omega)
        case measure => simp [intOf]; omega
    · obtain rfl : k = nq := by omega
      obtain ⟨r0, r1, r2, r3, r4, r5, r6, r7⟩ := kR.c8
      have hR1 : w.heap.size + 1 < wr.heap.size := by omega
      obtain ⟨e0, e1, e2, e3, e4, e5, e6, e7⟩ := kg.c8
      have zr := fun i => kR.frozen i
      have zr0 := zr 0; have zr1 := zr 1; have zr2 := zr 2; have zr3 := zr 3; have zr4 := zr 4; have zr5 := zr 5; have zr6 := zr 6; have zr7 := zr 7
      clear zr g0 g1 g2 g3
      go_wp2_with fail
      rw [List.take_of_length_le (by rw [List.length_map, HQL.out]; omega)] at oP
      have hgR : w1.heap.size ≠ w.heap.size + 1 := by omega
      refine bodyPost_ret (v := .agg #[.int .i64 x.value.kind, .slice A1 n1 c1, .slice Ao k co, .slice A2 n2 c2, .slice A3 n3 c3, .slice A4 n4 c4, .int .i64 x.value.code, .int .i64 x.value.env]) (by simp [results, Try.results49, go_sem, r0, r1, r2, r3, r4, r5, r6, r7, hR1]) rfl ⟨_, F1 ++ (FP ++ (F2 ++ (F3 ++ (F4 ++ [])))), rfl, ?_, ?_, ?_⟩
      · rw [HASM.out]
        have q1 := fr.right.tail
        have qP := fr.left
        have q2 := q1.right
        have q3 := q2.right
        have f1 := q1.left
        have f2 := q2.left
        have f3 := q3.left
        have f4 := q3.right
        refine Vector_own (x := { x.value with parts := x.parts.map (asm h (d - 1)) }) wk ?_ ?_ ?_ ?_ ?_ wcode wenv
        all_goals (repeat' (first | with_reducible assumption | with_reducible refine own_dw ?_ | with_reducible refine own_al ?_ | with_reducible refine own_pk ?_ ?_ | with_reducible exact notin_nil | with_reducible refine notin_app ?_ ?_ | (with_reducible refine Fresh.notin (by with_reducible assumption) ?_; ((try simp only [wsize_drew, wsize_alloc, wsize_set]); omega)) | (with_reducible refine Lo.notin (by with_reducible assumption) ?_; ((try simp only [wsize_drew, wsize_alloc, wsize_set]); omega)) | with_reducible refine own_below ?_ (by with_reducible assumption)))
      · have fr2 : Fresh w.heap.size (FP ++ (F1 ++ (F2 ++ (F3 ++ F4)))) := (fr.mono (by omega)).sub ((List.Sublist.refl _).append (List.sublist_cons_self _ _))
        exact fr2.perm (by simp [List.perm_iff_count]; omega)
      · (repeat' (first | with_reducible assumption | with_reducible exact Below.refl _ _ | with_reducible refine bel_dw ?_ | with_reducible refine bel_al ?_ ?_ | with_reducible refine bel_set ?_ ?_ | with_reducible refine bel_call ?_ (by with_reducible assumption) ?_ | ((try simp only [wsize_drew, wsize_alloc, wsize_set]); omega)))
theorem assembled_any (h : Hp) (hz : szD h.toD ≤ 1048576) : ∀ d : Nat, asP h d
  | 0 => assembled_of h hz 0 (fun d' e => by omega)
  | d + 1 => assembled_of h hz (d + 1) (fun d' e => by
      obtain rfl : d = d' := by omega
      exact assembled_any h hz d)
end Go.Proofs.Ytekcpadlmfaihaa
