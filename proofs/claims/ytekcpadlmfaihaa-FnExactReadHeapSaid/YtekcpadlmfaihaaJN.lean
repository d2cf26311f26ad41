/- Vectors assembled out of the cells of a heap: what l36Load returns. Cells of a heap that fit: what l36Depth returns. -/
import Derived.Test.YtekcpadlmfaihaaJM
import Derived.Deep.DrawnRows
set_option linter.unusedSimpArgs false
set_option linter.unusedVariables false
namespace Go.Proofs.Ytekcpadlmfaihaa
open Go.RowKit
attribute [local go_sem ↓] Go.wp_at_zero Go.wp_at_succ
def zV : List Value := [.int .i64 0, .slice none 0 0, .slice none 0 0, .slice none 0 0, .slice none 0 0, .slice none 0 0, .int .i64 0, .int .i64 0]
/-- One part more. -/
theorem asL_next {v y : Vec} {ps : List Vec} {h : Hp} {w wr w2 w3 : World} {hcs : List Value} {np g k co gg cc : Nat} {Ao A1 A2 A3 A4 : Option Addr} {n1 c1 n2 c2 n3 c3 n4 c4 : Nat} {F1 F2 F3 F4 FP G1 FP2 : List Nat} {ob : List Value}
    (hk : k < np) (HY : ps.take (k + 1) = ps.take k ++ [y])
    (kg : Blk wr g 34 [.int .i64 v.kind, .slice A1 n1 c1, .slice Ao k co, .slice A2 n2 c2, .slice A3 n3 c3, .slice A4 n4 c4, .int .i64 v.code, .int .i64 v.env]) (kH : Blk wr w.heap.size 48 hcs)
    (oP : own Try.prog wr (.sl ((ps.take k).map Vec.toD)) 32 FP [.slice Ao k co])
    (o1 : own Try.prog wr (.sl (v.items.map Item.toD)) 31 F1 [.slice A1 n1 c1]) (o2 : own Try.prog wr (.sl (v.names.map .s)) 24 F2 [.slice A2 n2 c2]) (o3 : own Try.prog wr (.sl (v.cls.map .s)) 24 F3 [.slice A3 n3 c3]) (o4 : own Try.prog wr (.sl (v.levels.map .s)) 24 F4 [.slice A4 n4 c4])
    (fr : Fresh (w.heap.size + 2) (FP ++ (g :: (F1 ++ (F2 ++ (F3 ++ F4)))))) (bb : Below w.heap.size w wr) (kR : Blk wr (w.heap.size + 1) 34 zV) (hgl : g < wr.heap.size) (hwr : w.heap.size + 1 < wr.heap.size)
    (hb : Below wr.drew.heap.size wr.drew w2) (hG : Fresh wr.heap.size G1) (ap : AppF (w2.heap.size + 1) FP G1 FP2) (md : Mod FP (w2.alloc (.cells ob.toArray 34)) w3)
    (oP2 : own Try.prog w3 (.sl ((ps.take k).map Vec.toD ++ [y.toD])) 32 FP2 [.slice (some ⟨gg, 0, none⟩) (k + 1) cc]) :
    asL v ps h w w (w.heap.size + 2) hcs np g A1 n1 c1 A2 n2 c2 A3 n3 c3 A4 n4 c4 F1 F2 F3 F4 (.int .i64 ((k : Int) + 1)) (w3.setCell ⟨g, 2, none⟩ (.slice (some ⟨gg, 0, none⟩) (k + 1) cc)) ∧ Blk (w3.setCell ⟨g, 2, none⟩ (.slice (some ⟨gg, 0, none⟩) (k + 1) cc)) (w.heap.size + 1) 34 zV := by
  have lP := own_lo oP
  have LL := lP.app (Lo.cons hgl ((own_lo o1).app ((own_lo o2).app ((own_lo o3).app (own_lo o4)))))
  have frP := fr.left
  have dg := fr.dis g List.mem_cons_self
  have hgB := fr.right.2 g List.mem_cons_self
  have ng1 := (List.nodup_cons.1 fr.right.1).1
  simp only [List.mem_append, not_or] at ng1
  obtain ⟨N1, N2, N3, N4⟩ := ng1
  have z2 := hb.size
  have z3 := md.size
  simp only [wsize_alloc, wsize_drew] at z2 z3
  have hall : Below wr.heap.size wr (w2.alloc (.cells ob.toArray 34)) := bel_al ((Below.refl wr.heap.size wr).drew.trans hb) z2
  have ng : g ∉ FP2 := ap.notin dg hG.2 hgl (by omega)
  have cp : ∀ {d : D} {t : TypeId} {F : List Nat} {cs : List Value}, own Try.prog wr d t F cs → (∀ y ∈ F, y ∉ FP) → g ∉ F → own Try.prog (w3.setCell ⟨g, 2, none⟩ (.slice (some ⟨gg, 0, none⟩) (k + 1) cc)) d t F cs := fun o hd hn => own_pk (own_mod (own_below o hall) md hd) hn
  refine ⟨⟨k + 1, some ⟨gg, 0, none⟩, cc, FP2, by omega, by go_num, ?_, ?_, ?_, cp o1 (fun y hy => fr.dis y (by simp [hy])) N1, cp o2 (fun y hy => fr.dis y (by simp [hy])) N2, cp o3 (fun y hy => fr.dis y (by simp [hy])) N3, cp o4 (fun y hy => fr.dis y (by simp [hy])) N4, ?_, ?_⟩, ?_⟩
  · exact ((kg.next hall).mod md dg).set_ 2 _
  · exact ((kH.next hall).mod md (frP.notin (by omega))).pk (by simp only; omega)
  · rw [HY, List.map_append, List.map_cons, List.map_nil]
    exact own_pk oP2 ng
  · exact Fresh.repl fr LL (by omega) hG.2 (by omega) ap
  · exact bel_set (bel_mod (bb.trans (hall.mono bb.size)) md (fun y hy => by have := frP.2 y hy; omega) (by simp only [wsize_alloc]; omega)) (by simp only; omega)
  · exact ((kR.next hall).mod md (frP.notin (by omega))).pk (by simp only; omega)
def ldP (h : Hp) (d : Nat) : Prop := ∀ (k : Int) (cs : List Value) (w : World), rep w w.heap.size h.toD cs → depD h d k = true → Calls Try.prog 40 #[av cs, .int .i64 k] w (NewSt (asm h d k).toD 34 w)
set_option maxRecDepth 100000 in
set_option maxHeartbeats 8000000 in
theorem l36Load_of (h : Hp) (hz : szD h.toD ≤ 1048576) (d : Nat) (ih : ∀ d', d = d' + 1 → ldP h d') : ldP h d := by
  intro k cs w hr hd
  obtain ⟨j, x, rfl, hjl, hx, hxv, h40, hps, hasm⟩ := depD_cell hd
  have hcz := celD_sz h (j : Int)
  rw [celD_at hx] at hcz
  obtain ⟨A, n, c, Am, nm, cm, As, ns, ca, rfl, rc, rn, rs, wc⟩ := Heap_open hr
  have hl := (rep_sl_len rc).1
  rw [List.length_map] at hl
  obtain ⟨b, off, x', Ai, ni, ci, Ap, np, cp, An, nn, cn, Ac, nc, cc, Al, nl, cl, Aq, nq, cq, rfl, hbl, hx', hrx, e0, e1, e2, e3, e4, e5, e6, e7, e8, e9⟩ := Cell_at rc (k := j) (by omega)
  rw [hx] at hx'
  injection hx' with hx'
  subst hx'
  obtain ⟨_, _, _, _, _, _, _, _, _, _, _, _, _, _, _, Aq', nq', cq', hcs, wcn, rv, rq⟩ := Cell_open hrx
  simp only [List.cons.injEq, Value.slice.injEq, true_and, and_true] at hcs
  obtain ⟨⟨rfl, rfl, rfl⟩, ⟨rfl, rfl, rfl⟩, ⟨rfl, rfl, rfl⟩, ⟨rfl, rfl, rfl⟩, ⟨rfl, rfl, rfl⟩, rfl, rfl, rfl⟩ := hcs
  obtain ⟨Aq', nq', cq', he, hqc, hqm, hq, _⟩ := (repI _ _ _ _).1 rq
  injection he with he; injection he with f1 f2 f3; subst f1 f2 f3
  have hql := hq.len
  have hnq : nq ≤ 40 := by omega
  have bj : (j : Int) < (n : Int) := by omega
  have bj0 : (0 : Int) ≤ (j : Int) := by omega
  have q0 := ((Below.refl w.heap.size w).alloc (Nat.le_refl _) (.cells #[.slice (some ⟨b, off, none⟩) n c, .slice Am nm cm, .slice As ns ca, .int .i64 h.copies] 48)).alloc (by simp only [wsize_alloc]; omega) (.cells #[.int .i64 0, .slice none 0 0, .slice none 0 0, .slice none 0 0, .slice none 0 0, .slice none 0 0, .int .i64 0, .int .i64 0] 34)
  have kH : Blk ((w.alloc (.cells #[.slice (some ⟨b, off, none⟩) n c, .slice Am nm cm, .slice As ns ca, .int .i64 h.copies] 48)).alloc (.cells #[.int .i64 0, .slice none 0 0, .slice none 0 0, .slice none 0 0, .slice none 0 0, .slice none 0 0, .int .i64 0, .int .i64 0] 34)) w.heap.size 48 [.slice (some ⟨b, off, none⟩) n c, .slice Am nm cm, .slice As ns ca, .int .i64 h.copies] := (Blk.new' (l := [.slice (some ⟨b, off, none⟩) n c, .slice Am nm cm, .slice As ns ca, .int .i64 h.copies])).al
  have kR : Blk ((w.alloc (.cells #[.slice (some ⟨b, off, none⟩) n c, .slice Am nm cm, .slice As ns ca, .int .i64 h.copies] 48)).alloc (.cells #[.int .i64 0, .slice none 0 0, .slice none 0 0, .slice none 0 0, .slice none 0 0, .slice none 0 0, .int .i64 0, .int .i64 0] 34)) (w.heap.size + 1) 34 [.int .i64 0, .slice none 0 0, .slice none 0 0, .slice none 0 0, .slice none 0 0, .slice none 0 0, .int .i64 0, .int .i64 0] := by
    have := Blk.new' (w := w.alloc (.cells #[.slice (some ⟨b, off, none⟩) n c, .slice Am nm cm, .slice As ns ca, .int .i64 h.copies] 48)) (t := 34) (l := [.int .i64 0, .slice none 0 0, .slice none 0 0, .slice none 0 0, .slice none 0 0, .slice none 0 0, .int .i64 0, .int .i64 0])
    simpa only [wsize_alloc] using this
  have HX := Lib.hid hx
  have HXV := Lib.hid hxv
  have HIH := Lib.hid ih
  have HPS := Lib.hid hps
  have HASM := Lib.hid hasm
  have HQL := Lib.hid hql
  have HR := Lib.hid hr
  clear hx hxv ih hps hasm hql hr hd hl
  have rv0 := rep_in rv q0 q0.size
  have zv0 : szD x.value.toD ≤ 500000000000 := by omega
  go_enter Try.func40, Try.ntmps40
  go_wp2_with fail
  refine (l4Copy_plain x.value HXV.out _ _ rv0 zv0).mono ?_
  rintro e w1 ⟨cs1, G, rfl, o1, fr1, hb1⟩
  obtain ⟨A1, n1, c1, A5, n5, c5, A2, n2, c2, A3, n3, c3, A4, n4, c4, F1, F5, F2, F3, F4, rfl, rfl, wk, p1, p5, p2, p3, p4, wcode, wenv⟩ := Vector_own_inv o1
  rw [HXV.out] at p5
  obtain rfl := own_nilF p5
  obtain ⟨hc1, hf1⟩ := bcell hb1; have z1 := hb1.size; (try simp only [wsize_drew, wsize_alloc, wsize_set] at hc1 hf1 z1)
  have kH1 := kH.next hb1
  have kR1 := kR.next hb1
  have yb : b < w1.heap.size := by omega
  have y0 : w.heap.size < w1.heap.size := by omega
  have y1 : w.heap.size + 1 < w1.heap.size := by omega
  have q1 := bth q0 hb1
  have e9' := e9
  have e9 := (q1.cell (p := ⟨b, off + j * 10 + 9, none⟩) hbl).trans e9
  obtain ⟨g0, g1, g2, g3⟩ := kH1.c4
  clear e0 e1 e2 e3 e4 e5 e6 e7 e8 hc1 hf1
  go_wp2_with fail
  have H9 := Lib.hid e9'
  clear g0 g1 g2 g3 e9 e9'
  have kg : Blk (w1.alloc (.cells #[.int .i64 x.value.kind, .slice A1 n1 c1, .slice A5 0 c5, .slice A2 n2 c2, .slice A3 n3 c3, .slice A4 n4 c4, .int .i64 x.value.code, .int .i64 x.value.env] 34)) w1.heap.size 34 [.int .i64 x.value.kind, .slice A1 n1 c1, .slice A5 0 c5, .slice A2 n2 c2, .slice A3 n3 c3, .slice A4 n4 c4, .int .i64 x.value.code, .int .i64 x.value.env] := Blk.new'
  have qa := (Below.refl w1.heap.size w1).alloc (Nat.le_refl _) (.cells #[.int .i64 x.value.kind, .slice A1 n1 c1, .slice A5 0 c5, .slice A2 n2 c2, .slice A3 n3 c3, .slice A4 n4 c4, .int .i64 x.value.code, .int .i64 x.value.env] 34)
  have l1 := own_lo o1
  go_loopw [6] (fun i wr => asL x.value (x.parts.map (asm h (d - 1))) h w w (w.heap.size + 2) [.slice (some ⟨b, off, none⟩) n c, .slice Am nm cm, .slice As ns ca, .int .i64 h.copies] nq w1.heap.size A1 n1 c1 A2 n2 c2 A3 n3 c3 A4 n4 c4 F1 F2 F3 F4 i wr ∧ Blk wr (w.heap.size + 1) 34 zV) (fun i _ => nq - (intOf i).toNat)
  case atStart =>
    refine ⟨⟨0, A5, c5, F5, by omega, rfl, kg, kH1.al, by simpa using own_al p5, own_al p1, own_al p2, own_al p3, own_al p4, ?_, bel_al q1 q1.size⟩, kR1.al⟩
    have f1 : Fresh (w.heap.size + 2) (w1.heap.size :: (F1 ++ (F5 ++ (F2 ++ (F3 ++ F4))))) := Fresh.cons (l1.notin (Nat.le_refl _)) (by omega) (fr1.mono (by simp only [wsize_alloc]; omega))
    exact f1.perm (List.perm_iff_count.2 fun a => by simp only [List.count_append, List.count_cons]; omega)
  case round =>
    clear kg kH1 kR1 p1 p2 p3 p4 p5 qa o1 l1
    obtain ⟨⟨k, Ao, co, FP, hk, rfl, kg, kH, oP, o1, o2, o3, o4, fr, bb⟩, kR⟩ := hrel
    have z0 := bb.size
    have hgl := kg.lt
    have yb : b < wr.heap.size := by omega
    have yh : w.heap.size < wr.heap.size := by omega
    obtain ⟨g0, g1, g2, g3⟩ := kH.c4
    by_cases hlt : k < nq
    · obtain ⟨bq, oq, y, rfl, hbq, hy, hcq⟩ := (hq.below bb).at_ hlt
      have c0 := hcq 0 _ rfl
      simp only [Nat.mul_one, Nat.add_zero] at c0
      have HY := Lib.hid (take_snoc' (l := x.parts.map (asm h (d - 1))) (k := k) (x := asm h (d - 1) y) (by rw [List.getElem?_map, hy]; rfl))
      obtain ⟨d', hd', hdy⟩ := HPS.out y (List.mem_of_getElem? hy)
      have HP := Lib.hid (HIH.out d' hd')
      have HD : Hid (d - 1 = d') := Lib.hid (by omega)
      have HDY := Lib.hid hdy
      have HY2 : Hid ((x.parts.map (asm h (d - 1))).take (k + 1) = (x.parts.map (asm h (d - 1))).take k ++ [asm h d' y]) := Lib.hid (by rw [← HD.out]; exact HY.out)
      have ry := rep_in HR.out bb bb.size
      have hyb : bq < wr.heap.size := by omega
      have HC0 : Hid (w.cell? ⟨bq, oq + k, none⟩ = some (.int .i64 y)) := Lib.hid ((bb.cell (p := ⟨bq, oq + k, none⟩) hbq).symm.trans c0)
      clear hcq hy hd' hdy
      have e9w := (bb.cell (p := ⟨b, off + j * 10 + 9, none⟩) hbl).trans H9.out
      have eg := kg.cell 2
      simp only [List.getElem?_cons_zero, List.getElem?_cons_succ] at eg
      have zf := kg.frozen 2
      have lP := own_lo oP
      have frP := fr.left
      have dg := fr.dis w1.heap.size List.mem_cons_self
      go_wp2_with fail
      have SL : ∀ W : World, Below w.heap.size w W → Blk W w.heap.size 48 [.slice (some ⟨b, off, none⟩) n c, .slice Am nm cm, .slice As ns ca, .int .i64 h.copies] → (W.cell? ⟨w.heap.size, 0, none⟩ = some (.slice (some ⟨b, off, none⟩) n c) ∧ W.cell? ⟨w.heap.size, 1, none⟩ = some (.slice Am nm cm) ∧ W.cell? ⟨w.heap.size, 2, none⟩ = some (.slice As ns ca) ∧ W.cell? ⟨w.heap.size, 3, none⟩ = some (.int .i64 h.copies) ∧ W.cell? ⟨b, off + j * 10 + 9, none⟩ = some (.slice (some ⟨bq, oq, none⟩) nq cq) ∧ W.cell? ⟨bq, oq + k, none⟩ = some (.int .i64 y)) := fun W hW kW => by
        obtain ⟨g0, g1, g2, g3⟩ := kW.c4
        exact ⟨g0, g1, g2, g3, (hW.cell (p := ⟨b, off + j * 10 + 9, none⟩) hbl).trans H9.out, (hW.cell (p := ⟨bq, oq + k, none⟩) hbq).trans HC0.out⟩
      have S0 := SL wr.drew bb.drew kH
      have HSL := Lib.hid SL
      clear SL
      refine wp_region_held_drew (S := fun W => W.cell? ⟨w.heap.size, 0, none⟩ = some (.slice (some ⟨b, off, none⟩) n c) ∧ W.cell? ⟨w.heap.size, 1, none⟩ = some (.slice Am nm cm) ∧ W.cell? ⟨w.heap.size, 2, none⟩ = some (.slice As ns ca) ∧ W.cell? ⟨w.heap.size, 3, none⟩ = some (.int .i64 h.copies) ∧ W.cell? ⟨b, off + j * 10 + 9, none⟩ = some (.slice (some ⟨bq, oq, none⟩) nq cq) ∧ W.cell? ⟨bq, oq + k, none⟩ = some (.int .i64 y)) (by kernel_rfl) S0 (fun hH => ?_)
      clear S0
      refine wpAnyH_take (i := 0) (v := ?_) rfl (by kernel_rfl) (by kernel_rfl) (by kernel_rfl) (fun _ _ _ h => h) (Or.inl ⟨by kernel_rfl, ?_⟩) (by assumption) ?_; rotate_left; (intro wq hSw; (try dsimp only at hSw); go_simp; (try with_reducible rfl)); (try simp only [Act.put, List.setIfInBounds_toArray, List.set_cons_zero, List.set_cons_succ])
      refine wpAnyH_take (i := 2) (v := ?_) rfl (by kernel_rfl) (by kernel_rfl) (by kernel_rfl) (fun _ _ _ h => h) (Or.inl ⟨by kernel_rfl, ?_⟩) (by assumption) ?_; rotate_left; (intro wq hSw; (try dsimp only at hSw); go_simp; (try with_reducible rfl)); (try simp only [Act.put, List.setIfInBounds_toArray, List.set_cons_zero, List.set_cons_succ])
      refine wpAnyH_take (i := 3) (v := ?_) rfl (by kernel_rfl) (by kernel_rfl) (by kernel_rfl) (fun _ _ _ h => h) (Or.inl ⟨by kernel_rfl, ?_⟩) (by assumption) ?_; rotate_left; (intro wq hSw; (try dsimp only at hSw); go_simp; (try with_reducible rfl)); (try simp only [Act.put, List.setIfInBounds_toArray, List.set_cons_zero, List.set_cons_succ])
      refine wpAnyH_take (i := 4) (v := ?_) rfl (by kernel_rfl) (by kernel_rfl) (by kernel_rfl) (fun _ _ _ h => h) (Or.inl ⟨by kernel_rfl, ?_⟩) (by assumption) ?_; rotate_left; (intro wq hSw; (try dsimp only at hSw); go_simp; (try with_reducible rfl)); (try simp only [Act.put, List.setIfInBounds_toArray, List.set_cons_zero, List.set_cons_succ])
      refine wpAnyH_take (i := 5) (v := ?_) rfl (by kernel_rfl) (by kernel_rfl) (by kernel_rfl) (fun _ _ _ h => h) (Or.inl ⟨by kernel_rfl, ?_⟩) (by assumption) ?_; rotate_left; (intro wq hSw; (try dsimp only at hSw); go_simp; (try with_reducible rfl)); (try simp only [Act.put, List.setIfInBounds_toArray, List.set_cons_zero, List.set_cons_succ])
      refine wpAnyH_take (i := 6) (v := ?_) rfl (by kernel_rfl) (by kernel_rfl) (by kernel_rfl) (fun _ _ _ h => h) (Or.inl ⟨by kernel_rfl, ?_⟩) (by assumption) ?_; rotate_left; (intro wq hSw; (try dsimp only at hSw); go_simp; (try with_reducible rfl)); (try simp only [Act.put, List.setIfInBounds_toArray, List.set_cons_zero, List.set_cons_succ])
      refine wpAnyH_take (i := 7) (v := ?_) rfl (by kernel_rfl) (by kernel_rfl) (by kernel_rfl) (fun _ _ _ h => h) (Or.inl ⟨by kernel_rfl, ?_⟩) (by assumption) ?_; rotate_left; (intro wq hSw; (try dsimp only at hSw); go_simp; (try with_reducible rfl)); (try simp only [Act.put, List.setIfInBounds_toArray, List.set_cons_zero, List.set_cons_succ])
      refine wpAnyH_take (i := 8) (v := ?_) rfl (by kernel_rfl) (by kernel_rfl) (by kernel_rfl) (fun _ _ _ h => h) (Or.inl ⟨by kernel_rfl, ?_⟩) (by assumption) ?_; rotate_left; (intro wq hSw; (try dsimp only at hSw); go_simp; (try with_reducible rfl)); (try simp only [Act.put, List.setIfInBounds_toArray, List.set_cons_zero, List.set_cons_succ])
      refine wpAnyH_take (i := 9) (v := ?_) rfl (by kernel_rfl) (by kernel_rfl) (by kernel_rfl) (fun _ _ _ h => h) (Or.inl ⟨by kernel_rfl, ?_⟩) (by assumption) ?_; rotate_left; (intro wq hSw; (try dsimp only at hSw); go_simp; (try with_reducible rfl)); (try simp only [Act.put, List.setIfInBounds_toArray, List.set_cons_zero, List.set_cons_succ])
      refine wpAnyH_take (i := 10) (v := ?_) rfl (by kernel_rfl) (by kernel_rfl) (by kernel_rfl) (fun _ _ _ h => h) (Or.inl ⟨by kernel_rfl, ?_⟩) (by assumption) ?_; rotate_left; (intro wq hSw; (try dsimp only at hSw); go_simp; (try with_reducible rfl)); (try simp only [Act.put, List.setIfInBounds_toArray, List.set_cons_zero, List.set_cons_succ])
      refine wpAnyH_take (i := 11) (v := ?_) rfl (by kernel_rfl) (by kernel_rfl) (by kernel_rfl) (fun _ _ _ h => h) (Or.inl ⟨by kernel_rfl, ?_⟩) (by assumption) ?_; rotate_left; (intro wq hSw; (try dsimp only at hSw); go_simp; (try with_reducible rfl)); (try simp only [Act.put, List.setIfInBounds_toArray, List.set_cons_zero, List.set_cons_succ])
      refine wpAnyH_all (rs := [1, 12]) (by kernel_rfl) (by simp) (fun i hi => ?_); simp only [List.mem_cons, List.not_mem_nil, or_false] at hi; rcases hi with rfl | rfl; all_goals refine wpOp_step (by rfl) (fun K hK => ?_)
      · go_simp
        refine hK _ _ ⟨by assumption, ?_⟩
        (try simp only [Act.put, List.setIfInBounds_toArray, List.set_cons_zero, List.set_cons_succ])
        refine wpAnyH_all (rs := [12]) (by kernel_rfl) (by simp) (fun i hi => ?_); obtain rfl : i = 12 := (by simpa using hi); refine wpOp_step (by rfl) (fun K hK => ?_)
        go_simp
        go_at_call 40
        refine (HP.out y _ _ (by (repeat' (first | with_reducible assumption | with_reducible refine rep_dw ?_ | with_reducible refine rep_al ?_ | with_reducible refine rep_next ?_ (by with_reducible assumption)))) HDY.out).mono ?_
        rintro e w2 ⟨cs1, G1, rfl, ho1, hG1, hb2⟩
        obtain ⟨Ci, ki, ei, Cp, kp, ep, Cn, kn, en, Cc, kc, ec, Cl, kl, el, rfl, _⟩ := Vector_open (own_rep _ _ _ _ ho1)
        have z2 := hb2.size
        simp only [wsize_drew] at z2 hG1
        have sB2 := bel_call (bel_dw bb) hb2 (by simp only [wsize_drew]; omega)
        have kH2 := kH.dw.next hb2
        have SS2 := HSL.out w2 sB2 kH2
        have eg2 := (kg.dw.next hb2).cell 2
        simp only [List.getElem?_cons_zero, List.getElem?_cons_succ] at eg2
        refine hK _ _ ⟨SS2, ?_⟩
        (try simp only [Act.put, List.setIfInBounds_toArray, List.set_cons_zero, List.set_cons_succ])
        refine wpAnyH_all (rs := [13]) (by kernel_rfl) (by simp) (fun i hi => ?_); obtain rfl : i = 13 := (by simpa using hi); refine wpOp_step (by rfl) (fun K hK => ?_)
        go_simp
        have SS3 := HSL.out (w2.alloc (.cells #[.int .i64 (asm h d' y).kind, .slice Ci ki ei, .slice Cp kp ep, .slice Cn kn en, .slice Cc kc ec, .slice Cl kl el, .int .i64 (asm h d' y).code, .int .i64 (asm h d' y).env] 34)) (bel_al sB2 (by omega)) kH2.al
        have eg3 := (kg.dw.next hb2).al (o := .cells #[.int .i64 (asm h d' y).kind, .slice Ci ki ei, .slice Cp kp ep, .slice Cn kn en, .slice Cc kc ec, .slice Cl kl el, .int .i64 (asm h d' y).code, .int .i64 (asm h d' y).env] 34) |>.cell 2
        simp only [List.getElem?_cons_zero, List.getElem?_cons_succ] at eg3
        refine hK _ _ ⟨SS3, ?_⟩
        (try simp only [Act.put, List.setIfInBounds_toArray, List.set_cons_zero, List.set_cons_succ])
        refine wpAnyH_all (rs := [14]) (by kernel_rfl) (by simp) (fun i hi => ?_); obtain rfl : i = 14 := (by simpa using hi); refine wpOp_step (by rfl) (fun K hK => ?_)
        refine step_appD (A := Ao) (n := k) (c := co) (b := w2.heap.size) (m := 1) (xs := ((x.parts.map (asm h (d - 1))).take k).map Vec.toD) (F := FP) (d := (asm h d' y).toD) (F' := G1) (te := 34) (cs := [.int .i64 (asm h d' y).kind, .slice Ci ki ei, .slice Cp kp ep, .slice Cn kn en, .slice Cc kc ec, .slice Cl kl el, .int .i64 (asm h d' y).code, .int .i64 (asm h d' y).env]) tyVector ?_ ?_ (.tmp 26) (.tmp 38) ?_ ?_ ?_ ?_ ?_ ?_ ?_ ?_ ?_ ?_ ?_
        · kernel_rfl
        · rfl
        · rfl
        · rfl
        · exact own_al (own_below (own_dw oP) hb2)
        · rfl
        · (repeat' (first | with_reducible assumption | with_reducible exact Blk.new' | with_reducible exact Blk.newd | with_reducible apply Blk.set8 | (with_reducible refine Blk.pk ?_ ?_; ((try simp only [wsize_drew, wsize_alloc, wsize_set]); omega)) | with_reducible refine Blk.dw ?_ | with_reducible refine Blk.al ?_ | with_reducible refine Blk.next ?_ (by with_reducible assumption)))
        · (repeat' (first | with_reducible assumption | with_reducible refine own_dw ?_ | with_reducible refine own_al ?_ | with_reducible refine own_pk ?_ ?_ | with_reducible exact notin_nil | with_reducible refine notin_app ?_ ?_ | (with_reducible refine Fresh.notin (by with_reducible assumption) ?_; ((try simp only [wsize_drew, wsize_alloc, wsize_set]); omega)) | (with_reducible refine Lo.notin (by with_reducible assumption) ?_; ((try simp only [wsize_drew, wsize_alloc, wsize_set]); omega)) | with_reducible refine own_below ?_ (by with_reducible assumption)))
        · rfl
        · exact (Fresh.app2 lP frP hG1 (by omega)).1
        · unfold maxLen; omega
        · omega
        intro gg cc w3 FP2 oP2 ap2 md2
        simp only [wsize_alloc] at ap2
        have NX := asL_next (h := h) hlt HY2.out kg kH oP o1 o2 o3 o4 fr bb kR hgl (by omega) hb2 hG1 ap2 md2 oP2
        have kg2 := Blk.mod (t := 34) (cs := [.int .i64 x.value.kind, .slice A1 n1 c1, .slice Ao k co, .slice A2 n2 c2, .slice A3 n3 c3, .slice A4 n4 c4, .int .i64 x.value.code, .int .i64 x.value.env]) ((kg.dw.next hb2).al) md2 dg
        have eg4 := kg2.cell 2
        simp only [List.getElem?_cons_zero, List.getElem?_cons_succ] at eg4
        have zf4 := kg2.frozen 2
        have sB3 := bel_mod (bel_al (o := .cells #[.int .i64 (asm h d' y).kind, .slice Ci ki ei, .slice Cp kp ep, .slice Cn kn en, .slice Cc kc ec, .slice Cl kl el, .int .i64 (asm h d' y).code, .int .i64 (asm h d' y).env] 34) sB2 (by omega)) md2 (fun y hy => by have := frP.2 y hy; omega) (by simp only [wsize_alloc]; omega)
        have kH3 := (kH2.al (o := .cells #[.int .i64 (asm h d' y).kind, .slice Ci ki ei, .slice Cp kp ep, .slice Cn kn en, .slice Cc kc ec, .slice Cl kl el, .int .i64 (asm h d' y).code, .int .i64 (asm h d' y).env] 34)).mod md2 (frP.notin (by omega))
        have SS4 := HSL.out w3 sB3 kH3
        have NX2 := Lib.hid NX
        obtain ⟨⟨_, _, _, _, _, _, _, kH4, _, _, _, _, _, _, bb4⟩, _⟩ := NX
        have SS5 := HSL.out _ bb4 kH4
        have HS5 := Lib.hid SS5
        clear SS5 bb4 kH4
        refine hK _ _ ⟨SS4, ?_⟩
        (try simp only [Act.put, List.setIfInBounds_toArray, List.set_cons_zero, List.set_cons_succ])
        refine wpAnyH_all (rs := [15]) (by kernel_rfl) (by simp) (fun i hi => ?_); obtain rfl : i = 15 := (by simpa using hi); refine wpOp_step (by rfl) (fun K hK => ?_)
        go_simp
        refine hK _ _ ⟨SS4, ?_⟩
        (try simp only [Act.put, List.setIfInBounds_toArray, List.set_cons_zero, List.set_cons_succ])
        refine wpAnyH_all (rs := [16]) (by kernel_rfl) (by simp) (fun i hi => ?_); obtain rfl : i = 16 := (by simpa using hi); refine wpOp_step (by rfl) (fun K hK => ?_)
        go_simp
        refine hK _ _ ⟨HS5.out, ?_⟩
        (try simp only [Act.put, List.setIfInBounds_toArray, List.set_cons_zero, List.set_cons_succ])
        refine wpAnyH_done (by kernel_rfl) ?_ _
        go_wp2_with fail
        go_roundw
        case rel => exact NX2.out
        case measure => simp [intOf]; omega
      · go_simp
        go_at_call 40
        refine (HP.out y _ _ (by (repeat' (first | with_reducible assumption | with_reducible refine rep_dw ?_ | with_reducible refine rep_al ?_ | with_reducible refine rep_next ?_ (by with_reducible assumption)))) HDY.out).mono ?_
        rintro e w2 ⟨cs1, G1, rfl, ho1, hG1, hb2⟩
        obtain ⟨Ci, ki, ei, Cp, kp, ep, Cn, kn, en, Cc, kc, ec, Cl, kl, el, rfl, _⟩ := Vector_open (own_rep _ _ _ _ ho1)
        have z2 := hb2.size
        simp only [wsize_drew] at z2 hG1
        have sB2 := bel_call (bel_dw bb) hb2 (by simp only [wsize_drew]; omega)
        have kH2 := kH.dw.next hb2
        have SS2 := HSL.out w2 sB2 kH2
        have eg2 := (kg.dw.next hb2).cell 2
        simp only [List.getElem?_cons_zero, List.getElem?_cons_succ] at eg2
        refine hK _ _ ⟨SS2, ?_⟩
        (try simp only [Act.put, List.setIfInBounds_toArray, List.set_cons_zero, List.set_cons_succ])
        refine wpAnyH_all (rs := [1, 13]) (by kernel_rfl) (by simp) (fun i hi => ?_); simp only [List.mem_cons, List.not_mem_nil, or_false] at hi; rcases hi with rfl | rfl; all_goals refine wpOp_step (by rfl) (fun K hK => ?_)
        · go_simp
          refine hK _ _ ⟨by assumption, ?_⟩
          (try simp only [Act.put, List.setIfInBounds_toArray, List.set_cons_zero, List.set_cons_succ])
          refine wpAnyH_all (rs := [13]) (by kernel_rfl) (by simp) (fun i hi => ?_); obtain rfl : i = 13 := (by simpa using hi); refine wpOp_step (by rfl) (fun K hK => ?_)
          go_simp
          have SS3 := HSL.out (w2.alloc (.cells #[.int .i64 (asm h d' y).kind, .slice Ci ki ei, .slice Cp kp ep, .slice Cn kn en, .slice Cc kc ec, .slice Cl kl el, .int .i64 (asm h d' y).code, .int .i64 (asm h d' y).env] 34)) (bel_al sB2 (by omega)) kH2.al
          have eg3 := (kg.dw.next hb2).al (o := .cells #[.int .i64 (asm h d' y).kind, .slice Ci ki ei, .slice Cp kp ep, .slice Cn kn en, .slice Cc kc ec, .slice Cl kl el, .int .i64 (asm h d' y).code, .int .i64 (asm h d' y).env] 34) |>.cell 2
          simp only [List.getElem?_cons_zero, List.getElem?_cons_succ] at eg3
          refine hK _ _ ⟨SS3, ?_⟩
          (try simp only [Act.put, List.setIfInBounds_toArray, List.set_cons_zero, List.set_cons_succ])
          refine wpAnyH_all (rs := [14]) (by kernel_rfl) (by simp) (fun i hi => ?_); obtain rfl : i = 14 := (by simpa using hi); refine wpOp_step (by rfl) (fun K hK => ?_)
          refine step_appD (A := Ao) (n := k) (c := co) (b := w2.heap.size) (m := 1) (xs := ((x.parts.map (asm h (d - 1))).take k).map Vec.toD) (F := FP) (d := (asm h d' y).toD) (F' := G1) (te := 34) (cs := [.int .i64 (asm h d' y).kind, .slice Ci ki ei, .slice Cp kp ep, .slice Cn kn en, .slice Cc kc ec, .slice Cl kl el, .int .i64 (asm h d' y).code, .int .i64 (asm h d' y).env]) tyVector ?_ ?_ (.tmp 26) (.tmp 38) ?_ ?_ ?_ ?_ ?_ ?_ ?_ ?_ ?_ ?_ ?_
          · kernel_rfl
          · rfl
          · rfl
          · rfl
          · exact own_al (own_below (own_dw oP) hb2)
          · rfl
          · (repeat' (first | with_reducible assumption | with_reducible exact Blk.new' | with_reducible exact Blk.newd | with_reducible apply Blk.set8 | (with_reducible refine Blk.pk ?_ ?_; ((try simp only [wsize_drew, wsize_alloc, wsize_set]); omega)) | with_reducible refine Blk.dw ?_ | with_reducible refine Blk.al ?_ | with_reducible refine Blk.next ?_ (by with_reducible assumption)))
          · (repeat' (first | with_reducible assumption | with_reducible refine own_dw ?_ | with_reducible refine own_al ?_ | with_reducible refine own_pk ?_ ?_ | with_reducible exact notin_nil | with_reducible refine notin_app ?_ ?_ | (with_reducible refine Fresh.notin (by with_reducible assumption) ?_; ((try simp only [wsize_drew, wsize_alloc, wsize_set]); omega)) | (with_reducible refine Lo.notin (by with_reducible assumption) ?_; ((try simp only [wsize_drew, wsize_alloc, wsize_set]); omega)) | with_reducible refine own_below ?_ (by with_reducible assumption)))
          · rfl
          · exact (Fresh.app2 lP frP hG1 (by omega)).1
          · unfold maxLen; omega
          · omega
          intro gg cc w3 FP2 oP2 ap2 md2
          simp only [wsize_alloc] at ap2
          have NX := asL_next (h := h) hlt HY2.out kg kH oP o1 o2 o3 o4 fr bb kR hgl (by omega) hb2 hG1 ap2 md2 oP2
          have kg2 := Blk.mod (t := 34) (cs := [.int .i64 x.value.kind, .slice A1 n1 c1, .slice Ao k co, .slice A2 n2 c2, .slice A3 n3 c3, .slice A4 n4 c4, .int .i64 x.value.code, .int .i64 x.value.env]) ((kg.dw.next hb2).al) md2 dg
          have eg4 := kg2.cell 2
          simp only [List.getElem?_cons_zero, List.getElem?_cons_succ] at eg4
          have zf4 := kg2.frozen 2
          have sB3 := bel_mod (bel_al (o := .cells #[.int .i64 (asm h d' y).kind, .slice Ci ki ei, .slice Cp kp ep, .slice Cn kn en, .slice Cc kc ec, .slice Cl kl el, .int .i64 (asm h d' y).code, .int .i64 (asm h d' y).env] 34) sB2 (by omega)) md2 (fun y hy => by have := frP.2 y hy; omega) (by simp only [wsize_alloc]; omega)
          have kH3 := (kH2.al (o := .cells #[.int .i64 (asm h d' y).kind, .slice Ci ki ei, .slice Cp kp ep, .slice Cn kn en, .slice Cc kc ec, .slice Cl kl el, .int .i64 (asm h d' y).code, .int .i64 (asm h d' y).env] 34)).mod md2 (frP.notin (by omega))
          have SS4 := HSL.out w3 sB3 kH3
          have NX2 := Lib.hid NX
          obtain ⟨⟨_, _, _, _, _, _, _, kH4, _, _, _, _, _, _, bb4⟩, _⟩ := NX
          have SS5 := HSL.out _ bb4 kH4
          have HS5 := Lib.hid SS5
          clear SS5 bb4 kH4
          refine hK _ _ ⟨SS4, ?_⟩
          (try simp only [Act.put, List.setIfInBounds_toArray, List.set_cons_zero, List.set_cons_succ])
          refine wpAnyH_all (rs := [15]) (by kernel_rfl) (by simp) (fun i hi => ?_); obtain rfl : i = 15 := (by simpa using hi); refine wpOp_step (by rfl) (fun K hK => ?_)
          go_simp
          refine hK _ _ ⟨SS4, ?_⟩
          (try simp only [Act.put, List.setIfInBounds_toArray, List.set_cons_zero, List.set_cons_succ])
          refine wpAnyH_all (rs := [16]) (by kernel_rfl) (by simp) (fun i hi => ?_); obtain rfl : i = 16 := (by simpa using hi); refine wpOp_step (by rfl) (fun K hK => ?_)
          go_simp
          refine hK _ _ ⟨HS5.out, ?_⟩
          (try simp only [Act.put, List.setIfInBounds_toArray, List.set_cons_zero, List.set_cons_succ])
          refine wpAnyH_done (by kernel_rfl) ?_ _
          go_wp2_with fail
          go_roundw
          case rel => exact NX2.out
          case measure => simp [intOf]; omega
        · go_simp
          have SS3 := HSL.out (w2.alloc (.cells #[.int .i64 (asm h d' y).kind, .slice Ci ki ei, .slice Cp kp ep, .slice Cn kn en, .slice Cc kc ec, .slice Cl kl el, .int .i64 (asm h d' y).code, .int .i64 (asm h d' y).env] 34)) (bel_al sB2 (by omega)) kH2.al
          have eg3 := (kg.dw.next hb2).al (o := .cells #[.int .i64 (asm h d' y).kind, .slice Ci ki ei, .slice Cp kp ep, .slice Cn kn en, .slice Cc kc ec, .slice Cl kl el, .int .i64 (asm h d' y).code, .int .i64 (asm h d' y).env] 34) |>.cell 2
          simp only [List.getElem?_cons_zero, List.getElem?_cons_succ] at eg3
          refine hK _ _ ⟨SS3, ?_⟩
          (try simp only [Act.put, List.setIfInBounds_toArray, List.set_cons_zero, List.set_cons_succ])
          refine wpAnyH_all (rs := [1]) (by kernel_rfl) (by simp) (fun i hi => ?_); obtain rfl : i = 1 := (by simpa using hi); refine wpOp_step (by rfl) (fun K hK => ?_)
          go_simp
          refine hK _ _ ⟨by assumption, ?_⟩
          (try simp only [Act.put, List.setIfInBounds_toArray, List.set_cons_zero, List.set_cons_succ])
          refine wpAnyH_all (rs := [14]) (by kernel_rfl) (by simp) (fun i hi => ?_); obtain rfl : i = 14 := (by simpa using hi); refine wpOp_step (by rfl) (fun K hK => ?_)
          refine step_appD (A := Ao) (n := k) (c := co) (b := w2.heap.size) (m := 1) (xs := ((x.parts.map (asm h (d - 1))).take k).map Vec.toD) (F := FP) (d := (asm h d' y).toD) (F' := G1) (te := 34) (cs := [.int .i64 (asm h d' y).kind, .slice Ci ki ei, .slice Cp kp ep, .slice Cn kn en, .slice Cc kc ec, .slice Cl kl el, .int .i64 (asm h d' y).code, .int .i64 (asm h d' y).env]) tyVector ?_ ?_ (.tmp 26) (.tmp 38) ?_ ?_ ?_ ?_ ?_ ?_ ?_ ?_ ?_ ?_ ?_
          · kernel_rfl
          · rfl
          · rfl
          · rfl
          · exact own_al (own_below (own_dw oP) hb2)
          · rfl
          · (repeat' (first | with_reducible assumption | with_reducible exact Blk.new' | with_reducible exact Blk.newd | with_reducible apply Blk.set8 | (with_reducible refine Blk.pk ?_ ?_; ((try simp only [wsize_drew, wsize_alloc, wsize_set]); omega)) | with_reducible refine Blk.dw ?_ | with_reducible refine Blk.al ?_ | with_reducible refine Blk.next ?_ (by with_reducible assumption)))
          · (repeat' (first | with_reducible assumption | with_reducible refine own_dw ?_ | with_reducible refine own_al ?_ | with_reducible refine own_pk ?_ ?_ | with_reducible exact notin_nil | with_reducible refine notin_app ?_ ?_ | (with_reducible refine Fresh.notin (by with_reducible assumption) ?_; ((try simp only [wsize_drew, wsize_alloc, wsize_set]); omega)) | (with_reducible refine Lo.notin (by with_reducible assumption) ?_; ((try simp only [wsize_drew, wsize_alloc, wsize_set]); omega)) | with_reducible refine own_below ?_ (by with_reducible assumption)))
          · rfl
          · exact (Fresh.app2 lP frP hG1 (by omega)).1
          · unfold maxLen; omega
          · omega
          intro gg cc w3 FP2 oP2 ap2 md2
          simp only [wsize_alloc] at ap2
          have NX := asL_next (h := h) hlt HY2.out kg kH oP o1 o2 o3 o4 fr bb kR hgl (by omega) hb2 hG1 ap2 md2 oP2
          have kg2 := Blk.mod (t := 34) (cs := [.int .i64 x.value.kind, .slice A1 n1 c1, .slice Ao k co, .slice A2 n2 c2, .slice A3 n3 c3, .slice A4 n4 c4, .int .i64 x.value.code, .int .i64 x.value.env]) ((kg.dw.next hb2).al) md2 dg
          have eg4 := kg2.cell 2
          simp only [List.getElem?_cons_zero, List.getElem?_cons_succ] at eg4
          have zf4 := kg2.frozen 2
          have sB3 := bel_mod (bel_al (o := .cells #[.int .i64 (asm h d' y).kind, .slice Ci ki ei, .slice Cp kp ep, .slice Cn kn en, .slice Cc kc ec, .slice Cl kl el, .int .i64 (asm h d' y).code, .int .i64 (asm h d' y).env] 34) sB2 (by omega)) md2 (fun y hy => by have := frP.2 y hy; omega) (by simp only [wsize_alloc]; omega)
          have kH3 := (kH2.al (o := .cells #[.int .i64 (asm h d' y).kind, .slice Ci ki ei, .slice Cp kp ep, .slice Cn kn en, .slice Cc kc ec, .slice Cl kl el, .int .i64 (asm h d' y).code, .int .i64 (asm h d' y).env] 34)).mod md2 (frP.notin (by omega))
          have SS4 := HSL.out w3 sB3 kH3
          have NX2 := Lib.hid NX
          obtain ⟨⟨_, _, _, _, _, _, _, kH4, _, _, _, _, _, _, bb4⟩, _⟩ := NX
          have SS5 := HSL.out _ bb4 kH4
          have HS5 := Lib.hid SS5
          clear SS5 bb4 kH4
          refine hK _ _ ⟨SS4, ?_⟩
          (try simp only [Act.put, List.setIfInBounds_toArray, List.set_cons_zero, List.set_cons_succ])
          refine wpAnyH_all (rs := [15]) (by kernel_rfl) (by simp) (fun i hi => ?_); obtain rfl : i = 15 := (by simpa using hi); refine wpOp_step (by rfl) (fun K hK => ?_)
          go_simp
          refine hK _ _ ⟨SS4, ?_⟩
          (try simp only [Act.put, List.setIfInBounds_toArray, List.set_cons_zero, List.set_cons_succ])
          refine wpAnyH_all (rs := [16]) (by kernel_rfl) (by simp) (fun i hi => ?_); obtain rfl : i = 16 := (by simpa using hi); refine wpOp_step (by rfl) (fun K hK => ?_)
          go_simp
          refine hK _ _ ⟨HS5.out, ?_⟩
          (try simp only [Act.put, List.setIfInBounds_toArray, List.set_cons_zero, List.set_cons_succ])
          refine wpAnyH_done (by kernel_rfl) ?_ _
          go_wp2_with fail
          go_roundw
          case rel => exact NX2.out
          case measure => simp [intOf]; omega
    · obtain rfl : k = nq := by omega
      obtain ⟨r0, r1, r2, r3, r4, r5, r6, r7⟩ := kR.c8
      have hR1 : w.heap.size + 1 < wr.heap.size := by omega
      obtain ⟨e0, e1, e2, e3, e4, e5, e6, e7⟩ := kg.c8
      have zr := fun i => kR.frozen i
      have zr0 := zr 0; have zr1 := zr 1; have zr2 := zr 2; have zr3 := zr 3; have zr4 := zr 4; have zr5 := zr 5; have zr6 := zr 6; have zr7 := zr 7
      have e9w := (bb.cell (p := ⟨b, off + j * 10 + 9, none⟩) hbl).trans H9.out
      clear zr
      go_wp2_with fail
      rw [List.take_of_length_le (by rw [List.length_map, HQL.out]; omega)] at oP
      have hgR : w1.heap.size ≠ w.heap.size + 1 := by omega
      refine bodyPost_ret (v := .agg #[.int .i64 x.value.kind, .slice A1 n1 c1, .slice Ao k co, .slice A2 n2 c2, .slice A3 n3 c3, .slice A4 n4 c4, .int .i64 x.value.code, .int .i64 x.value.env]) (by simp [results, Try.results40, go_sem, r0, r1, r2, r3, r4, r5, r6, r7, hR1]) rfl ⟨_, F1 ++ (FP ++ (F2 ++ (F3 ++ (F4 ++ [])))), rfl, ?_, ?_, ?_⟩
      · rw [HASM.out]
        have q1 := fr.right.tail
        have qP := fr.left
        have q2 := q1.right
        have q3 := q2.right
        have f1 := q1.left
        have f2 := q2.left
        have f3 := q3.left
        have f4 := q3.right
        refine Vector_own (x := { x.value with parts := x.parts.map (asm h (d - 1)) }) wk ?_ ?_ ?_ ?_ ?_ wcode wenv
        all_goals (repeat' (first | with_reducible assumption | with_reducible refine own_dw ?_ | with_reducible refine own_al ?_ | with_reducible refine own_pk ?_ ?_ | with_reducible exact notin_nil | with_reducible refine notin_app ?_ ?_ | (with_reducible refine Fresh.notin (by with_reducible assumption) ?_; ((try simp only [wsize_drew, wsize_alloc, wsize_set]); omega)) | (with_reducible refine Lo.notin (by with_reducible assumption) ?_; ((try simp only [wsize_drew, wsize_alloc, wsize_set]); omega)) | with_reducible refine own_below ?_ (by with_reducible assumption)))
      · have fr2 : Fresh w.heap.size (FP ++ (F1 ++ (F2 ++ (F3 ++ F4)))) := (fr.mono (by omega)).sub ((List.Sublist.refl _).append (List.sublist_cons_self _ _))
        exact fr2.perm (by simp [List.perm_iff_count]; omega)
      · (repeat' (first | with_reducible assumption | with_reducible exact Below.refl _ _ | with_reducible refine bel_dw ?_ | with_reducible refine bel_al ?_ ?_ | with_reducible refine bel_set ?_ ?_ | with_reducible refine bel_call ?_ (by with_reducible assumption) ?_ | ((try simp only [wsize_drew, wsize_alloc, wsize_set]); omega)))
theorem l36Load_any (h : Hp) (hz : szD h.toD ≤ 1048576) : ∀ d : Nat, ldP h d
  | 0 => l36Load_of h hz 0 (fun d' e => by omega)
  | d + 1 => l36Load_of h hz (d + 1) (fun d' e => by
      obtain rfl : d = d' := by omega
      exact l36Load_any h hz d)
end Go.Proofs.Ytekcpadlmfaihaa
namespace Go.Proofs.Ytekcpadlmfaihaa
open Go.RowKit
def dpP (h : Hp) (d : Nat) : Prop := ∀ (nd k : Int) (cs : List Value) (w : World), nd = (d : Int) → rep w w.heap.size h.toD cs → Calls Try.prog 39 #[av cs, .int .i64 k, .int .i64 nd] w fun e w' => e = .returned (.bool (depD h d k)) ∧ Below w.heap.size w w'
theorem depD_no {h : Hp} {d : Nat} {k : Int} (hf : fitL d (celD h k) = false) : depD h d k = false := by
  cases d <;> (rw [depD, hf]; try rfl)
theorem depD_parts {h : Hp} {d : Nat} {k : Int} (hf : fitL d (celD h k) = true) : depD h d k = ((celD h k).parts.all (depD h (d - 1)) && decide ((celD h k).value.parts.length = 0)) := by
  cases d with
  | zero => rw [depD, hf, fitL_zero hf]; rfl
  | succ d => rw [depD, hf]; rfl
set_option maxRecDepth 100000 in
set_option maxHeartbeats 8000000 in
theorem l36Depth_neg (h : Hp) (hc : (h.cells.length : Int) ≤ 1048576) (k : Int) (cs : List Value) (w : World) (hr : rep w w.heap.size h.toD cs) : Calls Try.prog 39 #[av cs, .int .i64 k, .int .i64 (-1)] w fun e w' => e = .returned (.bool false) ∧ Below w.heap.size w w' := by
  obtain ⟨A, n, c, Am, nm, cm, As, ns, ca, rfl, rc, rn, rs, wc⟩ := Heap_open hr
  have hl := (rep_sl_len rc).1
  rw [List.length_map] at hl
  have q0 := (Below.refl w.heap.size w).alloc (Nat.le_refl _) (.cells #[.slice A n c, .slice Am nm cm, .slice As ns ca, .int .i64 h.copies] 48)
  have hn : (n : Int) ≤ 1048576 := by omega
  clear hl
  by_cases hk : 0 ≤ k ∧ k ≤ (n : Int) - 1
  · obtain ⟨j, rfl⟩ : ∃ j : Nat, k = j := ⟨k.toNat, by omega⟩
    have hj : j < n := by omega
    obtain ⟨b, off, x, Ai, ni, ci, Ap, np, cp, An, nn, cn, Ac, nc, cc, Al, nl, cl, Aq, nq, cq, rfl, hbl, hx, hrx, e0, e1, e2, e3, e4, e5, e6, e7, e8, e9⟩ := Cell_at rc hj
    have bj : (j : Int) < (n : Int) := by omega
    have hd : decide ((0 : Int) ≤ (j : Int) ∧ (j : Int) ≤ (n : Int) - 1) = true := by simpa using hk
    clear hx hk
    go_enter Try.func39, Try.ntmps39
    go_wp2_with fail
    refine (l1In_any _ _ _ _).mono ?_
    rintro e w1 ⟨rfl, rfl⟩
    go_wp2_with fail
    all_goals (go_ret; exact ⟨rfl, q0⟩)
  · have hd : decide ((0 : Int) ≤ k ∧ k ≤ (n : Int) - 1) = false := by simpa using hk
    clear hk
    go_enter Try.func39, Try.ntmps39
    go_wp2_with fail
    refine (l1In_any _ _ _ _).mono ?_
    rintro e w1 ⟨rfl, rfl⟩
    go_wp2_with fail
    all_goals (go_ret; exact ⟨rfl, q0⟩)
set_option maxRecDepth 100000 in
set_option maxHeartbeats 8000000 in
theorem l36Depth_of (h : Hp) (d : Nat) (hd : (d : Int) ≤ 100) (hc : (h.cells.length : Int) ≤ 1048576) (ih : ∀ d', d = d' + 1 → dpP h d') : dpP h d := by
  intro nd k cs w hnd hr
  obtain ⟨A, n, c, Am, nm, cm, As, ns, ca, rfl, rc, rn, rs, wc⟩ := Heap_open hr
  have hl := (rep_sl_len rc).1
  rw [List.length_map] at hl
  have q0 := (Below.refl w.heap.size w).alloc (Nat.le_refl _) (.cells #[.slice A n c, .slice Am nm cm, .slice As ns ca, .int .i64 h.copies] 48)
  have hn : (n : Int) ≤ 1048576 := by omega
  have hd0 : (0 : Int) ≤ nd := by omega
  have HND := Lib.hid hnd
  clear hnd
  by_cases hk : ¬ (0 ≤ k ∧ k ≤ (n : Int) - 1)
  · have HZ := Lib.hid (depD_no (d := d) (h := h) (k := k) (by simp [fitL, celD_out (h := h) (k := k) (by omega)]))
    have hdd : decide ((0 : Int) ≤ k ∧ k ≤ (n : Int) - 1) = false := by simpa using hk
    clear hl hk
    go_enter Try.func39, Try.ntmps39
    go_wp2_with fail
    refine (l1In_any _ _ _ _).mono ?_
    rintro e w1 ⟨rfl, rfl⟩
    go_wp2_with fail
    all_goals (go_ret; exact ⟨ret_bool HZ.out.symm, q0⟩)
  have hk : 0 ≤ k ∧ k ≤ (n : Int) - 1 := by omega
  obtain ⟨j, rfl⟩ : ∃ j : Nat, k = j := ⟨k.toNat, by omega⟩
  have hdd : decide ((0 : Int) ≤ (j : Int) ∧ (j : Int) ≤ (n : Int) - 1) = true := by simpa using hk
  have hj : j < n := by omega
  obtain ⟨b, off, x, Ai, ni, ci, Ap, np, cp, An, nn, cn, Ac, nc, cc, Al, nl, cl, Aq, nq, cq, rfl, hbl, hx, hrx, e0, e1, e2, e3, e4, e5, e6, e7, e8, e9⟩ := Cell_at rc hj
  have HX := Lib.hid (celD_at (h := h) hx)
  obtain ⟨_, _, _, _, _, _, _, _, _, _, _, _, _, _, _, Aq', nq', cq', hcs, wcn, rv, rq⟩ := Cell_open hrx
  simp only [List.cons.injEq, Value.slice.injEq, true_and, and_true] at hcs
  obtain ⟨⟨rfl, rfl, rfl⟩, ⟨rfl, rfl, rfl⟩, ⟨rfl, rfl, rfl⟩, ⟨rfl, rfl, rfl⟩, ⟨rfl, rfl, rfl⟩, rfl, rfl, rfl⟩ := hcs
  obtain ⟨Aq', nq', cq', he, _, hqm, hq, _⟩ := (repI _ _ _ _).1 rq
  injection he with he; injection he with f1 f2 f3; subst f1 f2 f3
  obtain ⟨_, _, _, _, _, _, _, _, _, _, _, _, _, _, _, hcs, _, _, rpv, _⟩ := Vector_open rv
  simp only [List.cons.injEq, Value.slice.injEq, true_and, and_true] at hcs
  obtain ⟨⟨rfl, rfl, rfl⟩, ⟨rfl, rfl, rfl⟩, ⟨rfl, rfl, rfl⟩, ⟨rfl, rfl, rfl⟩, rfl, rfl, rfl⟩ := hcs
  have hnp := (rep_sl_len rpv).1
  rw [List.length_map] at hnp
  have HNP := Lib.hid hnp
  have HQ := Lib.hid hq.len
  have hnq : (nq : Int) ≤ 9223372036854775807 := by have := hqm; have := (rep_sl_len rq).2.1; unfold maxLen at *; omega
  have hn0 : (0 : Int) ≤ (np : Int) := by omega
  have bj : (j : Int) < (n : Int) := by omega
  have yb : b < w.heap.size := hbl
  have q1 := q0.alloc (by simp only [wsize_alloc]; omega) (.cells #[.int .i64 x.count, .int .i64 x.value.kind, .slice Ai ni ci, .slice Ap np cp, .slice An nn cn, .slice Ac nc cc, .slice Al nl cl, .int .i64 x.value.code, .int .i64 x.value.env, .slice Aq nq cq] 71)
  clear hl hx hk rv rq hnp
  by_cases hcn : x.count ≤ 0
  · have HZ := Lib.hid (depD_no (d := d) (h := h) (k := (j : Int)) (by rw [HX.out]; simp [fitL]; omega))
    go_enter Try.func39, Try.ntmps39
    go_wp2_with fail
    refine (l1In_any _ _ _ _).mono ?_
    rintro e w1 ⟨rfl, rfl⟩
    go_wp2_with fail
    all_goals (go_ret; exact ⟨ret_bool HZ.out.symm, q0⟩)
  by_cases hz : nq = 0
  · have hf : fitL d (celD h (j : Int)) = true := by
      rw [HX.out]; simp only [fitL, HQ.out, hz]; simp; omega
    have HZ : Hid (depD h d (j : Int) = decide (np = 0)) := Lib.hid (by rw [depD_parts hf, HX.out, List.length_eq_zero_iff.1 (HQ.out.trans hz), HNP.out]; rfl)
    obtain rfl := hz
    clear hf
    go_enter Try.func39, Try.ntmps39
    go_wp2_with fail
    refine (l1In_any _ _ _ _).mono ?_
    rintro e w1 ⟨rfl, rfl⟩
    go_wp2_with fail
    refine wp_loop_rounds 1 ?_
    rw [rounds_succ]
    go_wp2_with fail
    go_ret
    exact ⟨ret_bool (by rw [HZ.out, Bool.eq_iff_iff]; simp), q1⟩
  have hzp : 0 < nq := by omega
  have kx : Blk ((w.alloc (.cells #[.slice (some ⟨b, off, none⟩) n c, .slice Am nm cm, .slice As ns ca, .int .i64 h.copies] 48)).alloc (.cells #[.int .i64 x.count, .int .i64 x.value.kind, .slice Ai ni ci, .slice Ap np cp, .slice An nn cn, .slice Ac nc cc, .slice Al nl cl, .int .i64 x.value.code, .int .i64 x.value.env, .slice Aq nq cq] 71)) (w.heap.size + 1) 71 [.int .i64 x.count, .int .i64 x.value.kind, .slice Ai ni ci, .slice Ap np cp, .slice An nn cn, .slice Ac nc cc, .slice Al nl cl, .int .i64 x.value.code, .int .i64 x.value.env, .slice Aq nq cq] := by
    have := Blk.new' (w := w.alloc (.cells #[.slice (some ⟨b, off, none⟩) n c, .slice Am nm cm, .slice As ns ca, .int .i64 h.copies] 48)) (t := 71) (l := [.int .i64 x.count, .int .i64 x.value.kind, .slice Ai ni ci, .slice Ap np cp, .slice An nn cn, .slice Ac nc cc, .slice Al nl cl, .int .i64 x.value.code, .int .i64 x.value.env, .slice Aq nq cq])
    simpa only [wsize_alloc] using this
  have kh : Blk ((w.alloc (.cells #[.slice (some ⟨b, off, none⟩) n c, .slice Am nm cm, .slice As ns ca, .int .i64 h.copies] 48)).alloc (.cells #[.int .i64 x.count, .int .i64 x.value.kind, .slice Ai ni ci, .slice Ap np cp, .slice An nn cn, .slice Ac nc cc, .slice Al nl cl, .int .i64 x.value.code, .int .i64 x.value.env, .slice Aq nq cq] 71)) w.heap.size 48 [.slice (some ⟨b, off, none⟩) n c, .slice Am nm cm, .slice As ns ca, .int .i64 h.copies] := (Blk.new' (l := [.slice (some ⟨b, off, none⟩) n c, .slice Am nm cm, .slice As ns ca, .int .i64 h.copies])).al
  by_cases hbad : x.value.kind ≠ 4 ∨ 40 < nq
  · have HZ := Lib.hid (depD_no (d := d) (h := h) (k := (j : Int)) (by rw [HX.out]; simp only [fitL, HQ.out]; simp; omega))
    rcases (show (x.value.kind != 4) = true ∨ ((x.value.kind != 4) = false ∧ (40 : Int) < nq) by
      by_cases a4 : x.value.kind = 4
      · right; exact ⟨by simpa using a4, by omega⟩
      · left; simpa using a4) with t4 | ⟨t4, t40⟩
    all_goals
      clear hbad hz
      go_enter Try.func39, Try.ntmps39
      go_wp2_with fail
      refine (l1In_any _ _ _ _).mono ?_
      rintro e w1 ⟨rfl, rfl⟩
      go_wp2_with fail
      refine wp_loop_rounds 1 ?_
      rw [rounds_succ]
      go_wp2_with fail
      go_quiet (fail)
      go_wp2_with fail
      go_ret
      exact ⟨ret_bool HZ.out.symm, below_drewN q1 _⟩
  have t4 : (x.value.kind != 4) = false := by simp; omega
  have t40 : decide ((40 : Int) < (nq : Int)) = false := by simp; omega
  have hdp : Hid (depD h d (j : Int) = (decide (d ≠ 0) && (x.parts.all (depD h (d - 1)) && decide (np = 0)))) := Lib.hid (by
    by_cases h0 : d = 0
    · rw [depD_no (by rw [HX.out]; simp only [fitL, HQ.out]; simp; omega)]; simp [h0]
    · rw [depD_parts (by rw [HX.out]; simp only [fitL, HQ.out]; simp; omega), HX.out, HNP.out]; simp [h0])
  have HIH := Lib.hid ih
  have HNG := Lib.hid (l36Depth_neg h hc)
  have HR := Lib.hid hr
  clear ih hbad hz hr
  go_enter Try.func39, Try.ntmps39
  go_wp2_with fail
  refine (l1In_any _ _ _ _).mono ?_
  rintro e w1 ⟨rfl, rfl⟩
  go_wp2_with fail
  clear e0 e1 e2 e3 e4 e5 e6 e7 e8 e9 hdd
  go_loopw [8] (fun v8 wr => ∃ m : Nat, m ≤ nq ∧ v8 = .int .i64 m ∧ (x.parts.take m).all (depD h (d - 1)) = true ∧ (d = 0 → m = 0) ∧ Blk wr w.heap.size 48 [.slice (some ⟨b, off, none⟩) n c, .slice Am nm cm, .slice As ns ca, .int .i64 h.copies] ∧ Blk wr (w.heap.size + 1) 71 [.int .i64 x.count, .int .i64 x.value.kind, .slice Ai ni ci, .slice Ap np cp, .slice An nn cn, .slice Ac nc cc, .slice Al nl cl, .int .i64 x.value.code, .int .i64 x.value.env, .slice Aq nq cq] ∧ Below w.heap.size w wr) (fun v8 _ => nq - (intOf v8).toNat)
  case atStart => exact ⟨0, by omega, rfl, by simp, fun _ => rfl, kh, kx, q1⟩
  case round =>
    clear kh kx q1
    obtain ⟨m, hm, rfl, hall, hm0, kh, kx, bb⟩ := hrel
    obtain ⟨g0, g1, g2, g3⟩ := kh.c4
    have f1 := kx.cell 1
    have f3 := kx.cell 3
    have f9 := kx.cell 9
    simp only [List.getElem?_cons_zero, List.getElem?_cons_succ] at f1 f3 f9
    have HAL := Lib.hid hall
    have HM0 := Lib.hid hm0
    have y0 : w.heap.size < wr.heap.size := kh.lt
    have y1 : w.heap.size + 1 < wr.heap.size := kx.lt
    clear hall hm0
    by_cases hlt : m < nq
    · obtain ⟨b2, o2, y, rfl, hb2, hy, hc2⟩ := (hq.below bb).at_ hlt
      have c2 := hc2 0 _ rfl
      simp only [Nat.mul_one, Nat.add_zero] at c2
      have HY := Lib.hid hy
      have ry := rep_in HR.out bb bb.size
      have yb2 : b2 < wr.heap.size := by omega
      have im : (m : Int) < (nq : Int) := by omega
      have im0 : (0 : Int) ≤ (m : Int) := by omega
      clear hc2 hy
      have SL : ∀ W, Below wr.heap.size wr W → Blk W w.heap.size 48 [.slice (some ⟨b, off, none⟩) n c, .slice Am nm cm, .slice As ns ca, .int .i64 h.copies] ∧ (W.cell? ⟨w.heap.size, 0, none⟩ = some (.slice (some ⟨b, off, none⟩) n c) ∧ W.cell? ⟨w.heap.size, 1, none⟩ = some (.slice Am nm cm) ∧ W.cell? ⟨w.heap.size, 2, none⟩ = some (.slice As ns ca) ∧ W.cell? ⟨w.heap.size, 3, none⟩ = some (.int .i64 h.copies) ∧ W.cell? ⟨w.heap.size + 1, 1, none⟩ = some (.int .i64 x.value.kind) ∧ W.cell? ⟨w.heap.size + 1, 9, none⟩ = some (.slice (some ⟨b2, o2, none⟩) nq cq) ∧ W.cell? ⟨b2, o2 + m, none⟩ = some (.int .i64 y)) := fun W hW =>
        ⟨kh.next hW, ((kh.next hW).c4).1, ((kh.next hW).c4).2.1, ((kh.next hW).c4).2.2.1, ((kh.next hW).c4).2.2.2, (kx.next hW).cell 1, (kx.next hW).cell 9, (hW.cell (p := ⟨b2, o2 + m, none⟩) yb2).trans c2⟩
      have S0 := (SL wr.drew (Below.refl _ _).drew).2
      have HSL := Lib.hid SL
      clear SL
      by_cases h0 : d = 0
      · have hnd : nd = 0 := by rw [HND.out, h0]; rfl
        subst hnd
        go_wp2_with fail
        go_region_held3 (fun W => W.cell? ⟨w.heap.size, 0, none⟩ = some (.slice (some ⟨b, off, none⟩) n c) ∧ W.cell? ⟨w.heap.size, 1, none⟩ = some (.slice Am nm cm) ∧ W.cell? ⟨w.heap.size, 2, none⟩ = some (.slice As ns ca) ∧ W.cell? ⟨w.heap.size, 3, none⟩ = some (.int .i64 h.copies) ∧ W.cell? ⟨w.heap.size + 1, 1, none⟩ = some (.int .i64 x.value.kind) ∧ W.cell? ⟨w.heap.size + 1, 9, none⟩ = some (.slice (some ⟨b2, o2, none⟩) nq cq) ∧ W.cell? ⟨b2, o2 + m, none⟩ = some (.int .i64 y))
          (first | exact S0 | exact S2)
          (first | (go_at_call 39; refine (HNG.out y _ _ (rep_dw ry)).mono ?_; rintro e w3 ⟨rfl, hb3⟩; have bb3 := ((Below.refl wr.heap.size wr).drew).trans hb3; have S2 := (HSL.out w3 bb3).2))
        go_wp2_with fail
        go_ret
        exact ⟨ret_bool (by rw [hdp.out]; simp [h0]), bth bb bb3⟩
      · obtain ⟨d', rfl⟩ : ∃ d', d = d' + 1 := ⟨d - 1, by omega⟩
        have HP := Lib.hid (HIH.out d' rfl)
        have hw1 : IntKind.i64.wrap (nd - 1) = nd - 1 := IntWalk.i64_in _ (by have := HND.out; omega)
        have HN1 : Hid (nd - 1 = (d' : Int)) := Lib.hid (by have := HND.out; omega)
        clear h0
        go_wp2_with fail
        go_region_held3 (fun W => W.cell? ⟨w.heap.size, 0, none⟩ = some (.slice (some ⟨b, off, none⟩) n c) ∧ W.cell? ⟨w.heap.size, 1, none⟩ = some (.slice Am nm cm) ∧ W.cell? ⟨w.heap.size, 2, none⟩ = some (.slice As ns ca) ∧ W.cell? ⟨w.heap.size, 3, none⟩ = some (.int .i64 h.copies) ∧ W.cell? ⟨w.heap.size + 1, 1, none⟩ = some (.int .i64 x.value.kind) ∧ W.cell? ⟨w.heap.size + 1, 9, none⟩ = some (.slice (some ⟨b2, o2, none⟩) nq cq) ∧ W.cell? ⟨b2, o2 + m, none⟩ = some (.int .i64 y))
          (first | exact S0 | exact S2)
          (first | (go_at_call 39; refine (HP.out (nd - 1) y _ _ HN1.out (rep_dw ry)).mono ?_; rintro e w3 ⟨rfl, hb3⟩; have bb3 := ((Below.refl wr.heap.size wr).drew).trans hb3; have S2 := (HSL.out w3 bb3).2))
        cases hfy : depD h d' y
        · have HF := Lib.hid hfy
          clear hfy
          go_wp2_with fail
          go_ret
          exact ⟨ret_bool (by rw [hdp.out, show x.parts.all (depD h (d' + 1 - 1)) = false from all_bad HY.out HF.out]; simp), bth bb bb3⟩
        · have HF := Lib.hid hfy
          clear hfy
          go_wp2_with fail
          go_roundw
          case rel => exact ⟨m + 1, by omega, by go_num, all_snoc HY.out HAL.out HF.out, fun e => by simp at e, kh.next bb3, kx.next bb3, bth bb bb3⟩
          case measure => simp [intOf]; omega
    · obtain rfl : m = nq := by omega
      go_wp2_with fail
      go_ret
      refine ⟨ret_bool ?_, bb⟩
      have hd1 : d ≠ 0 := fun e => by have := HM0.out e; omega
      have ha : x.parts.all (depD h (d - 1)) = true := by rw [← HAL.out, List.take_of_length_le (by rw [HQ.out]; omega)]
      rw [hdp.out, ha, Bool.eq_iff_iff]
      simp [hd1]
theorem l36Depth_any (h : Hp) (hc : (h.cells.length : Int) ≤ 1048576) : ∀ d : Nat, (d : Int) ≤ 100 → dpP h d
  | 0, hd => l36Depth_of h 0 hd hc (fun d' e => by omega)
  | d + 1, hd => l36Depth_of h (d + 1) hd hc (fun d' e => by
      obtain rfl : d = d' := by omega
      exact l36Depth_any h hc d (by omega))
end Go.Proofs.Ytekcpadlmfaihaa
