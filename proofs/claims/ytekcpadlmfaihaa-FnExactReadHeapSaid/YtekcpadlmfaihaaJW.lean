/- ReadHeap: what it returns; cellOf; the empty vector as owned data. ReadHeap of both sides. ReadHeap of the reference. -/
import Derived.Test.YtekcpadlmfaihaaJG
import Derived.Test.YtekcpadlmfaihaaJM
import Derived.Test.YtekcpadlmfaihaaJN
set_option linter.unusedSimpArgs false
set_option linter.unusedVariables false
namespace Go.Proofs.Ytekcpadlmfaihaa
open Go.RowKit
/-- The cell of a name. -/
def slotD (h : Hp) (s : Str) : Int := (h.slots[(ix h.names s 0).toNat]?).getD 0
def hasN (h : Hp) (s : Str) : Bool := decide (0 ≤ ix h.names s 0)
def cellD (h : Hp) (s : Str) : Int := if hasN h s = true then slotD h s else -1
def readD (h : Hp) (s : Str) : Vec × Bool := if heapOK h && hasN h s then (asm h 3 (slotD h s), true) else (zeroV, false)
theorem readD_yes {h : Hp} {s : Str} (h1 : heapOK h = true) (h2 : hasN h s = true) : readD h s = (asm h 3 (slotD h s), true) := by simp [readD, h1, h2]
theorem readD_no {h : Hp} {s : Str} (h1 : heapOK h = false ∨ hasN h s = false) : readD h s = (zeroV, false) := by
  rcases h1 with h1 | h1 <;> simp [readD, h1]
theorem heapOK_parts {h : Hp} (hk : heapOK h = true) : h.names.length = h.slots.length ∧ allFrom (celOK (cnts h.cells.length (refs h))) h.cells = true ∧ allFrom (fun i s => namOK h i s ((h.slots[i]?).getD 0)) h.names = true := by
  simp only [heapOK, Bool.and_eq_true, decide_eq_true_eq] at hk
  exact ⟨hk.1.1.1.1, hk.1.2, hk.2⟩
theorem heapOK_name {h : Hp} {s : Str} (hk : heapOK h = true) (hn : hasN h s = true) :
    ∃ i : Nat, ix h.names s 0 = (i : Int) ∧ i < h.slots.length ∧ h.slots[i]? = some (slotD h s) ∧ 0 ≤ slotD h s ∧ slotD h s < h.cells.length ∧ depD h 3 (slotD h s) = true ∧ isVec (asm h 3 (slotD h s)) = true := by
  obtain ⟨h1, h2, h3⟩ := heapOK_parts hk
  simp only [hasN, decide_eq_true_eq] at hn
  have hg := (ix_ge h.names s 0).2
  obtain ⟨i, hi⟩ := Int.eq_ofNat_of_zero_le hn
  have hil : i < h.slots.length := by omega
  have hx : h.names[i]? = some (h.names[i]'(by omega)) := List.getElem?_eq_getElem (by omega)
  have hs : h.slots[i]? = some (slotD h s) := by
    unfold slotD
    rw [hi, Int.toNat_natCast, List.getElem?_eq_getElem hil]; rfl
  have h4 := allFrom_iff.1 h3 i _ hx
  simp only [hs, Option.getD_some, namOK, Bool.and_eq_true] at h4
  have h5 : ∀ c ∈ h.cells, c.value.parts.length = 0 := by
    intro c hc
    obtain ⟨j, hj, rfl⟩ := List.getElem_of_mem hc
    have h6 := allFrom_iff.1 h2 j _ (List.getElem?_eq_getElem hj)
    simp only [celOK, Bool.and_eq_true, decide_eq_true_eq] at h6
    exact h6.1.2
  have hd : depD h 3 (slotD h s) = true := by rw [depD_eq h5]; exact h4.1.2
  have hr := celD_in (depD_pos hd)
  simp only [inR, decide_eq_true_eq] at hr
  exact ⟨i, hi, hil, hs, hr.1, hr.2, hd, h4.2⟩
theorem own_nilS {P : Program} {w : World} {t e : TypeId} (ht : P.underlying t = some (.slice e)) : own P w (.sl []) t [] [.slice none 0 0] := by
  rw [own]
  exact ⟨e, none, 0, 0, P.cellsOf e, [], [], ht, rfl, rfl, by unfold maxLen; omega, Own.nil_, rfl, by rw [ownA]; exact ⟨rfl, rfl⟩⟩
theorem own_zeroV (w : World) : own Try.prog w zeroV.toD 34 [] [.int .i64 0, .slice none 0 0, .slice none 0 0, .slice none 0 0, .slice none 0 0, .slice none 0 0, .int .i64 0, .int .i64 0] := by
  refine Vector_own (x := zeroV) (Fitems := []) (Fparts := []) (Fnames := []) (Fcls := []) (Flevels := []) (by decide) ?_ ?_ ?_ ?_ ?_ (by decide) (by decide)
  · exact own_nilS Try.underlying31
  · exact own_nilS Try.underlying32
  · exact own_nilS Try.underlying24
  · exact own_nilS Try.underlying24
  · exact own_nilS Try.underlying24
set_option maxRecDepth 100000 in
set_option maxHeartbeats 4000000 in
theorem cellOf_any (h : Hp) (hl : h.names.length = h.slots.length) (s : Str) (cs : List Value) (w : World) (hr : rep w w.heap.size h.toD cs) :
    Calls Try.prog 59 #[av cs, sv s] w fun e w' => e = .returned (.int .i64 (cellD h s)) ∧ Below w.heap.size w w' := by
  obtain ⟨A, n, c, Am, nm, cm, As, ns, ca, rfl, rc, rn, rs, wc⟩ := Heap_open hr
  obtain ⟨As', ns', ca', he, hsc, hsm, hs, _⟩ := (repI _ _ _ _).1 rs
  injection he with he; injection he with f1 f2 f3; subst f1 f2 f3
  obtain ⟨Am', nm', cm', he, hmc, hmm, hm, hmx⟩ := (repS _ _ _ _).1 rn
  injection he with he; injection he with f1 f2 f3; subst f1 f2 f3
  have q0 := (Below.refl w.heap.size w).alloc (Nat.le_refl _) (.cells #[.slice A n c, .slice Am nm cm, .slice As ns ca, .int .i64 h.copies] 48)
  have hg := (ix_ge h.names s 0).2
  have hl1 := hm.len
  have hl2 := hs.len
  have hTI := textIndex_any Am nm cm h.names s (w.alloc (.cells #[.slice A n c, .slice Am nm cm, .slice As ns ca, .int .i64 h.copies] 48)) (hm.next q0) (by omega)
  cases hn : hasN h s with
  | false =>
    have hc : cellD h s = -1 := by simp [cellD, hn]
    have h0 : ix h.names s 0 < 0 := by simp only [hasN, decide_eq_false_iff_not] at hn; omega
    have HC := Lib.hid hc
    clear hc hn hl hl1 hl2 hg
    go_enter Try.func59, Try.ntmps59
    go_wp2_with fail
    refine hTI.mono ?_
    rintro e w1 ⟨rfl, rfl⟩
    go_wp2_with fail
    go_ret
    exact ⟨ret_int HC.out.symm, q0⟩
  | true =>
    have hc : cellD h s = slotD h s := by simp [cellD, hn]
    have h0 : 0 ≤ ix h.names s 0 := by simpa [hasN] using hn
    obtain ⟨i, hi⟩ := Int.eq_ofNat_of_zero_le h0
    rw [hi] at hTI hg
    obtain ⟨bs, os, k, rfl, hbs, hk, hk0⟩ := (hs.below q0).atI (k := i) (by omega)
    have hks : slotD h s = k := by unfold slotD; rw [hi, Int.toNat_natCast, hk]; rfl
    have hlt : (i : Int) < (ns : Int) := by omega
    have HC := Lib.hid (hc.trans hks)
    clear hc hks hn hl hl1 hl2 hg hi h0 hk
    go_enter Try.func59, Try.ntmps59
    go_wp2_with fail
    refine hTI.mono ?_
    rintro e w1 ⟨rfl, rfl⟩
    go_wp2_with fail
    go_ret
    exact ⟨ret_int HC.out.symm, q0⟩
end Go.Proofs.Ytekcpadlmfaihaa
namespace Go.Proofs.Ytekcpadlmfaihaa
open Go.RowKit
def RdP (h : Hp) (s : Str) (w : World) (e : Ending) (w' : World) : Prop :=
  ∃ (cs : List Value) (F : List Nat), e = .returned (.tuple #[.agg cs.toArray, .bool (readD h s).2]) ∧ own Try.prog w' (readD h s).1.toD 34 F cs ∧ Fresh w.heap.size F ∧ Below w.heap.size w w'
set_option maxRecDepth 100000 in
set_option maxHeartbeats 8000000 in
theorem implReadHeap_of (h : Hp) (hz : szD h.toD ≤ 1048576) (s : Str) (cs : List Value) (w : World) (hr : rep w w.heap.size h.toD cs) (hIH : ∀ w : World, rep w w.heap.size h.toD cs → Calls Try.prog 15 #[av cs] w fun e w' => e = .returned (.bool (heapOK h)) ∧ Below w.heap.size w w') : Calls Try.prog 20 #[av cs, sv s] w (RdP h s w) := by
  have HIH := Lib.hid hIH
  clear hIH
  have HCO := fun hl => Lib.hid (cellOf_any h hl s cs)
  have HAS := Lib.hid (assembled_any h hz 3)
  have HR := Lib.hid hr
  obtain ⟨A, n, c, Am, nm, cm, As, ns, ca, rfl, -⟩ := Heap_open hr
  have kh : Blk ((w.alloc (.cells #[.slice A n c, .slice Am nm cm, .slice As ns ca, .int .i64 h.copies] 48)).alloc (.cells #[.int .i64 0, .slice none 0 0, .slice none 0 0, .slice none 0 0, .slice none 0 0, .slice none 0 0, .int .i64 0, .int .i64 0] 34)) w.heap.size 48 [.slice A n c, .slice Am nm cm, .slice As ns ca, .int .i64 h.copies] := (Blk.new' (l := [.slice A n c, .slice Am nm cm, .slice As ns ca, .int .i64 h.copies])).al
  have kR : Blk ((w.alloc (.cells #[.slice A n c, .slice Am nm cm, .slice As ns ca, .int .i64 h.copies] 48)).alloc (.cells #[.int .i64 0, .slice none 0 0, .slice none 0 0, .slice none 0 0, .slice none 0 0, .slice none 0 0, .int .i64 0, .int .i64 0] 34)) (w.heap.size + 1) 34 [.int .i64 0, .slice none 0 0, .slice none 0 0, .slice none 0 0, .slice none 0 0, .slice none 0 0, .int .i64 0, .int .i64 0] := by
    have := Blk.new' (w := w.alloc (.cells #[.slice A n c, .slice Am nm cm, .slice As ns ca, .int .i64 h.copies] 48)) (t := 34) (l := [.int .i64 0, .slice none 0 0, .slice none 0 0, .slice none 0 0, .slice none 0 0, .slice none 0 0, .int .i64 0, .int .i64 0])
    simpa only [wsize_alloc] using this
  have q0 : Below w.heap.size w ((w.alloc (.cells #[.slice A n c, .slice Am nm cm, .slice As ns ca, .int .i64 h.copies] 48)).alloc (.cells #[.int .i64 0, .slice none 0 0, .slice none 0 0, .slice none 0 0, .slice none 0 0, .slice none 0 0, .int .i64 0, .int .i64 0] 34)) := ((Below.refl w.heap.size w).alloc (Nat.le_refl _) _).alloc (by simp) _
  cases hok : heapOK h with
  | false =>
    have HRD := Lib.hid (readD_no (s := s) (.inl hok))
    have HI := HIH.out _ (rep_in HR.out q0 q0.size)
    rw [hok] at HI
    clear hr hok
    go_enter Try.func20, Try.ntmps20
    go_wp2_with fail
    refine HI.mono ?_
    rintro e w1 ⟨rfl, hb1⟩
    have kR1 := kR.next hb1
    obtain ⟨r0, r1, r2, r3, r4, r5, r6, r7⟩ := kR1.c8
    have zr := fun i => kR1.frozen i
    have zr0 := zr 0; have zr1 := zr 1; have zr2 := zr 2; have zr3 := zr 3; have zr4 := zr 4; have zr5 := zr 5; have zr6 := zr 6; have zr7 := zr 7
    have hR1 : w.heap.size + 1 < w1.heap.size := by have := hb1.size; simp only [wsize_alloc] at this; omega
    have q1 := bth q0 hb1
    clear zr
    go_wp2_with fail
    refine bodyPost_ret (v := .tuple #[.agg #[.int .i64 0, .slice none 0 0, .slice none 0 0, .slice none 0 0, .slice none 0 0, .slice none 0 0, .int .i64 0, .int .i64 0], .bool false]) (by simp [results, Try.results20, go_sem, r0, r1, r2, r3, r4, r5, r6, r7, hR1]) rfl ?_
    unfold RdP
    rw [HRD.out]
    exact ⟨_, [], rfl, own_zeroV _, Fresh.nil, by (repeat' (first | with_reducible assumption | with_reducible exact Below.refl _ _ | with_reducible refine bel_dw ?_ | with_reducible refine bel_al ?_ ?_ | with_reducible refine bel_set ?_ ?_ | with_reducible refine bel_call ?_ (by with_reducible assumption) ?_ | ((try simp only [wsize_drew, wsize_alloc, wsize_set]); omega)))⟩
  | true =>
    have HI := HIH.out _ (rep_in HR.out q0 q0.size)
    rw [hok] at HI
    have hCO := HCO (heapOK_parts hok).1
    cases hhn : hasN h s with
    | false =>
      have HRD := Lib.hid (readD_no (s := s) (.inr hhn))
      have hcd : cellD h s = -1 := by simp [cellD, hhn]
      rw [hcd] at hCO
      clear hr hok hcd hhn
      go_enter Try.func20, Try.ntmps20
      go_wp2_with fail
      refine HI.mono ?_
      rintro e w1 ⟨rfl, hb1⟩
      have q1 := bth q0 hb1
      have kR1 := kR.next hb1
      have kh1 := kh.next hb1
      obtain ⟨g0, g1, g2, g3⟩ := kh1.c4
      go_wp2_with fail
      refine (hCO.out _ (rep_in HR.out q1 q1.size)).mono ?_
      rintro e w2 ⟨rfl, hb2⟩
      have kR2 := kR1.next hb2
      obtain ⟨r0, r1, r2, r3, r4, r5, r6, r7⟩ := kR2.c8
      have zr := fun i => kR2.frozen i
      have zr0 := zr 0; have zr1 := zr 1; have zr2 := zr 2; have zr3 := zr 3; have zr4 := zr 4; have zr5 := zr 5; have zr6 := zr 6; have zr7 := zr 7
      have hR1 : w.heap.size + 1 < w2.heap.size := by have z1 := hb1.size; have z2 := hb2.size; simp only [wsize_alloc] at z1; omega
      have q2 := bth q1 hb2
      clear zr g0 g1 g2 g3
      go_wp2_with fail
      refine bodyPost_ret (v := .tuple #[.agg #[.int .i64 0, .slice none 0 0, .slice none 0 0, .slice none 0 0, .slice none 0 0, .slice none 0 0, .int .i64 0, .int .i64 0], .bool false]) (by simp [results, Try.results20, go_sem, r0, r1, r2, r3, r4, r5, r6, r7, hR1]) rfl ?_
      unfold RdP
      rw [HRD.out]
      exact ⟨_, [], rfl, own_zeroV _, Fresh.nil, by (repeat' (first | with_reducible assumption | with_reducible exact Below.refl _ _ | with_reducible refine bel_dw ?_ | with_reducible refine bel_al ?_ ?_ | with_reducible refine bel_set ?_ ?_ | with_reducible refine bel_call ?_ (by with_reducible assumption) ?_ | ((try simp only [wsize_drew, wsize_alloc, wsize_set]); omega)))⟩
    | true =>
      have HRD := Lib.hid (readD_yes hok hhn)
      have hcd : cellD h s = slotD h s := by simp [cellD, hhn]
      obtain ⟨i, -, -, -, hk0, hk1, hdp, -⟩ := heapOK_name hok hhn
      obtain ⟨k, hk⟩ : ∃ k : Int, k = slotD h s := ⟨_, rfl⟩
      rw [hcd, ← hk] at hCO
      rw [← hk] at hdp hk0
      have HK := Lib.hid hk
      have HDP := Lib.hid hdp
      clear hr hok hcd hhn hk hk1 hdp
      go_enter Try.func20, Try.ntmps20
      go_wp2_with fail
      refine HI.mono ?_
      rintro e w1 ⟨rfl, hb1⟩
      have q1 := bth q0 hb1
      have kR1 := kR.next hb1
      have kh1 := kh.next hb1
      obtain ⟨g0, g1, g2, g3⟩ := kh1.c4
      go_wp2_with fail
      refine (hCO.out _ (rep_in HR.out q1 q1.size)).mono ?_
      rintro e w2 ⟨rfl, hb2⟩
      have q2 := bth q1 hb2
      have kR2 := kR1.next hb2
      have kh2 := kh1.next hb2
      clear g0 g1 g2 g3
      obtain ⟨g0, g1, g2, g3⟩ := kh2.c4
      have hk9 : decide (k < 0) = false := by simp; omega
      have z1 := hb1.size
      have z2 := hb2.size
      simp only [wsize_alloc] at z1
      go_wp2_with fail
      refine wp_region_noPanic ?_
      refine wp_region_held_drew (S := fun W => W.cell? ⟨w.heap.size, 0, none⟩ = some (.slice A n c) ∧ W.cell? ⟨w.heap.size, 1, none⟩ = some (.slice Am nm cm) ∧ W.cell? ⟨w.heap.size, 2, none⟩ = some (.slice As ns ca) ∧ W.cell? ⟨w.heap.size, 3, none⟩ = some (.int .i64 h.copies)) (by kernel_rfl) ⟨g0, g1, g2, g3⟩ (fun hH => ?_)
      clear g0 g1 g2 g3
      refine tk_yes (i := 0) (v := ?_) rfl rfl (by kernel_rfl) (by kernel_rfl) (by kernel_rfl) (fun _ _ _ _ h => h) (by kernel_rfl) ?_ (by assumption) ?_; rotate_left; (intro wq hSw; (try dsimp only at hSw); go_simp; (try with_reducible rfl)); (try simp only [List.setIfInBounds_toArray, List.set_cons_zero, List.set_cons_succ])
      refine tk_yes (i := 1) (v := ?_) rfl rfl (by kernel_rfl) (by kernel_rfl) (by kernel_rfl) (fun _ _ _ _ h => h) (by kernel_rfl) ?_ (by assumption) ?_; rotate_left; (intro wq hSw; (try dsimp only at hSw); go_simp; (try with_reducible rfl)); (try simp only [List.setIfInBounds_toArray, List.set_cons_zero, List.set_cons_succ])
      refine tk_yes (i := 2) (v := ?_) rfl rfl (by kernel_rfl) (by kernel_rfl) (by kernel_rfl) (fun _ _ _ _ h => h) (by kernel_rfl) ?_ (by assumption) ?_; rotate_left; (intro wq hSw; (try dsimp only at hSw); go_simp; (try with_reducible rfl)); (try simp only [List.setIfInBounds_toArray, List.set_cons_zero, List.set_cons_succ])
      refine wpAnyH_all (rs := [3]) (by kernel_rfl) (by simp) (fun i hi => ?_); obtain rfl : i = 3 := (by simpa using hi); refine wpOp_step (by rfl) (fun K hK => ?_)
      go_simp
      go_at_call 59
      refine (hCO.out w2.drew (rep_in HR.out q2.drew q2.size)).mono ?_
      rintro e w3 ⟨rfl, hb3⟩
      have z3 := hb3.size
      simp only [wsize_drew] at z3
      have q3 := bth q2.drew hb3
      have kR3 := kR2.dw.next hb3
      have kh3 := kh2.dw.next hb3
      refine hK _ _ ⟨kh3.c4, ?_⟩
      (try simp only [Act.put, List.setIfInBounds_toArray, List.set_cons_zero, List.set_cons_succ])
      refine wpAnyH_all (rs := [4]) (by kernel_rfl) (by simp) (fun i hi => ?_); obtain rfl : i = 4 := (by simpa using hi); refine wpOp_step (by rfl) (fun K hK => ?_)
      go_simp
      go_at_call 49
      refine (HAS.out k _ w3 (rep_in HR.out q3 q3.size) HDP.out).mono ?_
      rintro e w4 ⟨cs4, F4, rfl, o4, fr4, hb4⟩
      obtain ⟨Ci, ki, ei, Cp, kp, ep, Cn, kn, en, Cc, kc, ec, Cl, kl, el, rfl, -⟩ := Vector_open (own_rep _ _ _ _ o4)
      have z4 := hb4.size
      have q4 := bth q3 hb4
      have kR4 := kR3.next hb4
      have kh4 := kh3.next hb4
      have kh5 := kh4
      obtain ⟨r0, r1, r2, r3, r4, r5, r6, r7⟩ := kR4.c8
      have zr := fun i => kR4.frozen i
      have zr0 := zr 0; have zr1 := zr 1; have zr2 := zr 2; have zr3 := zr 3; have zr4 := zr 4; have zr5 := zr 5; have zr6 := zr 6; have zr7 := zr 7
      have hR1 : w.heap.size + 1 < w4.heap.size := by omega
      clear zr
      refine hK _ _ ⟨kh4.c4, ?_⟩
      (try simp only [Act.put, List.setIfInBounds_toArray, List.set_cons_zero, List.set_cons_succ])
      refine wpAnyH_all (rs := [5]) (by kernel_rfl) (by simp) (fun i hi => ?_); obtain rfl : i = 5 := (by simpa using hi); refine wpOp_step (by rfl) (fun K hK => ?_)
      go_simp
      refine hK _ _ ⟨Blk.c4 (t := 48) (by (repeat' (first | with_reducible assumption | with_reducible exact Blk.new' | with_reducible exact Blk.newd | with_reducible apply Blk.set8 | (with_reducible refine Blk.pk ?_ ?_; ((try simp only [wsize_drew, wsize_alloc, wsize_set]); omega)) | with_reducible refine Blk.dw ?_ | with_reducible refine Blk.al ?_ | with_reducible refine Blk.next ?_ (by with_reducible assumption)))), ?_⟩
      (try simp only [Act.put, List.setIfInBounds_toArray, List.set_cons_zero, List.set_cons_succ])
      refine wpAnyH_all (rs := [6]) (by kernel_rfl) (by simp) (fun i hi => ?_); obtain rfl : i = 6 := (by simpa using hi); refine wpOp_step (by rfl) (fun K hK => ?_)
      go_simp
      refine hK _ _ ⟨Blk.c4 (t := 48) (by (repeat' (first | with_reducible assumption | with_reducible exact Blk.new' | with_reducible exact Blk.newd | with_reducible apply Blk.set8 | (with_reducible refine Blk.pk ?_ ?_; ((try simp only [wsize_drew, wsize_alloc, wsize_set]); omega)) | with_reducible refine Blk.dw ?_ | with_reducible refine Blk.al ?_ | with_reducible refine Blk.next ?_ (by with_reducible assumption)))), ?_⟩
      (try simp only [Act.put, List.setIfInBounds_toArray, List.set_cons_zero, List.set_cons_succ])
      refine wpAnyH_done (by kernel_rfl) ?_ _
      refine NoPanic.normal ?_
      go_wp2_with fail
      refine bodyPost_ret (v := .tuple #[.agg #[.int .i64 (asm h 3 k).kind, .slice Ci ki ei, .slice Cp kp ep, .slice Cn kn en, .slice Cc kc ec, .slice Cl kl el, .int .i64 (asm h 3 k).code, .int .i64 (asm h 3 k).env], .bool true]) (by simp [results, Try.results20, go_sem, r0, r1, r2, r3, r4, r5, r6, r7, hR1]) rfl ?_
      unfold RdP
      rw [HRD.out, ← HK.out]
      refine ⟨_, F4, rfl, ?_, fr4.mono (by omega), ?_⟩
      · (repeat' (first | with_reducible assumption | with_reducible refine own_dw ?_ | with_reducible refine own_al ?_ | with_reducible refine own_pk ?_ ?_ | with_reducible exact notin_nil | with_reducible refine notin_app ?_ ?_ | (with_reducible refine Fresh.notin (by with_reducible assumption) ?_; ((try simp only [wsize_drew, wsize_alloc, wsize_set]); omega)) | (with_reducible refine Lo.notin (by with_reducible assumption) ?_; ((try simp only [wsize_drew, wsize_alloc, wsize_set]); omega)) | with_reducible refine own_below ?_ (by with_reducible assumption)))
      · (repeat' (first | with_reducible assumption | with_reducible exact Below.refl _ _ | with_reducible refine bel_dw ?_ | with_reducible refine bel_al ?_ ?_ | with_reducible refine bel_set ?_ ?_ | with_reducible refine bel_call ?_ (by with_reducible assumption) ?_ | ((try simp only [wsize_drew, wsize_alloc, wsize_set]); omega)))
end Go.Proofs.Ytekcpadlmfaihaa
namespace Go.Proofs.Ytekcpadlmfaihaa
open Go.RowKit
set_option maxRecDepth 100000 in
set_option maxHeartbeats 8000000 in
theorem specReadHeap_of (h : Hp) (hz : szD h.toD ≤ 1048576) (s : Str) (cs : List Value) (w : World) (hr : rep w w.heap.size h.toD cs) (hIH : ∀ w : World, rep w w.heap.size h.toD cs → Calls Try.prog 13 #[av cs] w fun e w' => e = .returned (.bool (heapOK h)) ∧ Below w.heap.size w w') : Calls Try.prog 19 #[av cs, sv s] w (RdP h s w) := by
  have HIH := Lib.hid hIH
  clear hIH
  have HAS := Lib.hid (l36Load_any h hz 3)
  have HR := Lib.hid hr
  obtain ⟨A, n, c, Am, nm, cm, As, ns, ca, rfl, rc, rn, rs, wc⟩ := Heap_open hr
  obtain ⟨As', ns', ca', he, hsc, hsm, hs, _⟩ := (repI _ _ _ _).1 rs
  injection he with he; injection he with f1 f2 f3; subst f1 f2 f3
  obtain ⟨Am', nm', cm', he, hmc, hmm, hm, hmx⟩ := (repS _ _ _ _).1 rn
  injection he with he; injection he with f1 f2 f3; subst f1 f2 f3
  have kh : Blk ((w.alloc (.cells #[.slice A n c, .slice Am nm cm, .slice As ns ca, .int .i64 h.copies] 48)).alloc (.cells #[.int .i64 0, .slice none 0 0, .slice none 0 0, .slice none 0 0, .slice none 0 0, .slice none 0 0, .int .i64 0, .int .i64 0] 34)) w.heap.size 48 [.slice A n c, .slice Am nm cm, .slice As ns ca, .int .i64 h.copies] := (Blk.new' (l := [.slice A n c, .slice Am nm cm, .slice As ns ca, .int .i64 h.copies])).al
  have kR : Blk ((w.alloc (.cells #[.slice A n c, .slice Am nm cm, .slice As ns ca, .int .i64 h.copies] 48)).alloc (.cells #[.int .i64 0, .slice none 0 0, .slice none 0 0, .slice none 0 0, .slice none 0 0, .slice none 0 0, .int .i64 0, .int .i64 0] 34)) (w.heap.size + 1) 34 [.int .i64 0, .slice none 0 0, .slice none 0 0, .slice none 0 0, .slice none 0 0, .slice none 0 0, .int .i64 0, .int .i64 0] := by
    have := Blk.new' (w := w.alloc (.cells #[.slice A n c, .slice Am nm cm, .slice As ns ca, .int .i64 h.copies] 48)) (t := 34) (l := [.int .i64 0, .slice none 0 0, .slice none 0 0, .slice none 0 0, .slice none 0 0, .slice none 0 0, .int .i64 0, .int .i64 0])
    simpa only [wsize_alloc] using this
  have q0 : Below w.heap.size w ((w.alloc (.cells #[.slice A n c, .slice Am nm cm, .slice As ns ca, .int .i64 h.copies] 48)).alloc (.cells #[.int .i64 0, .slice none 0 0, .slice none 0 0, .slice none 0 0, .slice none 0 0, .slice none 0 0, .int .i64 0, .int .i64 0] 34)) := ((Below.refl w.heap.size w).alloc (Nat.le_refl _) _).alloc (by simp) _
  have hLF := l1Find_any Am nm cm h.names s ((w.alloc (.cells #[.slice A n c, .slice Am nm cm, .slice As ns ca, .int .i64 h.copies] 48)).alloc (.cells #[.int .i64 0, .slice none 0 0, .slice none 0 0, .slice none 0 0, .slice none 0 0, .slice none 0 0, .int .i64 0, .int .i64 0] 34)) (hm.next q0) (by omega)
  have HI := HIH.out _ (rep_in HR.out q0 q0.size)
  have hl2 := hs.len
  cases hok : heapOK h with
  | false =>
    have HRD := Lib.hid (readD_no (s := s) (.inl hok))
    rw [hok] at HI
    clear hr hok hl2
    go_enter Try.func19, Try.ntmps19
    go_wp2_with fail
    refine hLF.mono ?_
    rintro e w1 ⟨rfl, rfl⟩
    go_wp2_with fail
    refine HI.mono ?_
    rintro e w1 ⟨rfl, hb1⟩
    have kR1 := kR.next hb1
    obtain ⟨r0, r1, r2, r3, r4, r5, r6, r7⟩ := kR1.c8
    have zr := fun i => kR1.frozen i
    have zr0 := zr 0; have zr1 := zr 1; have zr2 := zr 2; have zr3 := zr 3; have zr4 := zr 4; have zr5 := zr 5; have zr6 := zr 6; have zr7 := zr 7
    have hR1 : w.heap.size + 1 < w1.heap.size := by have := hb1.size; simp only [wsize_alloc] at this; omega
    have q1 := bth q0 hb1
    clear zr
    go_wp2_with fail
    refine bodyPost_ret (v := .tuple #[.agg #[.int .i64 0, .slice none 0 0, .slice none 0 0, .slice none 0 0, .slice none 0 0, .slice none 0 0, .int .i64 0, .int .i64 0], .bool false]) (by simp [results, Try.results19, go_sem, r0, r1, r2, r3, r4, r5, r6, r7, hR1]) rfl ?_
    unfold RdP
    rw [HRD.out]
    exact ⟨_, [], rfl, own_zeroV _, Fresh.nil, by (repeat' (first | with_reducible assumption | with_reducible exact Below.refl _ _ | with_reducible refine bel_dw ?_ | with_reducible refine bel_al ?_ ?_ | with_reducible refine bel_set ?_ ?_ | with_reducible refine bel_call ?_ (by with_reducible assumption) ?_ | ((try simp only [wsize_drew, wsize_alloc, wsize_set]); omega)))⟩
  | true =>
    rw [hok] at HI
    cases hhn : hasN h s with
    | false =>
      have HRD := Lib.hid (readD_no (s := s) (.inr hhn))
      have h0 : decide (ix h.names s 0 < 0) = true := by simp only [hasN, decide_eq_false_iff_not] at hhn; simp; omega
      clear hr hok hhn hl2
      go_enter Try.func19, Try.ntmps19
      go_wp2_with fail
      refine hLF.mono ?_
      rintro e w1 ⟨rfl, rfl⟩
      go_wp2_with fail
      refine HI.mono ?_
      rintro e w1 ⟨rfl, hb1⟩
      have kR1 := kR.next hb1
      obtain ⟨r0, r1, r2, r3, r4, r5, r6, r7⟩ := kR1.c8
      have zr := fun i => kR1.frozen i
      have zr0 := zr 0; have zr1 := zr 1; have zr2 := zr 2; have zr3 := zr 3; have zr4 := zr 4; have zr5 := zr 5; have zr6 := zr 6; have zr7 := zr 7
      have hR1 : w.heap.size + 1 < w1.heap.size := by have := hb1.size; simp only [wsize_alloc] at this; omega
      have q1 := bth q0 hb1
      clear zr
      go_wp2_with fail
      refine bodyPost_ret (v := .tuple #[.agg #[.int .i64 0, .slice none 0 0, .slice none 0 0, .slice none 0 0, .slice none 0 0, .slice none 0 0, .int .i64 0, .int .i64 0], .bool false]) (by simp [results, Try.results19, go_sem, r0, r1, r2, r3, r4, r5, r6, r7, hR1]) rfl ?_
      unfold RdP
      rw [HRD.out]
      exact ⟨_, [], rfl, own_zeroV _, Fresh.nil, by (repeat' (first | with_reducible assumption | with_reducible exact Below.refl _ _ | with_reducible refine bel_dw ?_ | with_reducible refine bel_al ?_ ?_ | with_reducible refine bel_set ?_ ?_ | with_reducible refine bel_call ?_ (by with_reducible assumption) ?_ | ((try simp only [wsize_drew, wsize_alloc, wsize_set]); omega)))⟩
    | true =>
      have HRD := Lib.hid (readD_yes hok hhn)
      obtain ⟨i, hi, hil, hsk, hk0, hk1, hdp, -⟩ := heapOK_name hok hhn
      obtain ⟨bs, os, k, rfl, hbs, hk, hk9⟩ := hs.atI (k := i) (by omega)
      have hks : k = slotD h s := by rw [hk] at hsk; injection hsk
      rw [hi] at hLF
      rw [← hks] at hdp hk0
      have hlt : (i : Int) < (ns : Int) := by omega
      have i1 : (0 : Int) ≤ (i : Int) := by omega
      have HK := Lib.hid hks
      have HDP := Lib.hid hdp
      clear hr hok hhn hks hdp hi hil hsk hk hk1 hl2
      go_enter Try.func19, Try.ntmps19
      go_wp2_with fail
      refine hLF.mono ?_
      rintro e w1 ⟨rfl, rfl⟩
      go_wp2_with fail
      refine HI.mono ?_
      rintro e w2 ⟨rfl, hb2⟩
      have q2 := bth q0 hb2
      have kR2 := kR.next hb2
      have kh2 := kh.next hb2
      obtain ⟨g0, g1, g2, g3⟩ := kh2.c4
      have z2 := hb2.size
      simp only [wsize_alloc] at z2
      have g4 := (q2.cell (p := ⟨bs, os + i, none⟩) hbs).trans hk9
      go_wp2_with fail
      refine wp_region_noPanic ?_
      refine wp_region_held_drew (S := fun W => W.cell? ⟨w.heap.size, 0, none⟩ = some (.slice A n c) ∧ W.cell? ⟨w.heap.size, 1, none⟩ = some (.slice Am nm cm) ∧ W.cell? ⟨w.heap.size, 2, none⟩ = some (.slice (some ⟨bs, os, none⟩) ns ca) ∧ W.cell? ⟨w.heap.size, 3, none⟩ = some (.int .i64 h.copies) ∧ W.cell? ⟨bs, os + i, none⟩ = some (.int .i64 k)) (by kernel_rfl) ⟨g0, g1, g2, g3, g4⟩ (fun hH => ?_)
      clear g0 g1 g2 g3 g4
      refine tk_yes (i := 0) (v := ?_) rfl rfl (by kernel_rfl) (by kernel_rfl) (by kernel_rfl) (fun _ _ _ _ h => h) (by kernel_rfl) ?_ (by assumption) ?_; rotate_left; (intro wq hSw; (try dsimp only at hSw); go_simp; (try with_reducible rfl)); (try simp only [List.setIfInBounds_toArray, List.set_cons_zero, List.set_cons_succ])
      refine tk_yes (i := 1) (v := ?_) rfl rfl (by kernel_rfl) (by kernel_rfl) (by kernel_rfl) (fun _ _ _ _ h => h) (by kernel_rfl) ?_ (by assumption) ?_; rotate_left; (intro wq hSw; (try dsimp only at hSw); go_simp; (try with_reducible rfl)); (try simp only [List.setIfInBounds_toArray, List.set_cons_zero, List.set_cons_succ])
      refine tk_yes (i := 2) (v := ?_) rfl rfl (by kernel_rfl) (by kernel_rfl) (by kernel_rfl) (fun _ _ _ _ h => h) (by kernel_rfl) ?_ (by assumption) ?_; rotate_left; (intro wq hSw; (try dsimp only at hSw); go_simp; (try with_reducible rfl)); (try simp only [List.setIfInBounds_toArray, List.set_cons_zero, List.set_cons_succ])
      refine tk_yes (i := 3) (v := ?_) rfl rfl (by kernel_rfl) (by kernel_rfl) (by kernel_rfl) (fun _ _ _ _ h => h) (by kernel_rfl) ?_ (by assumption) ?_; rotate_left; (intro wq hSw; (try dsimp only at hSw); go_simp; (try with_reducible rfl)); (try simp only [List.setIfInBounds_toArray, List.set_cons_zero, List.set_cons_succ])
      refine tk_yes (i := 4) (v := ?_) rfl rfl (by kernel_rfl) (by kernel_rfl) (by kernel_rfl) (fun _ _ _ _ h => h) (by kernel_rfl) ?_ (by assumption) ?_; rotate_left; (intro wq hSw; (try dsimp only at hSw); go_simp; (try with_reducible rfl)); (try simp only [List.setIfInBounds_toArray, List.set_cons_zero, List.set_cons_succ])
      refine tk_yes (i := 5) (v := ?_) rfl rfl (by kernel_rfl) (by kernel_rfl) (by kernel_rfl) (fun _ _ _ _ h => h) (by kernel_rfl) ?_ (by assumption) ?_; rotate_left; (intro wq hSw; (try dsimp only at hSw); go_simp; (try with_reducible rfl)); (try simp only [List.setIfInBounds_toArray, List.set_cons_zero, List.set_cons_succ])
      refine wpAnyH_all (rs := [6]) (by kernel_rfl) (by simp) (fun i hi => ?_); obtain rfl : i = 6 := (by simpa using hi); refine wpOp_step (by rfl) (fun K hK => ?_)
      go_simp
      go_at_call 40
      refine (HAS.out k _ w2.drew (rep_in HR.out q2.drew q2.size) HDP.out).mono ?_
      rintro e w4 ⟨cs4, F4, rfl, o4, fr4, hb4⟩
      obtain ⟨Ci, ki, ei, Cp, kp, ep, Cn, kn, en, Cc, kc, ec, Cl, kl, el, rfl, -⟩ := Vector_open (own_rep _ _ _ _ o4)
      have z4 := hb4.size
      simp only [wsize_drew] at z4 fr4
      have q4 := bth q2.drew hb4
      have kR4 := kR2.dw.next hb4
      have kh4 := kh2.dw.next hb4
      obtain ⟨r0, r1, r2, r3, r4, r5, r6, r7⟩ := kR4.c8
      have zr := fun i => kR4.frozen i
      have zr0 := zr 0; have zr1 := zr 1; have zr2 := zr 2; have zr3 := zr 3; have zr4 := zr 4; have zr5 := zr 5; have zr6 := zr 6; have zr7 := zr 7
      have hR1 : w.heap.size + 1 < w4.heap.size := by omega
      have g4 := (q4.cell (p := ⟨bs, os + i, none⟩) hbs).trans hk9
      clear zr
      obtain ⟨g0, g1, g2, g3⟩ := kh4.c4
      refine hK _ _ ⟨⟨g0, g1, g2, g3, g4⟩, ?_⟩
      clear g0 g1 g2 g3 g4
      (try simp only [Act.put, List.setIfInBounds_toArray, List.set_cons_zero, List.set_cons_succ])
      refine wpAnyH_all (rs := [7]) (by kernel_rfl) (by simp) (fun i hi => ?_); obtain rfl : i = 7 := (by simpa using hi); refine wpOp_step (by rfl) (fun K hK => ?_)
      go_simp
      have q5 : Below w.heap.size w _ := (((((((q4.setCell (p := ⟨w.heap.size + 1, 0, none⟩) (Nat.le_succ _) (.int .i64 (asm h 3 k).kind)).setCell (p := ⟨w.heap.size + 1, 1, none⟩) (Nat.le_succ _) (.slice Ci ki ei)).setCell (p := ⟨w.heap.size + 1, 2, none⟩) (Nat.le_succ _) (.slice Cp kp ep)).setCell (p := ⟨w.heap.size + 1, 3, none⟩) (Nat.le_succ _) (.slice Cn kn en)).setCell (p := ⟨w.heap.size + 1, 4, none⟩) (Nat.le_succ _) (.slice Cc kc ec)).setCell (p := ⟨w.heap.size + 1, 5, none⟩) (Nat.le_succ _) (.slice Cl kl el)).setCell (p := ⟨w.heap.size + 1, 6, none⟩) (Nat.le_succ _) (.int .i64 (asm h 3 k).code)).setCell (p := ⟨w.heap.size + 1, 7, none⟩) (Nat.le_succ _) (.int .i64 (asm h 3 k).env)
      have g4 := (q5.cell (p := ⟨bs, os + i, none⟩) hbs).trans hk9
      obtain ⟨g0, g1, g2, g3⟩ := (Blk.c4 (t := 48) (w := ((((((((w4.setCell ⟨w.heap.size + 1, 0, none⟩ (.int .i64 (asm h 3 k).kind)).setCell ⟨w.heap.size + 1, 1, none⟩ (.slice Ci ki ei)).setCell ⟨w.heap.size + 1, 2, none⟩ (.slice Cp kp ep)).setCell ⟨w.heap.size + 1, 3, none⟩ (.slice Cn kn en)).setCell ⟨w.heap.size + 1, 4, none⟩ (.slice Cc kc ec)).setCell ⟨w.heap.size + 1, 5, none⟩ (.slice Cl kl el)).setCell ⟨w.heap.size + 1, 6, none⟩ (.int .i64 (asm h 3 k).code)).setCell ⟨w.heap.size + 1, 7, none⟩ (.int .i64 (asm h 3 k).env))) (g := w.heap.size) (by (repeat' (first | with_reducible assumption | with_reducible exact Blk.new' | with_reducible exact Blk.newd | with_reducible apply Blk.set8 | (with_reducible refine Blk.pk ?_ ?_; ((try simp only [wsize_drew, wsize_alloc, wsize_set]); omega)) | with_reducible refine Blk.dw ?_ | with_reducible refine Blk.al ?_ | with_reducible refine Blk.next ?_ (by with_reducible assumption)))))
      refine hK _ _ ⟨⟨g0, g1, g2, g3, g4⟩, ?_⟩
      (try simp only [Act.put, List.setIfInBounds_toArray, List.set_cons_zero, List.set_cons_succ])
      refine wpAnyH_all (rs := [8]) (by kernel_rfl) (by simp) (fun i hi => ?_); obtain rfl : i = 8 := (by simpa using hi); refine wpOp_step (by rfl) (fun K hK => ?_)
      go_simp
      refine hK _ _ ⟨⟨g0, g1, g2, g3, g4⟩, ?_⟩
      (try simp only [Act.put, List.setIfInBounds_toArray, List.set_cons_zero, List.set_cons_succ])
      clear g0 g1 g2 g3 g4
      refine wpAnyH_done (by kernel_rfl) ?_ _
      refine NoPanic.normal ?_
      go_wp2_with fail
      refine bodyPost_ret (v := .tuple #[.agg #[.int .i64 (asm h 3 k).kind, .slice Ci ki ei, .slice Cp kp ep, .slice Cn kn en, .slice Cc kc ec, .slice Cl kl el, .int .i64 (asm h 3 k).code, .int .i64 (asm h 3 k).env], .bool true]) (by simp [results, Try.results19, go_sem, r0, r1, r2, r3, r4, r5, r6, r7, hR1]) rfl ?_
      unfold RdP
      rw [HRD.out, ← HK.out]
      refine ⟨_, F4, rfl, ?_, fr4.mono (by omega), ?_⟩
      · (repeat' (first | with_reducible assumption | with_reducible refine own_dw ?_ | with_reducible refine own_al ?_ | with_reducible refine own_pk ?_ ?_ | with_reducible exact notin_nil | with_reducible refine notin_app ?_ ?_ | (with_reducible refine Fresh.notin (by with_reducible assumption) ?_; ((try simp only [wsize_drew, wsize_alloc, wsize_set]); omega)) | (with_reducible refine Lo.notin (by with_reducible assumption) ?_; ((try simp only [wsize_drew, wsize_alloc, wsize_set]); omega)) | with_reducible refine own_below ?_ (by with_reducible assumption)))
      · (repeat' (first | with_reducible assumption | with_reducible exact Below.refl _ _ | with_reducible refine bel_dw ?_ | with_reducible refine bel_al ?_ ?_ | with_reducible refine bel_set ?_ ?_ | with_reducible refine bel_call ?_ (by with_reducible assumption) ?_ | ((try simp only [wsize_drew, wsize_alloc, wsize_set]); omega)))
end Go.Proofs.Ytekcpadlmfaihaa
