/- Heaps that are right: what spec.IsHeap returns. -/
import Derived.Test.YtekcpadlmfaihaaJS
set_option linter.unusedSimpArgs false
set_option linter.unusedVariables false
namespace Go.Proofs.Ytekcpadlmfaihaa
open Go.RowKit
theorem heapS_no {h : Hp} (hn : decide (h.names.length = h.slots.length) = false ∨ decide (0 ≤ h.copies) = false ∨ allFrom (fun i s => namS h i s ((h.slots[i]?).getD 0)) h.names = false ∨ h.cells.all (celS h) = false ∨ allFrom (fun i c => decide ((cnts h.cells.length (refs h))[i]? = some c.count)) h.cells = false) : heapOK h = false := by
  rw [← heapS_eq]
  unfold heapS
  rcases hn with e | e | e | e | e <;> simp [e]
theorem heapS_yes {h : Hp} (h1 : h.names.length = h.slots.length) (h2 : 0 ≤ h.copies) (h3 : allFrom (fun i s => namS h i s ((h.slots[i]?).getD 0)) h.names = true) (h4 : h.cells.all (celS h) = true) (h5 : allFrom (fun i c => decide ((cnts h.cells.length (refs h))[i]? = some c.count)) h.cells = true) : heapOK h = true := by
  rw [← heapS_eq]
  unfold heapS
  rw [h3, h4, h5]
  simp [h1, h2]
/-- A name that stands earlier. -/
theorem ix_lt {l : List Str} {s : Str} {q : Nat} (hq : l[q]? = some s) : decide (ix l s 0 < (q : Int)) = hasB (l.take q) s := by
  have key : ∀ (l : List Str) (i q : Nat), l[q]? = some s → decide (ix l s i < ((i + q : Nat) : Int)) = (l.take q).contains s := by
    intro l
    induction l with
    | nil => intro i q h; simp at h
    | cons a t ih =>
      intro i q h
      rw [ix]
      cases q with
      | zero =>
        simp at h; subst h
        simp
      | succ q =>
        simp at h
        by_cases ha : a = s
        · rw [if_pos ha]; simp [ha]; omega
        · rw [if_neg ha]
          have := ih (i + 1) q h
          rw [show i + 1 + q = i + (q + 1) by omega] at this
          rw [this, List.take_succ_cons, List.contains_cons]
          have : (s == a) = false := by simpa using fun e => ha e.symm
          rw [this]; rfl
  have := key l 0 q hq
  simpa [hasB] using this
set_option maxRecDepth 100000 in
set_option maxHeartbeats 16000000 in
theorem specIsHeap_any (h : Hp) (hz : szD h.toD ≤ 1048576) (cs : List Value) (w : World) (hr : rep w w.heap.size h.toD cs) : Calls Try.prog 13 #[av cs] w fun e w' => e = .returned (.bool (heapOK h)) ∧ Below w.heap.size w w' := by
  have hrl := refs_le h
  have hhs := Heap_sz h
  simp only [szD, List.length_map] at hhs
  have hcl : h.cells.length ≤ 1048576 := by omega
  have hrl2 : (refs h).length ≤ 1048576 := by omega
  obtain ⟨A, n, c, Am, nm, cm, As, ns, ca, rfl, rc, rn, rs, wc⟩ := Heap_open hr
  have hl := (rep_sl_len rc).1
  rw [List.length_map] at hl
  obtain ⟨As', ns', ca', he, _, hsm, hs, _⟩ := (repI _ _ _ _).1 rs
  injection he with he; injection he with f1 f2 f3; subst f1 f2 f3
  obtain ⟨Am', nm', cm', he, hmc, hmm, hm, hmx⟩ := (repS _ _ _ _).1 rn
  injection he with he; injection he with f1 f2 f3; subst f1 f2 f3
  have hn : n ≤ 1048576 := by omega
  have q0 := (Below.refl w.heap.size w).alloc (Nat.le_refl _) (.cells #[.slice A n c, .slice Am nm cm, .slice As ns ca, .int .i64 h.copies] 48)
  obtain ⟨i0, hi0, hz0, hz1, hz2⟩ := info_parts intInfo
  have hmk := fun W => run_make_rowN (P := Try.prog) 41 3 i0 _ Try.underlying41 hi0 hz0 .i64 .i64 n n (Nat.le_refl _) (by rw [hz2]; omega) (by omega) W
  rw [hz1, Nat.mul_one] at hmk
  have kh : Blk ((w.alloc (.cells #[.slice A n c, .slice Am nm cm, .slice As ns ca, .int .i64 h.copies] 48)).alloc (.cells (madeCells #[.int .i64 0] n) 3)) w.heap.size 48 [.slice A n c, .slice Am nm cm, .slice As ns ca, .int .i64 h.copies] := (Blk.new' (l := [.slice A n c, .slice Am nm cm, .slice As ns ca, .int .i64 h.copies])).al
  have q1 := q0.alloc (by simp only [wsize_alloc]; omega) (.cells (madeCells #[.int .i64 0] n) 3)
  have o0 : Own encI 1 3 ((w.alloc (.cells #[.slice A n c, .slice Am nm cm, .slice As ns ca, .int .i64 h.copies] 48)).alloc (.cells (madeCells #[.int .i64 0] n) 3)) (w.heap.size + 1) (some ⟨w.heap.size + 1, 0, none⟩) n n (cnts n []) :=
    Own.new_ encI_len _ _ _ (by rw [cnts_nil]; exact made_zeros n) (cnts_len n []) (by unfold maxLen; omega) (by simp only [wsize_alloc]; omega) (by simp only [wsize_alloc])
  have hl1 := hm.len
  have hl2 := hs.len
  by_cases hnn : nm = ns
  rotate_left
  · have HZ := Lib.hid (heapS_no (h := h) (.inl (by simp; omega)))
    have b1 : ((nm : Int) != (ns : Int)) = true := by simp; omega
    clear hnn hl hl1 hl2 hrl hhs
    go_enter Try.func13, Try.ntmps13
    go_wp2_with fail
    go_ret
    exact ⟨ret_bool HZ.out.symm, q1⟩
  have b1 : ((nm : Int) != (ns : Int)) = false := by simp; omega
  by_cases hcp : h.copies < 0
  · have HZ := Lib.hid (heapS_no (h := h) (.inr (.inl (by simp; omega))))
    clear hnn hl hl1 hl2 hrl hhs
    go_enter Try.func13, Try.ntmps13
    go_wp2_with fail
    go_ret
    exact ⟨ret_bool HZ.out.symm, q1⟩
  have HL := Lib.hid hl
  have HL1 := Lib.hid hl1
  have HL2 := Lib.hid hl2
  have HR := Lib.hid hr
  have HNN := Lib.hid hnn
  have HMX := Lib.hid hmx
  have hnb : nm ≤ 1048576 := by omega
  have HCF : Hid (∀ (k : Int) (cs : List Value) (w : World), rep w w.heap.size h.toD cs → Calls Try.prog 39 #[av cs, .int .i64 k, .int .i64 3] w fun e w' => e = .returned (.bool (depD h 3 k)) ∧ Below w.heap.size w w') := Lib.hid (fun k cs w hr => l36Depth_any h (by omega) 3 (by omega) 3 k cs w rfl hr)
  have HAS := Lib.hid (l36Load_any h hz 3)
  clear hnn hl hl1 hl2 hrl hhs hmx hr
  go_enter Try.func13, Try.ntmps13
  go_wp2_with fail
  clear hmk
  go_loopw [4] (fun v wr => ∃ q : Nat, q ≤ nm ∧ v = .int .i64 q ∧ (∀ i s, i < q → h.names[i]? = some s → namS h i s ((h.slots[i]?).getD 0) = true) ∧ Own encI 1 3 wr (w.heap.size + 1) (some ⟨w.heap.size + 1, 0, none⟩) n n (cnts n (h.slots.take q)) ∧ Blk wr w.heap.size 48 [.slice A n c, .slice Am nm cm, .slice As ns ca, .int .i64 h.copies] ∧ Below w.heap.size w wr) (fun v _ => nm - (intOf v).toNat)
  case atStart => exact ⟨0, by omega, rfl, fun i s hi => by omega, o0, kh, q1⟩
  case round =>
    clear kh o0 q1
    obtain ⟨q, hq, rfl, hok, o0, kh, bb⟩ := hrel
    obtain ⟨g0, g1, g2, g3⟩ := kh.c4
    have HNK := Lib.hid hok
    have yh := kh.lt
    have z0 := bb.size
    have yg : w.heap.size + 1 < wr.heap.size := o0.lt.2
    clear hok
    by_cases hlq : q < nm
    · obtain ⟨bm, om, s, rfl, hbm, hsx, hcm⟩ := (hm.below bb).atS hlq
      obtain ⟨bs, os, k, rfl, hbs, hkx, hck⟩ := (hs.below bb).atI (k := q) (by have := HNN.out; omega)
      have hs60 := HMX.out s (List.mem_of_getElem? hsx)
      have RT := (hm.below bb).more z0
      have RT : Reads encS 1 wr.drew wr.drew.heap.size (some ⟨bm, om, none⟩) nm h.names := RT.keep (fun _ _ => rfl)
      have ry := rep_in HR.out bb z0
      have ybm : bm < wr.heap.size := by omega
      have ybs : bs < wr.heap.size := by omega
      have iq : (q : Int) < (nm : Int) := by omega
      have iq0 : (0 : Int) ≤ (q : Int) := by omega
      have iqs : (q : Int) < (ns : Int) := by have := HNN.out; omega
      have hnk : namS h q s ((h.slots[q]?).getD 0) = (isNm s && !(hasB (h.names.take q) s) && depD h 3 k && isVec (asm h 3 k)) := by rw [hkx]; rfl
      have HNM := Lib.hid hnk
      have HSX := Lib.hid hsx
      have HKX := Lib.hid hkx
      have HIX := Lib.hid (ix_lt hsx)
      have HBAD : Hid (namS h q s ((h.slots[q]?).getD 0) = false → heapOK h = false) := Lib.hid fun hb => heapS_no (.inr (.inr (.inl (allFrom_no HSX.out hb))))
      have SL : ∀ W, Below wr.heap.size wr W → (fun W => W.cell? ⟨w.heap.size, 0, none⟩ = some (.slice A n c) ∧ W.cell? ⟨w.heap.size, 1, none⟩ = some (.slice (some ⟨bm, om, none⟩) nm cm) ∧ W.cell? ⟨w.heap.size, 2, none⟩ = some (.slice (some ⟨bs, os, none⟩) ns ca) ∧ W.cell? ⟨w.heap.size, 3, none⟩ = some (.int .i64 h.copies) ∧ W.cell? ⟨bm, om + q, none⟩ = some (sv s) ∧ W.cell? ⟨bs, os + q, none⟩ = some (.int .i64 k)) W := fun W hW => by
        obtain ⟨a0, a1, a2, a3⟩ := (kh.next hW).c4
        exact ⟨a0, a1, a2, a3, (hW.cell (p := ⟨bm, om + q, none⟩) ybm).trans hcm, (hW.cell (p := ⟨bs, os + q, none⟩) ybs).trans hck⟩
      have S0 := SL wr.drew (Below.refl _ _).drew
      simp only at S0
      have HSL := Lib.hid SL
      clear SL hnk hsx hkx
      cases hnm : isNm s
      · have HZ := Lib.hid (HBAD.out (by rw [HNM.out, hnm]; rfl))
        go_wp2_with fail
        refine wp_region_noPanic ?_
        refine wp_region_held_drew (S := (fun W => W.cell? ⟨w.heap.size, 0, none⟩ = some (.slice A n c) ∧ W.cell? ⟨w.heap.size, 1, none⟩ = some (.slice (some ⟨bm, om, none⟩) nm cm) ∧ W.cell? ⟨w.heap.size, 2, none⟩ = some (.slice (some ⟨bs, os, none⟩) ns ca) ∧ W.cell? ⟨w.heap.size, 3, none⟩ = some (.int .i64 h.copies) ∧ W.cell? ⟨bm, om + q, none⟩ = some (sv s) ∧ W.cell? ⟨bs, os + q, none⟩ = some (.int .i64 k))) (by kernel_rfl) S0 (fun hH => ?_)
        refine tk_yes (i := 0) (v := ?_) rfl rfl (by kernel_rfl) (by kernel_rfl) (by kernel_rfl) (fun _ _ _ _ h => h) (by kernel_rfl) ?_ (by assumption) ?_; rotate_left; (intro wq hSw; (try dsimp only at hSw); go_simp; (try with_reducible rfl)); (try simp only [List.setIfInBounds_toArray, List.set_cons_zero, List.set_cons_succ])
        refine tk_yes (i := 1) (v := ?_) rfl rfl (by kernel_rfl) (by kernel_rfl) (by kernel_rfl) (fun _ _ _ _ h => h) (by kernel_rfl) ?_ (by assumption) ?_; rotate_left; (intro wq hSw; (try dsimp only at hSw); go_simp; (try with_reducible rfl)); (try simp only [List.setIfInBounds_toArray, List.set_cons_zero, List.set_cons_succ])
        refine tk_yes (i := 2) (v := ?_) rfl rfl (by kernel_rfl) (by kernel_rfl) (by kernel_rfl) (fun _ _ _ _ h => h) (by kernel_rfl) ?_ (by assumption) ?_; rotate_left; (intro wq hSw; (try dsimp only at hSw); go_simp; (try with_reducible rfl)); (try simp only [List.setIfInBounds_toArray, List.set_cons_zero, List.set_cons_succ])
        refine tk_yes (i := 3) (v := ?_) rfl rfl (by kernel_rfl) (by kernel_rfl) (by kernel_rfl) (fun _ _ _ _ h => h) (by kernel_rfl) ?_ (by assumption) ?_; rotate_left; (intro wq hSw; (try dsimp only at hSw); go_simp; (try with_reducible rfl)); (try simp only [List.setIfInBounds_toArray, List.set_cons_zero, List.set_cons_succ])
        refine tk_yes (i := 4) (v := ?_) rfl rfl (by kernel_rfl) (by kernel_rfl) (by kernel_rfl) (fun _ _ _ _ h => h) (by kernel_rfl) ?_ (by assumption) ?_; rotate_left; (intro wq hSw; (try dsimp only at hSw); go_simp; (try with_reducible rfl)); (try simp only [List.setIfInBounds_toArray, List.set_cons_zero, List.set_cons_succ])
        refine wpAnyH_all (rs := [5]) (by kernel_rfl) (by simp) (fun i hi => ?_); obtain rfl : i = 5 := (by simpa using hi); refine wpOp_step (by rfl) (fun K hK => ?_)
        go_simp
        go_at_call 27
        refine (specIsName_any s _ hs60).mono ?_
        rintro e w2 ⟨rfl, rfl⟩
        refine hK _ _ ⟨S0, ?_⟩
        (try simp only [Act.put, List.setIfInBounds_toArray, List.set_cons_zero, List.set_cons_succ])
        refine tk_yes (i := 6) (v := ?_) rfl rfl (by kernel_rfl) (by kernel_rfl) (by kernel_rfl) (fun _ _ _ _ h => h) (by kernel_rfl) ?_ (by assumption) ?_; rotate_left; (intro wq hSw; (try dsimp only at hSw); go_simp; (try with_reducible rfl)); (try simp only [List.setIfInBounds_toArray, List.set_cons_zero, List.set_cons_succ])
        refine tk_yes (i := 7) (v := ?_) rfl rfl (by kernel_rfl) (by kernel_rfl) (by kernel_rfl) (fun _ _ _ _ h => h) (by kernel_rfl) ?_ (by assumption) ?_; rotate_left; (intro wq hSw; (try dsimp only at hSw); go_simp; (try with_reducible rfl)); (try simp only [List.setIfInBounds_toArray, List.set_cons_zero, List.set_cons_succ])
        refine tk_no (i := 8) rfl rfl (by kernel_rfl) (by kernel_rfl) (by kernel_rfl) (fun _ _ _ _ h => h) (by kernel_rfl) (by assumption) ?_; (try simp only [List.setIfInBounds_toArray, List.set_cons_zero, List.set_cons_succ])
        refine tk_no (i := 9) rfl rfl (by kernel_rfl) (by kernel_rfl) (by kernel_rfl) (fun _ _ _ _ h => h) (by kernel_rfl) (by assumption) ?_; (try simp only [List.setIfInBounds_toArray, List.set_cons_zero, List.set_cons_succ])
        refine tk_no (i := 10) rfl rfl (by kernel_rfl) (by kernel_rfl) (by kernel_rfl) (fun _ _ _ _ h => h) (by kernel_rfl) (by assumption) ?_; (try simp only [List.setIfInBounds_toArray, List.set_cons_zero, List.set_cons_succ])
        refine tk_no (i := 11) rfl rfl (by kernel_rfl) (by kernel_rfl) (by kernel_rfl) (fun _ _ _ _ h => h) (by kernel_rfl) (by assumption) ?_; (try simp only [List.setIfInBounds_toArray, List.set_cons_zero, List.set_cons_succ])
        refine tk_no (i := 12) rfl rfl (by kernel_rfl) (by kernel_rfl) (by kernel_rfl) (fun _ _ _ _ h => h) (by kernel_rfl) (by assumption) ?_; (try simp only [List.setIfInBounds_toArray, List.set_cons_zero, List.set_cons_succ])
        refine tk_no (i := 13) rfl rfl (by kernel_rfl) (by kernel_rfl) (by kernel_rfl) (fun _ _ _ _ h => h) (by kernel_rfl) (by assumption) ?_; (try simp only [List.setIfInBounds_toArray, List.set_cons_zero, List.set_cons_succ])
        refine tk_no (i := 14) rfl rfl (by kernel_rfl) (by kernel_rfl) (by kernel_rfl) (fun _ _ _ _ h => h) (by kernel_rfl) (by assumption) ?_; (try simp only [List.setIfInBounds_toArray, List.set_cons_zero, List.set_cons_succ])
        refine tk_no (i := 15) rfl rfl (by kernel_rfl) (by kernel_rfl) (by kernel_rfl) (fun _ _ _ _ h => h) (by kernel_rfl) (by assumption) ?_; (try simp only [List.setIfInBounds_toArray, List.set_cons_zero, List.set_cons_succ])
        refine tk_no (i := 16) rfl rfl (by kernel_rfl) (by kernel_rfl) (by kernel_rfl) (fun _ _ _ _ h => h) (by kernel_rfl) (by assumption) ?_; (try simp only [List.setIfInBounds_toArray, List.set_cons_zero, List.set_cons_succ])
        refine tk_no (i := 17) rfl rfl (by kernel_rfl) (by kernel_rfl) (by kernel_rfl) (fun _ _ _ _ h => h) (by kernel_rfl) (by assumption) ?_; (try simp only [List.setIfInBounds_toArray, List.set_cons_zero, List.set_cons_succ])
        refine tk_yes (i := 18) (v := ?_) rfl rfl (by kernel_rfl) (by kernel_rfl) (by kernel_rfl) (fun _ _ _ _ h => h) (by kernel_rfl) ?_ (by assumption) ?_; rotate_left; (intro wq hSw; (try dsimp only at hSw); go_simp; (try with_reducible rfl)); (try simp only [List.setIfInBounds_toArray, List.set_cons_zero, List.set_cons_succ])
        refine tk_yes (i := 19) (v := ?_) rfl rfl (by kernel_rfl) (by kernel_rfl) (by kernel_rfl) (fun _ _ _ _ h => h) (by kernel_rfl) ?_ (by assumption) ?_; rotate_left; (intro wq hSw; (try dsimp only at hSw); go_simp; (try with_reducible rfl)); (try simp only [List.setIfInBounds_toArray, List.set_cons_zero, List.set_cons_succ])
        refine tk_no (i := 20) rfl rfl (by kernel_rfl) (by kernel_rfl) (by kernel_rfl) (fun _ _ _ _ h => h) (by kernel_rfl) (by assumption) ?_; (try simp only [List.setIfInBounds_toArray, List.set_cons_zero, List.set_cons_succ])
        refine tk_no (i := 21) rfl rfl (by kernel_rfl) (by kernel_rfl) (by kernel_rfl) (fun _ _ _ _ h => h) (by kernel_rfl) (by assumption) ?_; (try simp only [List.setIfInBounds_toArray, List.set_cons_zero, List.set_cons_succ])
        refine tk_no (i := 22) rfl rfl (by kernel_rfl) (by kernel_rfl) (by kernel_rfl) (fun _ _ _ _ h => h) (by kernel_rfl) (by assumption) ?_; (try simp only [List.setIfInBounds_toArray, List.set_cons_zero, List.set_cons_succ])
        refine tk_no (i := 23) rfl rfl (by kernel_rfl) (by kernel_rfl) (by kernel_rfl) (fun _ _ _ _ h => h) (by kernel_rfl) (by assumption) ?_; (try simp only [List.setIfInBounds_toArray, List.set_cons_zero, List.set_cons_succ])
        refine tk_no (i := 24) rfl rfl (by kernel_rfl) (by kernel_rfl) (by kernel_rfl) (fun _ _ _ _ h => h) (by kernel_rfl) (by assumption) ?_; (try simp only [List.setIfInBounds_toArray, List.set_cons_zero, List.set_cons_succ])
        refine tk_no (i := 25) rfl rfl (by kernel_rfl) (by kernel_rfl) (by kernel_rfl) (fun _ _ _ _ h => h) (by kernel_rfl) (by assumption) ?_; (try simp only [List.setIfInBounds_toArray, List.set_cons_zero, List.set_cons_succ])
        refine tk_no (i := 26) rfl rfl (by kernel_rfl) (by kernel_rfl) (by kernel_rfl) (fun _ _ _ _ h => h) (by kernel_rfl) (by assumption) ?_; (try simp only [List.setIfInBounds_toArray, List.set_cons_zero, List.set_cons_succ])
        refine tk_no (i := 27) rfl rfl (by kernel_rfl) (by kernel_rfl) (by kernel_rfl) (fun _ _ _ _ h => h) (by kernel_rfl) (by assumption) ?_; (try simp only [List.setIfInBounds_toArray, List.set_cons_zero, List.set_cons_succ])
        refine tk_yes (i := 28) (v := ?_) rfl rfl (by kernel_rfl) (by kernel_rfl) (by kernel_rfl) (fun _ _ _ _ h => h) (by kernel_rfl) ?_ (by assumption) ?_; rotate_left; (intro wq hSw; (try dsimp only at hSw); go_simp; (try with_reducible rfl)); (try simp only [List.setIfInBounds_toArray, List.set_cons_zero, List.set_cons_succ])
        refine tk_yes (i := 29) (v := ?_) rfl rfl (by kernel_rfl) (by kernel_rfl) (by kernel_rfl) (fun _ _ _ _ h => h) (by kernel_rfl) ?_ (by assumption) ?_; rotate_left; (intro wq hSw; (try dsimp only at hSw); go_simp; (try with_reducible rfl)); (try simp only [List.setIfInBounds_toArray, List.set_cons_zero, List.set_cons_succ])
        refine tk_no (i := 30) rfl rfl (by kernel_rfl) (by kernel_rfl) (by kernel_rfl) (fun _ _ _ _ h => h) (by kernel_rfl) (by assumption) ?_; (try simp only [List.setIfInBounds_toArray, List.set_cons_zero, List.set_cons_succ])
        refine tk_no (i := 31) rfl rfl (by kernel_rfl) (by kernel_rfl) (by kernel_rfl) (fun _ _ _ _ h => h) (by kernel_rfl) (by assumption) ?_; (try simp only [List.setIfInBounds_toArray, List.set_cons_zero, List.set_cons_succ])
        refine tk_no (i := 32) rfl rfl (by kernel_rfl) (by kernel_rfl) (by kernel_rfl) (fun _ _ _ _ h => h) (by kernel_rfl) (by assumption) ?_; (try simp only [List.setIfInBounds_toArray, List.set_cons_zero, List.set_cons_succ])
        refine tk_no (i := 33) rfl rfl (by kernel_rfl) (by kernel_rfl) (by kernel_rfl) (fun _ _ _ _ h => h) (by kernel_rfl) (by assumption) ?_; (try simp only [List.setIfInBounds_toArray, List.set_cons_zero, List.set_cons_succ])
        refine tk_no (i := 34) rfl rfl (by kernel_rfl) (by kernel_rfl) (by kernel_rfl) (fun _ _ _ _ h => h) (by kernel_rfl) (by assumption) ?_; (try simp only [List.setIfInBounds_toArray, List.set_cons_zero, List.set_cons_succ])
        refine tk_no (i := 35) rfl rfl (by kernel_rfl) (by kernel_rfl) (by kernel_rfl) (fun _ _ _ _ h => h) (by kernel_rfl) (by assumption) ?_; (try simp only [List.setIfInBounds_toArray, List.set_cons_zero, List.set_cons_succ])
        refine tk_no (i := 36) rfl rfl (by kernel_rfl) (by kernel_rfl) (by kernel_rfl) (fun _ _ _ _ h => h) (by kernel_rfl) (by assumption) ?_; (try simp only [List.setIfInBounds_toArray, List.set_cons_zero, List.set_cons_succ])
        refine tk_no (i := 37) rfl rfl (by kernel_rfl) (by kernel_rfl) (by kernel_rfl) (fun _ _ _ _ h => h) (by kernel_rfl) (by assumption) ?_; (try simp only [List.setIfInBounds_toArray, List.set_cons_zero, List.set_cons_succ])
        refine tk_no (i := 38) rfl rfl (by kernel_rfl) (by kernel_rfl) (by kernel_rfl) (fun _ _ _ _ h => h) (by kernel_rfl) (by assumption) ?_; (try simp only [List.setIfInBounds_toArray, List.set_cons_zero, List.set_cons_succ])
        refine tk_yes (i := 39) (v := ?_) rfl rfl (by kernel_rfl) (by kernel_rfl) (by kernel_rfl) (fun _ _ _ _ h => h) (by kernel_rfl) ?_ (by assumption) ?_; rotate_left; (intro wq hSw; (try dsimp only at hSw); go_simp; (try with_reducible rfl)); (try simp only [List.setIfInBounds_toArray, List.set_cons_zero, List.set_cons_succ])
        refine wpAnyH_done (by kernel_rfl) ?_ _
        refine NoPanic.normal ?_
        go_wp2_with fail
        go_ret
        exact ⟨ret_bool HZ.out.symm, bb.drew⟩
      cases hdu : decide (ix h.names s 0 < (q : Int))
      rotate_left
      · have HZ := Lib.hid (HBAD.out (by rw [HNM.out, hnm, ← HIX.out, hdu]; rfl))
        go_wp2_with fail
        refine wp_region_noPanic ?_
        refine wp_region_held_drew (S := (fun W => W.cell? ⟨w.heap.size, 0, none⟩ = some (.slice A n c) ∧ W.cell? ⟨w.heap.size, 1, none⟩ = some (.slice (some ⟨bm, om, none⟩) nm cm) ∧ W.cell? ⟨w.heap.size, 2, none⟩ = some (.slice (some ⟨bs, os, none⟩) ns ca) ∧ W.cell? ⟨w.heap.size, 3, none⟩ = some (.int .i64 h.copies) ∧ W.cell? ⟨bm, om + q, none⟩ = some (sv s) ∧ W.cell? ⟨bs, os + q, none⟩ = some (.int .i64 k))) (by kernel_rfl) S0 (fun hH => ?_)
        refine tk_yes (i := 0) (v := ?_) rfl rfl (by kernel_rfl) (by kernel_rfl) (by kernel_rfl) (fun _ _ _ _ h => h) (by kernel_rfl) ?_ (by assumption) ?_; rotate_left; (intro wq hSw; (try dsimp only at hSw); go_simp; (try with_reducible rfl)); (try simp only [List.setIfInBounds_toArray, List.set_cons_zero, List.set_cons_succ])
        refine tk_yes (i := 1) (v := ?_) rfl rfl (by kernel_rfl) (by kernel_rfl) (by kernel_rfl) (fun _ _ _ _ h => h) (by kernel_rfl) ?_ (by assumption) ?_; rotate_left; (intro wq hSw; (try dsimp only at hSw); go_simp; (try with_reducible rfl)); (try simp only [List.setIfInBounds_toArray, List.set_cons_zero, List.set_cons_succ])
        refine tk_yes (i := 2) (v := ?_) rfl rfl (by kernel_rfl) (by kernel_rfl) (by kernel_rfl) (fun _ _ _ _ h => h) (by kernel_rfl) ?_ (by assumption) ?_; rotate_left; (intro wq hSw; (try dsimp only at hSw); go_simp; (try with_reducible rfl)); (try simp only [List.setIfInBounds_toArray, List.set_cons_zero, List.set_cons_succ])
        refine tk_yes (i := 3) (v := ?_) rfl rfl (by kernel_rfl) (by kernel_rfl) (by kernel_rfl) (fun _ _ _ _ h => h) (by kernel_rfl) ?_ (by assumption) ?_; rotate_left; (intro wq hSw; (try dsimp only at hSw); go_simp; (try with_reducible rfl)); (try simp only [List.setIfInBounds_toArray, List.set_cons_zero, List.set_cons_succ])
        refine tk_yes (i := 4) (v := ?_) rfl rfl (by kernel_rfl) (by kernel_rfl) (by kernel_rfl) (fun _ _ _ _ h => h) (by kernel_rfl) ?_ (by assumption) ?_; rotate_left; (intro wq hSw; (try dsimp only at hSw); go_simp; (try with_reducible rfl)); (try simp only [List.setIfInBounds_toArray, List.set_cons_zero, List.set_cons_succ])
        refine wpAnyH_all (rs := [5]) (by kernel_rfl) (by simp) (fun i hi => ?_); obtain rfl : i = 5 := (by simpa using hi); refine wpOp_step (by rfl) (fun K hK => ?_)
        go_simp
        go_at_call 27
        refine (specIsName_any s _ hs60).mono ?_
        rintro e w2 ⟨rfl, rfl⟩
        refine hK _ _ ⟨S0, ?_⟩
        (try simp only [Act.put, List.setIfInBounds_toArray, List.set_cons_zero, List.set_cons_succ])
        refine tk_yes (i := 6) (v := ?_) rfl rfl (by kernel_rfl) (by kernel_rfl) (by kernel_rfl) (fun _ _ _ _ h => h) (by kernel_rfl) ?_ (by assumption) ?_; rotate_left; (intro wq hSw; (try dsimp only at hSw); go_simp; (try with_reducible rfl)); (try simp only [List.setIfInBounds_toArray, List.set_cons_zero, List.set_cons_succ])
        refine tk_yes (i := 7) (v := ?_) rfl rfl (by kernel_rfl) (by kernel_rfl) (by kernel_rfl) (fun _ _ _ _ h => h) (by kernel_rfl) ?_ (by assumption) ?_; rotate_left; (intro wq hSw; (try dsimp only at hSw); go_simp; (try with_reducible rfl)); (try simp only [List.setIfInBounds_toArray, List.set_cons_zero, List.set_cons_succ])
        refine tk_yes (i := 8) (v := ?_) rfl rfl (by kernel_rfl) (by kernel_rfl) (by kernel_rfl) (fun _ _ _ _ h => h) (by kernel_rfl) ?_ (by assumption) ?_; rotate_left; (intro wq hSw; (try dsimp only at hSw); go_simp; (try with_reducible rfl)); (try simp only [List.setIfInBounds_toArray, List.set_cons_zero, List.set_cons_succ])
        refine tk_yes (i := 9) (v := ?_) rfl rfl (by kernel_rfl) (by kernel_rfl) (by kernel_rfl) (fun _ _ _ _ h => h) (by kernel_rfl) ?_ (by assumption) ?_; rotate_left; (intro wq hSw; (try dsimp only at hSw); go_simp; (try with_reducible rfl)); (try simp only [List.setIfInBounds_toArray, List.set_cons_zero, List.set_cons_succ])
        refine tk_yes (i := 10) (v := ?_) rfl rfl (by kernel_rfl) (by kernel_rfl) (by kernel_rfl) (fun _ _ _ _ h => h) (by kernel_rfl) ?_ (by assumption) ?_; rotate_left; (intro wq hSw; (try dsimp only at hSw); go_simp; (try with_reducible rfl)); (try simp only [List.setIfInBounds_toArray, List.set_cons_zero, List.set_cons_succ])
        refine tk_yes (i := 11) (v := ?_) rfl rfl (by kernel_rfl) (by kernel_rfl) (by kernel_rfl) (fun _ _ _ _ h => h) (by kernel_rfl) ?_ (by assumption) ?_; rotate_left; (intro wq hSw; (try dsimp only at hSw); go_simp; (try with_reducible rfl)); (try simp only [List.setIfInBounds_toArray, List.set_cons_zero, List.set_cons_succ])
        refine tk_yes (i := 12) (v := ?_) rfl rfl (by kernel_rfl) (by kernel_rfl) (by kernel_rfl) (fun _ _ _ _ h => h) (by kernel_rfl) ?_ (by assumption) ?_; rotate_left; (intro wq hSw; (try dsimp only at hSw); go_simp; (try with_reducible rfl)); (try simp only [List.setIfInBounds_toArray, List.set_cons_zero, List.set_cons_succ])
        refine tk_yes (i := 13) (v := ?_) rfl rfl (by kernel_rfl) (by kernel_rfl) (by kernel_rfl) (fun _ _ _ _ h => h) (by kernel_rfl) ?_ (by assumption) ?_; rotate_left; (intro wq hSw; (try dsimp only at hSw); go_simp; (try with_reducible rfl)); (try simp only [List.setIfInBounds_toArray, List.set_cons_zero, List.set_cons_succ])
        refine tk_yes (i := 14) (v := ?_) rfl rfl (by kernel_rfl) (by kernel_rfl) (by kernel_rfl) (fun _ _ _ _ h => h) (by kernel_rfl) ?_ (by assumption) ?_; rotate_left; (intro wq hSw; (try dsimp only at hSw); go_simp; (try with_reducible rfl)); (try simp only [List.setIfInBounds_toArray, List.set_cons_zero, List.set_cons_succ])
        refine tk_yes (i := 16) (v := ?_) rfl rfl (by kernel_rfl) (by kernel_rfl) (by kernel_rfl) (fun _ _ _ _ h => h) (by kernel_rfl) ?_ (by assumption) ?_; rotate_left; (intro wq hSw; (try dsimp only at hSw); go_simp; (try with_reducible rfl)); (try simp only [List.setIfInBounds_toArray, List.set_cons_zero, List.set_cons_succ])
        refine wpAnyH_all (rs := [15]) (by kernel_rfl) (by simp) (fun i hi => ?_); obtain rfl : i = 15 := (by simpa using hi); refine wpOp_step (by rfl) (fun K hK => ?_)
        go_simp
        go_at_call 38
        refine (l1Find_any _ _ _ h.names s _ RT (by unfold maxLen; omega)).mono ?_
        rintro e w2 ⟨rfl, rfl⟩
        refine hK _ _ ⟨S0, ?_⟩
        (try simp only [Act.put, List.setIfInBounds_toArray, List.set_cons_zero, List.set_cons_succ])
        refine tk_yes (i := 17) (v := ?_) rfl rfl (by kernel_rfl) (by kernel_rfl) (by kernel_rfl) (fun _ _ _ _ h => h) (by kernel_rfl) ?_ (by assumption) ?_; rotate_left; (intro wq hSw; (try dsimp only at hSw); go_simp; (try with_reducible rfl)); (try simp only [List.setIfInBounds_toArray, List.set_cons_zero, List.set_cons_succ])
        refine tk_yes (i := 18) (v := ?_) rfl rfl (by kernel_rfl) (by kernel_rfl) (by kernel_rfl) (fun _ _ _ _ h => h) (by kernel_rfl) ?_ (by assumption) ?_; rotate_left; (intro wq hSw; (try dsimp only at hSw); go_simp; (try with_reducible rfl)); (try simp only [List.setIfInBounds_toArray, List.set_cons_zero, List.set_cons_succ])
        refine tk_yes (i := 19) (v := ?_) rfl rfl (by kernel_rfl) (by kernel_rfl) (by kernel_rfl) (fun _ _ _ _ h => h) (by kernel_rfl) ?_ (by assumption) ?_; rotate_left; (intro wq hSw; (try dsimp only at hSw); go_simp; (try with_reducible rfl)); (try simp only [List.setIfInBounds_toArray, List.set_cons_zero, List.set_cons_succ])
        refine tk_no (i := 20) rfl rfl (by kernel_rfl) (by kernel_rfl) (by kernel_rfl) (fun _ _ _ _ h => h) (by kernel_rfl) (by assumption) ?_; (try simp only [List.setIfInBounds_toArray, List.set_cons_zero, List.set_cons_succ])
        refine tk_no (i := 21) rfl rfl (by kernel_rfl) (by kernel_rfl) (by kernel_rfl) (fun _ _ _ _ h => h) (by kernel_rfl) (by assumption) ?_; (try simp only [List.setIfInBounds_toArray, List.set_cons_zero, List.set_cons_succ])
        refine tk_no (i := 22) rfl rfl (by kernel_rfl) (by kernel_rfl) (by kernel_rfl) (fun _ _ _ _ h => h) (by kernel_rfl) (by assumption) ?_; (try simp only [List.setIfInBounds_toArray, List.set_cons_zero, List.set_cons_succ])
        refine tk_no (i := 23) rfl rfl (by kernel_rfl) (by kernel_rfl) (by kernel_rfl) (fun _ _ _ _ h => h) (by kernel_rfl) (by assumption) ?_; (try simp only [List.setIfInBounds_toArray, List.set_cons_zero, List.set_cons_succ])
        refine tk_no (i := 24) rfl rfl (by kernel_rfl) (by kernel_rfl) (by kernel_rfl) (fun _ _ _ _ h => h) (by kernel_rfl) (by assumption) ?_; (try simp only [List.setIfInBounds_toArray, List.set_cons_zero, List.set_cons_succ])
        refine tk_no (i := 25) rfl rfl (by kernel_rfl) (by kernel_rfl) (by kernel_rfl) (fun _ _ _ _ h => h) (by kernel_rfl) (by assumption) ?_; (try simp only [List.setIfInBounds_toArray, List.set_cons_zero, List.set_cons_succ])
        refine tk_no (i := 26) rfl rfl (by kernel_rfl) (by kernel_rfl) (by kernel_rfl) (fun _ _ _ _ h => h) (by kernel_rfl) (by assumption) ?_; (try simp only [List.setIfInBounds_toArray, List.set_cons_zero, List.set_cons_succ])
        refine tk_no (i := 27) rfl rfl (by kernel_rfl) (by kernel_rfl) (by kernel_rfl) (fun _ _ _ _ h => h) (by kernel_rfl) (by assumption) ?_; (try simp only [List.setIfInBounds_toArray, List.set_cons_zero, List.set_cons_succ])
        refine tk_yes (i := 28) (v := ?_) rfl rfl (by kernel_rfl) (by kernel_rfl) (by kernel_rfl) (fun _ _ _ _ h => h) (by kernel_rfl) ?_ (by assumption) ?_; rotate_left; (intro wq hSw; (try dsimp only at hSw); go_simp; (try with_reducible rfl)); (try simp only [List.setIfInBounds_toArray, List.set_cons_zero, List.set_cons_succ])
        refine tk_yes (i := 29) (v := ?_) rfl rfl (by kernel_rfl) (by kernel_rfl) (by kernel_rfl) (fun _ _ _ _ h => h) (by kernel_rfl) ?_ (by assumption) ?_; rotate_left; (intro wq hSw; (try dsimp only at hSw); go_simp; (try with_reducible rfl)); (try simp only [List.setIfInBounds_toArray, List.set_cons_zero, List.set_cons_succ])
        refine tk_no (i := 30) rfl rfl (by kernel_rfl) (by kernel_rfl) (by kernel_rfl) (fun _ _ _ _ h => h) (by kernel_rfl) (by assumption) ?_; (try simp only [List.setIfInBounds_toArray, List.set_cons_zero, List.set_cons_succ])
        refine tk_no (i := 31) rfl rfl (by kernel_rfl) (by kernel_rfl) (by kernel_rfl) (fun _ _ _ _ h => h) (by kernel_rfl) (by assumption) ?_; (try simp only [List.setIfInBounds_toArray, List.set_cons_zero, List.set_cons_succ])
        refine tk_no (i := 32) rfl rfl (by kernel_rfl) (by kernel_rfl) (by kernel_rfl) (fun _ _ _ _ h => h) (by kernel_rfl) (by assumption) ?_; (try simp only [List.setIfInBounds_toArray, List.set_cons_zero, List.set_cons_succ])
        refine tk_no (i := 33) rfl rfl (by kernel_rfl) (by kernel_rfl) (by kernel_rfl) (fun _ _ _ _ h => h) (by kernel_rfl) (by assumption) ?_; (try simp only [List.setIfInBounds_toArray, List.set_cons_zero, List.set_cons_succ])
        refine tk_no (i := 34) rfl rfl (by kernel_rfl) (by kernel_rfl) (by kernel_rfl) (fun _ _ _ _ h => h) (by kernel_rfl) (by assumption) ?_; (try simp only [List.setIfInBounds_toArray, List.set_cons_zero, List.set_cons_succ])
        refine tk_no (i := 35) rfl rfl (by kernel_rfl) (by kernel_rfl) (by kernel_rfl) (fun _ _ _ _ h => h) (by kernel_rfl) (by assumption) ?_; (try simp only [List.setIfInBounds_toArray, List.set_cons_zero, List.set_cons_succ])
        refine tk_no (i := 36) rfl rfl (by kernel_rfl) (by kernel_rfl) (by kernel_rfl) (fun _ _ _ _ h => h) (by kernel_rfl) (by assumption) ?_; (try simp only [List.setIfInBounds_toArray, List.set_cons_zero, List.set_cons_succ])
        refine tk_no (i := 37) rfl rfl (by kernel_rfl) (by kernel_rfl) (by kernel_rfl) (fun _ _ _ _ h => h) (by kernel_rfl) (by assumption) ?_; (try simp only [List.setIfInBounds_toArray, List.set_cons_zero, List.set_cons_succ])
        refine tk_no (i := 38) rfl rfl (by kernel_rfl) (by kernel_rfl) (by kernel_rfl) (fun _ _ _ _ h => h) (by kernel_rfl) (by assumption) ?_; (try simp only [List.setIfInBounds_toArray, List.set_cons_zero, List.set_cons_succ])
        refine tk_yes (i := 39) (v := ?_) rfl rfl (by kernel_rfl) (by kernel_rfl) (by kernel_rfl) (fun _ _ _ _ h => h) (by kernel_rfl) ?_ (by assumption) ?_; rotate_left; (intro wq hSw; (try dsimp only at hSw); go_simp; (try with_reducible rfl)); (try simp only [List.setIfInBounds_toArray, List.set_cons_zero, List.set_cons_succ])
        refine wpAnyH_done (by kernel_rfl) ?_ _
        refine NoPanic.normal ?_
        go_wp2_with fail
        go_ret
        exact ⟨ret_bool HZ.out.symm, bb.drew⟩
      cases hft : depD h 3 k
      · have HZ := Lib.hid (HBAD.out (by rw [HNM.out, hnm, ← HIX.out, hdu, hft]; rfl))
        go_wp2_with fail
        refine wp_region_noPanic ?_
        refine wp_region_held_drew (S := (fun W => W.cell? ⟨w.heap.size, 0, none⟩ = some (.slice A n c) ∧ W.cell? ⟨w.heap.size, 1, none⟩ = some (.slice (some ⟨bm, om, none⟩) nm cm) ∧ W.cell? ⟨w.heap.size, 2, none⟩ = some (.slice (some ⟨bs, os, none⟩) ns ca) ∧ W.cell? ⟨w.heap.size, 3, none⟩ = some (.int .i64 h.copies) ∧ W.cell? ⟨bm, om + q, none⟩ = some (sv s) ∧ W.cell? ⟨bs, os + q, none⟩ = some (.int .i64 k))) (by kernel_rfl) S0 (fun hH => ?_)
        refine tk_yes (i := 0) (v := ?_) rfl rfl (by kernel_rfl) (by kernel_rfl) (by kernel_rfl) (fun _ _ _ _ h => h) (by kernel_rfl) ?_ (by assumption) ?_; rotate_left; (intro wq hSw; (try dsimp only at hSw); go_simp; (try with_reducible rfl)); (try simp only [List.setIfInBounds_toArray, List.set_cons_zero, List.set_cons_succ])
        refine tk_yes (i := 1) (v := ?_) rfl rfl (by kernel_rfl) (by kernel_rfl) (by kernel_rfl) (fun _ _ _ _ h => h) (by kernel_rfl) ?_ (by assumption) ?_; rotate_left; (intro wq hSw; (try dsimp only at hSw); go_simp; (try with_reducible rfl)); (try simp only [List.setIfInBounds_toArray, List.set_cons_zero, List.set_cons_succ])
        refine tk_yes (i := 2) (v := ?_) rfl rfl (by kernel_rfl) (by kernel_rfl) (by kernel_rfl) (fun _ _ _ _ h => h) (by kernel_rfl) ?_ (by assumption) ?_; rotate_left; (intro wq hSw; (try dsimp only at hSw); go_simp; (try with_reducible rfl)); (try simp only [List.setIfInBounds_toArray, List.set_cons_zero, List.set_cons_succ])
        refine tk_yes (i := 3) (v := ?_) rfl rfl (by kernel_rfl) (by kernel_rfl) (by kernel_rfl) (fun _ _ _ _ h => h) (by kernel_rfl) ?_ (by assumption) ?_; rotate_left; (intro wq hSw; (try dsimp only at hSw); go_simp; (try with_reducible rfl)); (try simp only [List.setIfInBounds_toArray, List.set_cons_zero, List.set_cons_succ])
        refine tk_yes (i := 4) (v := ?_) rfl rfl (by kernel_rfl) (by kernel_rfl) (by kernel_rfl) (fun _ _ _ _ h => h) (by kernel_rfl) ?_ (by assumption) ?_; rotate_left; (intro wq hSw; (try dsimp only at hSw); go_simp; (try with_reducible rfl)); (try simp only [List.setIfInBounds_toArray, List.set_cons_zero, List.set_cons_succ])
        refine wpAnyH_all (rs := [5]) (by kernel_rfl) (by simp) (fun i hi => ?_); obtain rfl : i = 5 := (by simpa using hi); refine wpOp_step (by rfl) (fun K hK => ?_)
        go_simp
        go_at_call 27
        refine (specIsName_any s _ hs60).mono ?_
        rintro e w2 ⟨rfl, rfl⟩
        refine hK _ _ ⟨S0, ?_⟩
        (try simp only [Act.put, List.setIfInBounds_toArray, List.set_cons_zero, List.set_cons_succ])
        refine tk_yes (i := 6) (v := ?_) rfl rfl (by kernel_rfl) (by kernel_rfl) (by kernel_rfl) (fun _ _ _ _ h => h) (by kernel_rfl) ?_ (by assumption) ?_; rotate_left; (intro wq hSw; (try dsimp only at hSw); go_simp; (try with_reducible rfl)); (try simp only [List.setIfInBounds_toArray, List.set_cons_zero, List.set_cons_succ])
        refine tk_yes (i := 7) (v := ?_) rfl rfl (by kernel_rfl) (by kernel_rfl) (by kernel_rfl) (fun _ _ _ _ h => h) (by kernel_rfl) ?_ (by assumption) ?_; rotate_left; (intro wq hSw; (try dsimp only at hSw); go_simp; (try with_reducible rfl)); (try simp only [List.setIfInBounds_toArray, List.set_cons_zero, List.set_cons_succ])
        refine tk_yes (i := 8) (v := ?_) rfl rfl (by kernel_rfl) (by kernel_rfl) (by kernel_rfl) (fun _ _ _ _ h => h) (by kernel_rfl) ?_ (by assumption) ?_; rotate_left; (intro wq hSw; (try dsimp only at hSw); go_simp; (try with_reducible rfl)); (try simp only [List.setIfInBounds_toArray, List.set_cons_zero, List.set_cons_succ])
        refine tk_yes (i := 9) (v := ?_) rfl rfl (by kernel_rfl) (by kernel_rfl) (by kernel_rfl) (fun _ _ _ _ h => h) (by kernel_rfl) ?_ (by assumption) ?_; rotate_left; (intro wq hSw; (try dsimp only at hSw); go_simp; (try with_reducible rfl)); (try simp only [List.setIfInBounds_toArray, List.set_cons_zero, List.set_cons_succ])
        refine tk_yes (i := 10) (v := ?_) rfl rfl (by kernel_rfl) (by kernel_rfl) (by kernel_rfl) (fun _ _ _ _ h => h) (by kernel_rfl) ?_ (by assumption) ?_; rotate_left; (intro wq hSw; (try dsimp only at hSw); go_simp; (try with_reducible rfl)); (try simp only [List.setIfInBounds_toArray, List.set_cons_zero, List.set_cons_succ])
        refine tk_yes (i := 11) (v := ?_) rfl rfl (by kernel_rfl) (by kernel_rfl) (by kernel_rfl) (fun _ _ _ _ h => h) (by kernel_rfl) ?_ (by assumption) ?_; rotate_left; (intro wq hSw; (try dsimp only at hSw); go_simp; (try with_reducible rfl)); (try simp only [List.setIfInBounds_toArray, List.set_cons_zero, List.set_cons_succ])
        refine tk_yes (i := 12) (v := ?_) rfl rfl (by kernel_rfl) (by kernel_rfl) (by kernel_rfl) (fun _ _ _ _ h => h) (by kernel_rfl) ?_ (by assumption) ?_; rotate_left; (intro wq hSw; (try dsimp only at hSw); go_simp; (try with_reducible rfl)); (try simp only [List.setIfInBounds_toArray, List.set_cons_zero, List.set_cons_succ])
        refine tk_yes (i := 13) (v := ?_) rfl rfl (by kernel_rfl) (by kernel_rfl) (by kernel_rfl) (fun _ _ _ _ h => h) (by kernel_rfl) ?_ (by assumption) ?_; rotate_left; (intro wq hSw; (try dsimp only at hSw); go_simp; (try with_reducible rfl)); (try simp only [List.setIfInBounds_toArray, List.set_cons_zero, List.set_cons_succ])
        refine tk_yes (i := 14) (v := ?_) rfl rfl (by kernel_rfl) (by kernel_rfl) (by kernel_rfl) (fun _ _ _ _ h => h) (by kernel_rfl) ?_ (by assumption) ?_; rotate_left; (intro wq hSw; (try dsimp only at hSw); go_simp; (try with_reducible rfl)); (try simp only [List.setIfInBounds_toArray, List.set_cons_zero, List.set_cons_succ])
        refine tk_yes (i := 16) (v := ?_) rfl rfl (by kernel_rfl) (by kernel_rfl) (by kernel_rfl) (fun _ _ _ _ h => h) (by kernel_rfl) ?_ (by assumption) ?_; rotate_left; (intro wq hSw; (try dsimp only at hSw); go_simp; (try with_reducible rfl)); (try simp only [List.setIfInBounds_toArray, List.set_cons_zero, List.set_cons_succ])
        refine wpAnyH_all (rs := [15]) (by kernel_rfl) (by simp) (fun i hi => ?_); obtain rfl : i = 15 := (by simpa using hi); refine wpOp_step (by rfl) (fun K hK => ?_)
        go_simp
        go_at_call 38
        refine (l1Find_any _ _ _ h.names s _ RT (by unfold maxLen; omega)).mono ?_
        rintro e w2 ⟨rfl, rfl⟩
        refine hK _ _ ⟨S0, ?_⟩
        (try simp only [Act.put, List.setIfInBounds_toArray, List.set_cons_zero, List.set_cons_succ])
        refine tk_yes (i := 17) (v := ?_) rfl rfl (by kernel_rfl) (by kernel_rfl) (by kernel_rfl) (fun _ _ _ _ h => h) (by kernel_rfl) ?_ (by assumption) ?_; rotate_left; (intro wq hSw; (try dsimp only at hSw); go_simp; (try with_reducible rfl)); (try simp only [List.setIfInBounds_toArray, List.set_cons_zero, List.set_cons_succ])
        refine tk_yes (i := 18) (v := ?_) rfl rfl (by kernel_rfl) (by kernel_rfl) (by kernel_rfl) (fun _ _ _ _ h => h) (by kernel_rfl) ?_ (by assumption) ?_; rotate_left; (intro wq hSw; (try dsimp only at hSw); go_simp; (try with_reducible rfl)); (try simp only [List.setIfInBounds_toArray, List.set_cons_zero, List.set_cons_succ])
        refine tk_yes (i := 19) (v := ?_) rfl rfl (by kernel_rfl) (by kernel_rfl) (by kernel_rfl) (fun _ _ _ _ h => h) (by kernel_rfl) ?_ (by assumption) ?_; rotate_left; (intro wq hSw; (try dsimp only at hSw); go_simp; (try with_reducible rfl)); (try simp only [List.setIfInBounds_toArray, List.set_cons_zero, List.set_cons_succ])
        refine tk_yes (i := 20) (v := ?_) rfl rfl (by kernel_rfl) (by kernel_rfl) (by kernel_rfl) (fun _ _ _ _ h => h) (by kernel_rfl) ?_ (by assumption) ?_; rotate_left; (intro wq hSw; (try dsimp only at hSw); go_simp; (try with_reducible rfl)); (try simp only [List.setIfInBounds_toArray, List.set_cons_zero, List.set_cons_succ])
        refine tk_yes (i := 21) (v := ?_) rfl rfl (by kernel_rfl) (by kernel_rfl) (by kernel_rfl) (fun _ _ _ _ h => h) (by kernel_rfl) ?_ (by assumption) ?_; rotate_left; (intro wq hSw; (try dsimp only at hSw); go_simp; (try with_reducible rfl)); (try simp only [List.setIfInBounds_toArray, List.set_cons_zero, List.set_cons_succ])
        refine tk_yes (i := 22) (v := ?_) rfl rfl (by kernel_rfl) (by kernel_rfl) (by kernel_rfl) (fun _ _ _ _ h => h) (by kernel_rfl) ?_ (by assumption) ?_; rotate_left; (intro wq hSw; (try dsimp only at hSw); go_simp; (try with_reducible rfl)); (try simp only [List.setIfInBounds_toArray, List.set_cons_zero, List.set_cons_succ])
        refine tk_yes (i := 23) (v := ?_) rfl rfl (by kernel_rfl) (by kernel_rfl) (by kernel_rfl) (fun _ _ _ _ h => h) (by kernel_rfl) ?_ (by assumption) ?_; rotate_left; (intro wq hSw; (try dsimp only at hSw); go_simp; (try with_reducible rfl)); (try simp only [List.setIfInBounds_toArray, List.set_cons_zero, List.set_cons_succ])
        refine tk_yes (i := 24) (v := ?_) rfl rfl (by kernel_rfl) (by kernel_rfl) (by kernel_rfl) (fun _ _ _ _ h => h) (by kernel_rfl) ?_ (by assumption) ?_; rotate_left; (intro wq hSw; (try dsimp only at hSw); go_simp; (try with_reducible rfl)); (try simp only [List.setIfInBounds_toArray, List.set_cons_zero, List.set_cons_succ])
        refine tk_yes (i := 25) (v := ?_) rfl rfl (by kernel_rfl) (by kernel_rfl) (by kernel_rfl) (fun _ _ _ _ h => h) (by kernel_rfl) ?_ (by assumption) ?_; rotate_left; (intro wq hSw; (try dsimp only at hSw); go_simp; (try with_reducible rfl)); (try simp only [List.setIfInBounds_toArray, List.set_cons_zero, List.set_cons_succ])
        refine wpAnyH_all (rs := [26]) (by kernel_rfl) (by simp) (fun i hi => ?_); obtain rfl : i = 26 := (by simpa using hi); refine wpOp_step (by rfl) (fun K hK => ?_)
        go_simp
        go_at_call 39
        refine (HCF.out k _ _ (rep_dw ry)).mono ?_
        rintro e w3 ⟨rfl, hb3⟩
        have bb3 := ((Below.refl wr.heap.size wr).drew).trans hb3
        have S3 := (HSL.out w3 bb3)
        try simp only at S3
        refine hK _ _ ⟨S3, ?_⟩
        (try simp only [Act.put, List.setIfInBounds_toArray, List.set_cons_zero, List.set_cons_succ])
        refine tk_yes (i := 27) (v := ?_) rfl rfl (by kernel_rfl) (by kernel_rfl) (by kernel_rfl) (fun _ _ _ _ h => h) (by kernel_rfl) ?_ (by assumption) ?_; rotate_left; (intro wq hSw; (try dsimp only at hSw); go_simp; (try with_reducible rfl)); (try simp only [List.setIfInBounds_toArray, List.set_cons_zero, List.set_cons_succ])
        refine tk_yes (i := 28) (v := ?_) rfl rfl (by kernel_rfl) (by kernel_rfl) (by kernel_rfl) (fun _ _ _ _ h => h) (by kernel_rfl) ?_ (by assumption) ?_; rotate_left; (intro wq hSw; (try dsimp only at hSw); go_simp; (try with_reducible rfl)); (try simp only [List.setIfInBounds_toArray, List.set_cons_zero, List.set_cons_succ])
        refine tk_yes (i := 29) (v := ?_) rfl rfl (by kernel_rfl) (by kernel_rfl) (by kernel_rfl) (fun _ _ _ _ h => h) (by kernel_rfl) ?_ (by assumption) ?_; rotate_left; (intro wq hSw; (try dsimp only at hSw); go_simp; (try with_reducible rfl)); (try simp only [List.setIfInBounds_toArray, List.set_cons_zero, List.set_cons_succ])
        refine tk_no (i := 30) rfl rfl (by kernel_rfl) (by kernel_rfl) (by kernel_rfl) (fun _ _ _ _ h => h) (by kernel_rfl) (by assumption) ?_; (try simp only [List.setIfInBounds_toArray, List.set_cons_zero, List.set_cons_succ])
        refine tk_no (i := 31) rfl rfl (by kernel_rfl) (by kernel_rfl) (by kernel_rfl) (fun _ _ _ _ h => h) (by kernel_rfl) (by assumption) ?_; (try simp only [List.setIfInBounds_toArray, List.set_cons_zero, List.set_cons_succ])
        refine tk_no (i := 32) rfl rfl (by kernel_rfl) (by kernel_rfl) (by kernel_rfl) (fun _ _ _ _ h => h) (by kernel_rfl) (by assumption) ?_; (try simp only [List.setIfInBounds_toArray, List.set_cons_zero, List.set_cons_succ])
        refine tk_no (i := 33) rfl rfl (by kernel_rfl) (by kernel_rfl) (by kernel_rfl) (fun _ _ _ _ h => h) (by kernel_rfl) (by assumption) ?_; (try simp only [List.setIfInBounds_toArray, List.set_cons_zero, List.set_cons_succ])
        refine tk_no (i := 34) rfl rfl (by kernel_rfl) (by kernel_rfl) (by kernel_rfl) (fun _ _ _ _ h => h) (by kernel_rfl) (by assumption) ?_; (try simp only [List.setIfInBounds_toArray, List.set_cons_zero, List.set_cons_succ])
        refine tk_no (i := 35) rfl rfl (by kernel_rfl) (by kernel_rfl) (by kernel_rfl) (fun _ _ _ _ h => h) (by kernel_rfl) (by assumption) ?_; (try simp only [List.setIfInBounds_toArray, List.set_cons_zero, List.set_cons_succ])
        refine tk_no (i := 36) rfl rfl (by kernel_rfl) (by kernel_rfl) (by kernel_rfl) (fun _ _ _ _ h => h) (by kernel_rfl) (by assumption) ?_; (try simp only [List.setIfInBounds_toArray, List.set_cons_zero, List.set_cons_succ])
        refine tk_no (i := 37) rfl rfl (by kernel_rfl) (by kernel_rfl) (by kernel_rfl) (fun _ _ _ _ h => h) (by kernel_rfl) (by assumption) ?_; (try simp only [List.setIfInBounds_toArray, List.set_cons_zero, List.set_cons_succ])
        refine tk_no (i := 38) rfl rfl (by kernel_rfl) (by kernel_rfl) (by kernel_rfl) (fun _ _ _ _ h => h) (by kernel_rfl) (by assumption) ?_; (try simp only [List.setIfInBounds_toArray, List.set_cons_zero, List.set_cons_succ])
        refine tk_yes (i := 39) (v := ?_) rfl rfl (by kernel_rfl) (by kernel_rfl) (by kernel_rfl) (fun _ _ _ _ h => h) (by kernel_rfl) ?_ (by assumption) ?_; rotate_left; (intro wq hSw; (try dsimp only at hSw); go_simp; (try with_reducible rfl)); (try simp only [List.setIfInBounds_toArray, List.set_cons_zero, List.set_cons_succ])
        refine wpAnyH_done (by kernel_rfl) ?_ _
        refine NoPanic.normal ?_
        go_wp2_with fail
        go_ret
        exact ⟨ret_bool HZ.out.symm, bth bb bb3⟩
      have HDP := Lib.hid hft
      have HBG := Lib.hid (asm_big hz HDP.out)
      cases hvc : isVec (asm h 3 k)
      · have HZ := Lib.hid (HBAD.out (by rw [HNM.out, hnm, ← HIX.out, hdu, hft, hvc]; rfl))
        go_wp2_with fail
        refine wp_region_noPanic ?_
        refine wp_region_held_drew (S := (fun W => W.cell? ⟨w.heap.size, 0, none⟩ = some (.slice A n c) ∧ W.cell? ⟨w.heap.size, 1, none⟩ = some (.slice (some ⟨bm, om, none⟩) nm cm) ∧ W.cell? ⟨w.heap.size, 2, none⟩ = some (.slice (some ⟨bs, os, none⟩) ns ca) ∧ W.cell? ⟨w.heap.size, 3, none⟩ = some (.int .i64 h.copies) ∧ W.cell? ⟨bm, om + q, none⟩ = some (sv s) ∧ W.cell? ⟨bs, os + q, none⟩ = some (.int .i64 k))) (by kernel_rfl) S0 (fun hH => ?_)
        refine tk_yes (i := 0) (v := ?_) rfl rfl (by kernel_rfl) (by kernel_rfl) (by kernel_rfl) (fun _ _ _ _ h => h) (by kernel_rfl) ?_ (by assumption) ?_; rotate_left; (intro wq hSw; (try dsimp only at hSw); go_simp; (try with_reducible rfl)); (try simp only [List.setIfInBounds_toArray, List.set_cons_zero, List.set_cons_succ])
        refine tk_yes (i := 1) (v := ?_) rfl rfl (by kernel_rfl) (by kernel_rfl) (by kernel_rfl) (fun _ _ _ _ h => h) (by kernel_rfl) ?_ (by assumption) ?_; rotate_left; (intro wq hSw; (try dsimp only at hSw); go_simp; (try with_reducible rfl)); (try simp only [List.setIfInBounds_toArray, List.set_cons_zero, List.set_cons_succ])
        refine tk_yes (i := 2) (v := ?_) rfl rfl (by kernel_rfl) (by kernel_rfl) (by kernel_rfl) (fun _ _ _ _ h => h) (by kernel_rfl) ?_ (by assumption) ?_; rotate_left; (intro wq hSw; (try dsimp only at hSw); go_simp; (try with_reducible rfl)); (try simp only [List.setIfInBounds_toArray, List.set_cons_zero, List.set_cons_succ])
        refine tk_yes (i := 3) (v := ?_) rfl rfl (by kernel_rfl) (by kernel_rfl) (by kernel_rfl) (fun _ _ _ _ h => h) (by kernel_rfl) ?_ (by assumption) ?_; rotate_left; (intro wq hSw; (try dsimp only at hSw); go_simp; (try with_reducible rfl)); (try simp only [List.setIfInBounds_toArray, List.set_cons_zero, List.set_cons_succ])
        refine tk_yes (i := 4) (v := ?_) rfl rfl (by kernel_rfl) (by kernel_rfl) (by kernel_rfl) (fun _ _ _ _ h => h) (by kernel_rfl) ?_ (by assumption) ?_; rotate_left; (intro wq hSw; (try dsimp only at hSw); go_simp; (try with_reducible rfl)); (try simp only [List.setIfInBounds_toArray, List.set_cons_zero, List.set_cons_succ])
        refine wpAnyH_all (rs := [5]) (by kernel_rfl) (by simp) (fun i hi => ?_); obtain rfl : i = 5 := (by simpa using hi); refine wpOp_step (by rfl) (fun K hK => ?_)
        go_simp
        go_at_call 27
        refine (specIsName_any s _ hs60).mono ?_
        rintro e w2 ⟨rfl, rfl⟩
        refine hK _ _ ⟨S0, ?_⟩
        (try simp only [Act.put, List.setIfInBounds_toArray, List.set_cons_zero, List.set_cons_succ])
        refine tk_yes (i := 6) (v := ?_) rfl rfl (by kernel_rfl) (by kernel_rfl) (by kernel_rfl) (fun _ _ _ _ h => h) (by kernel_rfl) ?_ (by assumption) ?_; rotate_left; (intro wq hSw; (try dsimp only at hSw); go_simp; (try with_reducible rfl)); (try simp only [List.setIfInBounds_toArray, List.set_cons_zero, List.set_cons_succ])
        refine tk_yes (i := 7) (v := ?_) rfl rfl (by kernel_rfl) (by kernel_rfl) (by kernel_rfl) (fun _ _ _ _ h => h) (by kernel_rfl) ?_ (by assumption) ?_; rotate_left; (intro wq hSw; (try dsimp only at hSw); go_simp; (try with_reducible rfl)); (try simp only [List.setIfInBounds_toArray, List.set_cons_zero, List.set_cons_succ])
        refine tk_yes (i := 8) (v := ?_) rfl rfl (by kernel_rfl) (by kernel_rfl) (by kernel_rfl) (fun _ _ _ _ h => h) (by kernel_rfl) ?_ (by assumption) ?_; rotate_left; (intro wq hSw; (try dsimp only at hSw); go_simp; (try with_reducible rfl)); (try simp only [List.setIfInBounds_toArray, List.set_cons_zero, List.set_cons_succ])
        refine tk_yes (i := 9) (v := ?_) rfl rfl (by kernel_rfl) (by kernel_rfl) (by kernel_rfl) (fun _ _ _ _ h => h) (by kernel_rfl) ?_ (by assumption) ?_; rotate_left; (intro wq hSw; (try dsimp only at hSw); go_simp; (try with_reducible rfl)); (try simp only [List.setIfInBounds_toArray, List.set_cons_zero, List.set_cons_succ])
        refine tk_yes (i := 10) (v := ?_) rfl rfl (by kernel_rfl) (by kernel_rfl) (by kernel_rfl) (fun _ _ _ _ h => h) (by kernel_rfl) ?_ (by assumption) ?_; rotate_left; (intro wq hSw; (try dsimp only at hSw); go_simp; (try with_reducible rfl)); (try simp only [List.setIfInBounds_toArray, List.set_cons_zero, List.set_cons_succ])
        refine tk_yes (i := 11) (v := ?_) rfl rfl (by kernel_rfl) (by kernel_rfl) (by kernel_rfl) (fun _ _ _ _ h => h) (by kernel_rfl) ?_ (by assumption) ?_; rotate_left; (intro wq hSw; (try dsimp only at hSw); go_simp; (try with_reducible rfl)); (try simp only [List.setIfInBounds_toArray, List.set_cons_zero, List.set_cons_succ])
        refine tk_yes (i := 12) (v := ?_) rfl rfl (by kernel_rfl) (by kernel_rfl) (by kernel_rfl) (fun _ _ _ _ h => h) (by kernel_rfl) ?_ (by assumption) ?_; rotate_left; (intro wq hSw; (try dsimp only at hSw); go_simp; (try with_reducible rfl)); (try simp only [List.setIfInBounds_toArray, List.set_cons_zero, List.set_cons_succ])
        refine tk_yes (i := 13) (v := ?_) rfl rfl (by kernel_rfl) (by kernel_rfl) (by kernel_rfl) (fun _ _ _ _ h => h) (by kernel_rfl) ?_ (by assumption) ?_; rotate_left; (intro wq hSw; (try dsimp only at hSw); go_simp; (try with_reducible rfl)); (try simp only [List.setIfInBounds_toArray, List.set_cons_zero, List.set_cons_succ])
        refine tk_yes (i := 14) (v := ?_) rfl rfl (by kernel_rfl) (by kernel_rfl) (by kernel_rfl) (fun _ _ _ _ h => h) (by kernel_rfl) ?_ (by assumption) ?_; rotate_left; (intro wq hSw; (try dsimp only at hSw); go_simp; (try with_reducible rfl)); (try simp only [List.setIfInBounds_toArray, List.set_cons_zero, List.set_cons_succ])
        refine tk_yes (i := 16) (v := ?_) rfl rfl (by kernel_rfl) (by kernel_rfl) (by kernel_rfl) (fun _ _ _ _ h => h) (by kernel_rfl) ?_ (by assumption) ?_; rotate_left; (intro wq hSw; (try dsimp only at hSw); go_simp; (try with_reducible rfl)); (try simp only [List.setIfInBounds_toArray, List.set_cons_zero, List.set_cons_succ])
        refine wpAnyH_all (rs := [15]) (by kernel_rfl) (by simp) (fun i hi => ?_); obtain rfl : i = 15 := (by simpa using hi); refine wpOp_step (by rfl) (fun K hK => ?_)
        go_simp
        go_at_call 38
        refine (l1Find_any _ _ _ h.names s _ RT (by unfold maxLen; omega)).mono ?_
        rintro e w2 ⟨rfl, rfl⟩
        refine hK _ _ ⟨S0, ?_⟩
        (try simp only [Act.put, List.setIfInBounds_toArray, List.set_cons_zero, List.set_cons_succ])
        refine tk_yes (i := 17) (v := ?_) rfl rfl (by kernel_rfl) (by kernel_rfl) (by kernel_rfl) (fun _ _ _ _ h => h) (by kernel_rfl) ?_ (by assumption) ?_; rotate_left; (intro wq hSw; (try dsimp only at hSw); go_simp; (try with_reducible rfl)); (try simp only [List.setIfInBounds_toArray, List.set_cons_zero, List.set_cons_succ])
        refine tk_yes (i := 18) (v := ?_) rfl rfl (by kernel_rfl) (by kernel_rfl) (by kernel_rfl) (fun _ _ _ _ h => h) (by kernel_rfl) ?_ (by assumption) ?_; rotate_left; (intro wq hSw; (try dsimp only at hSw); go_simp; (try with_reducible rfl)); (try simp only [List.setIfInBounds_toArray, List.set_cons_zero, List.set_cons_succ])
        refine tk_yes (i := 19) (v := ?_) rfl rfl (by kernel_rfl) (by kernel_rfl) (by kernel_rfl) (fun _ _ _ _ h => h) (by kernel_rfl) ?_ (by assumption) ?_; rotate_left; (intro wq hSw; (try dsimp only at hSw); go_simp; (try with_reducible rfl)); (try simp only [List.setIfInBounds_toArray, List.set_cons_zero, List.set_cons_succ])
        refine tk_yes (i := 20) (v := ?_) rfl rfl (by kernel_rfl) (by kernel_rfl) (by kernel_rfl) (fun _ _ _ _ h => h) (by kernel_rfl) ?_ (by assumption) ?_; rotate_left; (intro wq hSw; (try dsimp only at hSw); go_simp; (try with_reducible rfl)); (try simp only [List.setIfInBounds_toArray, List.set_cons_zero, List.set_cons_succ])
        refine tk_yes (i := 21) (v := ?_) rfl rfl (by kernel_rfl) (by kernel_rfl) (by kernel_rfl) (fun _ _ _ _ h => h) (by kernel_rfl) ?_ (by assumption) ?_; rotate_left; (intro wq hSw; (try dsimp only at hSw); go_simp; (try with_reducible rfl)); (try simp only [List.setIfInBounds_toArray, List.set_cons_zero, List.set_cons_succ])
        refine tk_yes (i := 22) (v := ?_) rfl rfl (by kernel_rfl) (by kernel_rfl) (by kernel_rfl) (fun _ _ _ _ h => h) (by kernel_rfl) ?_ (by assumption) ?_; rotate_left; (intro wq hSw; (try dsimp only at hSw); go_simp; (try with_reducible rfl)); (try simp only [List.setIfInBounds_toArray, List.set_cons_zero, List.set_cons_succ])
        refine tk_yes (i := 23) (v := ?_) rfl rfl (by kernel_rfl) (by kernel_rfl) (by kernel_rfl) (fun _ _ _ _ h => h) (by kernel_rfl) ?_ (by assumption) ?_; rotate_left; (intro wq hSw; (try dsimp only at hSw); go_simp; (try with_reducible rfl)); (try simp only [List.setIfInBounds_toArray, List.set_cons_zero, List.set_cons_succ])
        refine tk_yes (i := 24) (v := ?_) rfl rfl (by kernel_rfl) (by kernel_rfl) (by kernel_rfl) (fun _ _ _ _ h => h) (by kernel_rfl) ?_ (by assumption) ?_; rotate_left; (intro wq hSw; (try dsimp only at hSw); go_simp; (try with_reducible rfl)); (try simp only [List.setIfInBounds_toArray, List.set_cons_zero, List.set_cons_succ])
        refine tk_yes (i := 25) (v := ?_) rfl rfl (by kernel_rfl) (by kernel_rfl) (by kernel_rfl) (fun _ _ _ _ h => h) (by kernel_rfl) ?_ (by assumption) ?_; rotate_left; (intro wq hSw; (try dsimp only at hSw); go_simp; (try with_reducible rfl)); (try simp only [List.setIfInBounds_toArray, List.set_cons_zero, List.set_cons_succ])
        refine wpAnyH_all (rs := [26]) (by kernel_rfl) (by simp) (fun i hi => ?_); obtain rfl : i = 26 := (by simpa using hi); refine wpOp_step (by rfl) (fun K hK => ?_)
        go_simp
        go_at_call 39
        refine (HCF.out k _ _ (rep_dw ry)).mono ?_
        rintro e w3 ⟨rfl, hb3⟩
        have bb3 := ((Below.refl wr.heap.size wr).drew).trans hb3
        have S3 := (HSL.out w3 bb3)
        try simp only at S3
        refine hK _ _ ⟨S3, ?_⟩
        (try simp only [Act.put, List.setIfInBounds_toArray, List.set_cons_zero, List.set_cons_succ])
        refine tk_yes (i := 27) (v := ?_) rfl rfl (by kernel_rfl) (by kernel_rfl) (by kernel_rfl) (fun _ _ _ _ h => h) (by kernel_rfl) ?_ (by assumption) ?_; rotate_left; (intro wq hSw; (try dsimp only at hSw); go_simp; (try with_reducible rfl)); (try simp only [List.setIfInBounds_toArray, List.set_cons_zero, List.set_cons_succ])
        refine tk_yes (i := 28) (v := ?_) rfl rfl (by kernel_rfl) (by kernel_rfl) (by kernel_rfl) (fun _ _ _ _ h => h) (by kernel_rfl) ?_ (by assumption) ?_; rotate_left; (intro wq hSw; (try dsimp only at hSw); go_simp; (try with_reducible rfl)); (try simp only [List.setIfInBounds_toArray, List.set_cons_zero, List.set_cons_succ])
        refine tk_yes (i := 29) (v := ?_) rfl rfl (by kernel_rfl) (by kernel_rfl) (by kernel_rfl) (fun _ _ _ _ h => h) (by kernel_rfl) ?_ (by assumption) ?_; rotate_left; (intro wq hSw; (try dsimp only at hSw); go_simp; (try with_reducible rfl)); (try simp only [List.setIfInBounds_toArray, List.set_cons_zero, List.set_cons_succ])
        refine tk_yes (i := 30) (v := ?_) rfl rfl (by kernel_rfl) (by kernel_rfl) (by kernel_rfl) (fun _ _ _ _ h => h) (by kernel_rfl) ?_ (by assumption) ?_; rotate_left; (intro wq hSw; (try dsimp only at hSw); go_simp; (try with_reducible rfl)); (try simp only [List.setIfInBounds_toArray, List.set_cons_zero, List.set_cons_succ])
        refine tk_yes (i := 31) (v := ?_) rfl rfl (by kernel_rfl) (by kernel_rfl) (by kernel_rfl) (fun _ _ _ _ h => h) (by kernel_rfl) ?_ (by assumption) ?_; rotate_left; (intro wq hSw; (try dsimp only at hSw); go_simp; (try with_reducible rfl)); (try simp only [List.setIfInBounds_toArray, List.set_cons_zero, List.set_cons_succ])
        refine tk_yes (i := 32) (v := ?_) rfl rfl (by kernel_rfl) (by kernel_rfl) (by kernel_rfl) (fun _ _ _ _ h => h) (by kernel_rfl) ?_ (by assumption) ?_; rotate_left; (intro wq hSw; (try dsimp only at hSw); go_simp; (try with_reducible rfl)); (try simp only [List.setIfInBounds_toArray, List.set_cons_zero, List.set_cons_succ])
        refine tk_yes (i := 33) (v := ?_) rfl rfl (by kernel_rfl) (by kernel_rfl) (by kernel_rfl) (fun _ _ _ _ h => h) (by kernel_rfl) ?_ (by assumption) ?_; rotate_left; (intro wq hSw; (try dsimp only at hSw); go_simp; (try with_reducible rfl)); (try simp only [List.setIfInBounds_toArray, List.set_cons_zero, List.set_cons_succ])
        refine tk_yes (i := 34) (v := ?_) rfl rfl (by kernel_rfl) (by kernel_rfl) (by kernel_rfl) (fun _ _ _ _ h => h) (by kernel_rfl) ?_ (by assumption) ?_; rotate_left; (intro wq hSw; (try dsimp only at hSw); go_simp; (try with_reducible rfl)); (try simp only [List.setIfInBounds_toArray, List.set_cons_zero, List.set_cons_succ])
        refine tk_yes (i := 35) (v := ?_) rfl rfl (by kernel_rfl) (by kernel_rfl) (by kernel_rfl) (fun _ _ _ _ h => h) (by kernel_rfl) ?_ (by assumption) ?_; rotate_left; (intro wq hSw; (try dsimp only at hSw); go_simp; (try with_reducible rfl)); (try simp only [List.setIfInBounds_toArray, List.set_cons_zero, List.set_cons_succ])
        refine wpAnyH_all (rs := [36]) (by kernel_rfl) (by simp) (fun i hi => ?_); obtain rfl : i = 36 := (by simpa using hi); refine wpOp_step (by rfl) (fun K hK => ?_)
        go_simp
        go_at_call 40
        refine (HAS.out k _ _ (rep_next (w := wr.drew) (rep_dw ry) hb3) HDP.out).mono ?_
        rintro e w4 ⟨cs4, F4, rfl, o4, fr4, hb4⟩
        have bb4 := bth bb3 hb4
        have S4 := (HSL.out w4 bb4)
        try simp only at S4
        refine hK _ _ ⟨S4, ?_⟩
        (try simp only [Act.put, List.setIfInBounds_toArray, List.set_cons_zero, List.set_cons_succ])
        refine wpAnyH_all (rs := [37]) (by kernel_rfl) (by simp) (fun i hi => ?_); obtain rfl : i = 37 := (by simpa using hi); refine wpOp_step (by rfl) (fun K hK => ?_)
        go_simp
        go_at_call 28
        refine (specIsVector_any _ _ _ (own_rep _ _ _ _ o4) HBG.out).mono ?_
        rintro e w5 ⟨rfl, hb5⟩
        have bb5 := bth bb4 hb5
        have S5 := (HSL.out w5 bb5)
        try simp only at S5
        refine hK _ _ ⟨S5, ?_⟩
        (try simp only [Act.put, List.setIfInBounds_toArray, List.set_cons_zero, List.set_cons_succ])
        refine tk_yes (i := 38) (v := ?_) rfl rfl (by kernel_rfl) (by kernel_rfl) (by kernel_rfl) (fun _ _ _ _ h => h) (by kernel_rfl) ?_ (by assumption) ?_; rotate_left; (intro wq hSw; (try dsimp only at hSw); go_simp; (try with_reducible rfl)); (try simp only [List.setIfInBounds_toArray, List.set_cons_zero, List.set_cons_succ])
        refine tk_yes (i := 39) (v := ?_) rfl rfl (by kernel_rfl) (by kernel_rfl) (by kernel_rfl) (fun _ _ _ _ h => h) (by kernel_rfl) ?_ (by assumption) ?_; rotate_left; (intro wq hSw; (try dsimp only at hSw); go_simp; (try with_reducible rfl)); (try simp only [List.setIfInBounds_toArray, List.set_cons_zero, List.set_cons_succ])
        refine wpAnyH_done (by kernel_rfl) ?_ _
        refine NoPanic.normal ?_
        go_wp2_with fail
        go_ret
        exact ⟨ret_bool HZ.out.symm, bth bb bb5⟩
      · have HY := Lib.hid (show namS h q s ((h.slots[q]?).getD 0) = true by rw [HNM.out, hnm, ← HIX.out, hdu, hft, hvc]; rfl)
        go_wp2_with fail
        refine wp_region_noPanic ?_
        refine wp_region_held_drew (S := (fun W => W.cell? ⟨w.heap.size, 0, none⟩ = some (.slice A n c) ∧ W.cell? ⟨w.heap.size, 1, none⟩ = some (.slice (some ⟨bm, om, none⟩) nm cm) ∧ W.cell? ⟨w.heap.size, 2, none⟩ = some (.slice (some ⟨bs, os, none⟩) ns ca) ∧ W.cell? ⟨w.heap.size, 3, none⟩ = some (.int .i64 h.copies) ∧ W.cell? ⟨bm, om + q, none⟩ = some (sv s) ∧ W.cell? ⟨bs, os + q, none⟩ = some (.int .i64 k))) (by kernel_rfl) S0 (fun hH => ?_)
        refine tk_yes (i := 0) (v := ?_) rfl rfl (by kernel_rfl) (by kernel_rfl) (by kernel_rfl) (fun _ _ _ _ h => h) (by kernel_rfl) ?_ (by assumption) ?_; rotate_left; (intro wq hSw; (try dsimp only at hSw); go_simp; (try with_reducible rfl)); (try simp only [List.setIfInBounds_toArray, List.set_cons_zero, List.set_cons_succ])
        refine tk_yes (i := 1) (v := ?_) rfl rfl (by kernel_rfl) (by kernel_rfl) (by kernel_rfl) (fun _ _ _ _ h => h) (by kernel_rfl) ?_ (by assumption) ?_; rotate_left; (intro wq hSw; (try dsimp only at hSw); go_simp; (try with_reducible rfl)); (try simp only [List.setIfInBounds_toArray, List.set_cons_zero, List.set_cons_succ])
        refine tk_yes (i := 2) (v := ?_) rfl rfl (by kernel_rfl) (by kernel_rfl) (by kernel_rfl) (fun _ _ _ _ h => h) (by kernel_rfl) ?_ (by assumption) ?_; rotate_left; (intro wq hSw; (try dsimp only at hSw); go_simp; (try with_reducible rfl)); (try simp only [List.setIfInBounds_toArray, List.set_cons_zero, List.set_cons_succ])
        refine tk_yes (i := 3) (v := ?_) rfl rfl (by kernel_rfl) (by kernel_rfl) (by kernel_rfl) (fun _ _ _ _ h => h) (by kernel_rfl) ?_ (by assumption) ?_; rotate_left; (intro wq hSw; (try dsimp only at hSw); go_simp; (try with_reducible rfl)); (try simp only [List.setIfInBounds_toArray, List.set_cons_zero, List.set_cons_succ])
        refine tk_yes (i := 4) (v := ?_) rfl rfl (by kernel_rfl) (by kernel_rfl) (by kernel_rfl) (fun _ _ _ _ h => h) (by kernel_rfl) ?_ (by assumption) ?_; rotate_left; (intro wq hSw; (try dsimp only at hSw); go_simp; (try with_reducible rfl)); (try simp only [List.setIfInBounds_toArray, List.set_cons_zero, List.set_cons_succ])
        refine wpAnyH_all (rs := [5]) (by kernel_rfl) (by simp) (fun i hi => ?_); obtain rfl : i = 5 := (by simpa using hi); refine wpOp_step (by rfl) (fun K hK => ?_)
        go_simp
        go_at_call 27
        refine (specIsName_any s _ hs60).mono ?_
        rintro e w2 ⟨rfl, rfl⟩
        refine hK _ _ ⟨S0, ?_⟩
        (try simp only [Act.put, List.setIfInBounds_toArray, List.set_cons_zero, List.set_cons_succ])
        refine tk_yes (i := 6) (v := ?_) rfl rfl (by kernel_rfl) (by kernel_rfl) (by kernel_rfl) (fun _ _ _ _ h => h) (by kernel_rfl) ?_ (by assumption) ?_; rotate_left; (intro wq hSw; (try dsimp only at hSw); go_simp; (try with_reducible rfl)); (try simp only [List.setIfInBounds_toArray, List.set_cons_zero, List.set_cons_succ])
        refine tk_yes (i := 7) (v := ?_) rfl rfl (by kernel_rfl) (by kernel_rfl) (by kernel_rfl) (fun _ _ _ _ h => h) (by kernel_rfl) ?_ (by assumption) ?_; rotate_left; (intro wq hSw; (try dsimp only at hSw); go_simp; (try with_reducible rfl)); (try simp only [List.setIfInBounds_toArray, List.set_cons_zero, List.set_cons_succ])
        refine tk_yes (i := 8) (v := ?_) rfl rfl (by kernel_rfl) (by kernel_rfl) (by kernel_rfl) (fun _ _ _ _ h => h) (by kernel_rfl) ?_ (by assumption) ?_; rotate_left; (intro wq hSw; (try dsimp only at hSw); go_simp; (try with_reducible rfl)); (try simp only [List.setIfInBounds_toArray, List.set_cons_zero, List.set_cons_succ])
        refine tk_yes (i := 9) (v := ?_) rfl rfl (by kernel_rfl) (by kernel_rfl) (by kernel_rfl) (fun _ _ _ _ h => h) (by kernel_rfl) ?_ (by assumption) ?_; rotate_left; (intro wq hSw; (try dsimp only at hSw); go_simp; (try with_reducible rfl)); (try simp only [List.setIfInBounds_toArray, List.set_cons_zero, List.set_cons_succ])
        refine tk_yes (i := 10) (v := ?_) rfl rfl (by kernel_rfl) (by kernel_rfl) (by kernel_rfl) (fun _ _ _ _ h => h) (by kernel_rfl) ?_ (by assumption) ?_; rotate_left; (intro wq hSw; (try dsimp only at hSw); go_simp; (try with_reducible rfl)); (try simp only [List.setIfInBounds_toArray, List.set_cons_zero, List.set_cons_succ])
        refine tk_yes (i := 11) (v := ?_) rfl rfl (by kernel_rfl) (by kernel_rfl) (by kernel_rfl) (fun _ _ _ _ h => h) (by kernel_rfl) ?_ (by assumption) ?_; rotate_left; (intro wq hSw; (try dsimp only at hSw); go_simp; (try with_reducible rfl)); (try simp only [List.setIfInBounds_toArray, List.set_cons_zero, List.set_cons_succ])
        refine tk_yes (i := 12) (v := ?_) rfl rfl (by kernel_rfl) (by kernel_rfl) (by kernel_rfl) (fun _ _ _ _ h => h) (by kernel_rfl) ?_ (by assumption) ?_; rotate_left; (intro wq hSw; (try dsimp only at hSw); go_simp; (try with_reducible rfl)); (try simp only [List.setIfInBounds_toArray, List.set_cons_zero, List.set_cons_succ])
        refine tk_yes (i := 13) (v := ?_) rfl rfl (by kernel_rfl) (by kernel_rfl) (by kernel_rfl) (fun _ _ _ _ h => h) (by kernel_rfl) ?_ (by assumption) ?_; rotate_left; (intro wq hSw; (try dsimp only at hSw); go_simp; (try with_reducible rfl)); (try simp only [List.setIfInBounds_toArray, List.set_cons_zero, List.set_cons_succ])
        refine tk_yes (i := 14) (v := ?_) rfl rfl (by kernel_rfl) (by kernel_rfl) (by kernel_rfl) (fun _ _ _ _ h => h) (by kernel_rfl) ?_ (by assumption) ?_; rotate_left; (intro wq hSw; (try dsimp only at hSw); go_simp; (try with_reducible rfl)); (try simp only [List.setIfInBounds_toArray, List.set_cons_zero, List.set_cons_succ])
        refine tk_yes (i := 16) (v := ?_) rfl rfl (by kernel_rfl) (by kernel_rfl) (by kernel_rfl) (fun _ _ _ _ h => h) (by kernel_rfl) ?_ (by assumption) ?_; rotate_left; (intro wq hSw; (try dsimp only at hSw); go_simp; (try with_reducible rfl)); (try simp only [List.setIfInBounds_toArray, List.set_cons_zero, List.set_cons_succ])
        refine wpAnyH_all (rs := [15]) (by kernel_rfl) (by simp) (fun i hi => ?_); obtain rfl : i = 15 := (by simpa using hi); refine wpOp_step (by rfl) (fun K hK => ?_)
        go_simp
        go_at_call 38
        refine (l1Find_any _ _ _ h.names s _ RT (by unfold maxLen; omega)).mono ?_
        rintro e w2 ⟨rfl, rfl⟩
        refine hK _ _ ⟨S0, ?_⟩
        (try simp only [Act.put, List.setIfInBounds_toArray, List.set_cons_zero, List.set_cons_succ])
        refine tk_yes (i := 17) (v := ?_) rfl rfl (by kernel_rfl) (by kernel_rfl) (by kernel_rfl) (fun _ _ _ _ h => h) (by kernel_rfl) ?_ (by assumption) ?_; rotate_left; (intro wq hSw; (try dsimp only at hSw); go_simp; (try with_reducible rfl)); (try simp only [List.setIfInBounds_toArray, List.set_cons_zero, List.set_cons_succ])
        refine tk_yes (i := 18) (v := ?_) rfl rfl (by kernel_rfl) (by kernel_rfl) (by kernel_rfl) (fun _ _ _ _ h => h) (by kernel_rfl) ?_ (by assumption) ?_; rotate_left; (intro wq hSw; (try dsimp only at hSw); go_simp; (try with_reducible rfl)); (try simp only [List.setIfInBounds_toArray, List.set_cons_zero, List.set_cons_succ])
        refine tk_yes (i := 19) (v := ?_) rfl rfl (by kernel_rfl) (by kernel_rfl) (by kernel_rfl) (fun _ _ _ _ h => h) (by kernel_rfl) ?_ (by assumption) ?_; rotate_left; (intro wq hSw; (try dsimp only at hSw); go_simp; (try with_reducible rfl)); (try simp only [List.setIfInBounds_toArray, List.set_cons_zero, List.set_cons_succ])
        refine tk_yes (i := 20) (v := ?_) rfl rfl (by kernel_rfl) (by kernel_rfl) (by kernel_rfl) (fun _ _ _ _ h => h) (by kernel_rfl) ?_ (by assumption) ?_; rotate_left; (intro wq hSw; (try dsimp only at hSw); go_simp; (try with_reducible rfl)); (try simp only [List.setIfInBounds_toArray, List.set_cons_zero, List.set_cons_succ])
        refine tk_yes (i := 21) (v := ?_) rfl rfl (by kernel_rfl) (by kernel_rfl) (by kernel_rfl) (fun _ _ _ _ h => h) (by kernel_rfl) ?_ (by assumption) ?_; rotate_left; (intro wq hSw; (try dsimp only at hSw); go_simp; (try with_reducible rfl)); (try simp only [List.setIfInBounds_toArray, List.set_cons_zero, List.set_cons_succ])
        refine tk_yes (i := 22) (v := ?_) rfl rfl (by kernel_rfl) (by kernel_rfl) (by kernel_rfl) (fun _ _ _ _ h => h) (by kernel_rfl) ?_ (by assumption) ?_; rotate_left; (intro wq hSw; (try dsimp only at hSw); go_simp; (try with_reducible rfl)); (try simp only [List.setIfInBounds_toArray, List.set_cons_zero, List.set_cons_succ])
        refine tk_yes (i := 23) (v := ?_) rfl rfl (by kernel_rfl) (by kernel_rfl) (by kernel_rfl) (fun _ _ _ _ h => h) (by kernel_rfl) ?_ (by assumption) ?_; rotate_left; (intro wq hSw; (try dsimp only at hSw); go_simp; (try with_reducible rfl)); (try simp only [List.setIfInBounds_toArray, List.set_cons_zero, List.set_cons_succ])
        refine tk_yes (i := 24) (v := ?_) rfl rfl (by kernel_rfl) (by kernel_rfl) (by kernel_rfl) (fun _ _ _ _ h => h) (by kernel_rfl) ?_ (by assumption) ?_; rotate_left; (intro wq hSw; (try dsimp only at hSw); go_simp; (try with_reducible rfl)); (try simp only [List.setIfInBounds_toArray, List.set_cons_zero, List.set_cons_succ])
        refine tk_yes (i := 25) (v := ?_) rfl rfl (by kernel_rfl) (by kernel_rfl) (by kernel_rfl) (fun _ _ _ _ h => h) (by kernel_rfl) ?_ (by assumption) ?_; rotate_left; (intro wq hSw; (try dsimp only at hSw); go_simp; (try with_reducible rfl)); (try simp only [List.setIfInBounds_toArray, List.set_cons_zero, List.set_cons_succ])
        refine wpAnyH_all (rs := [26]) (by kernel_rfl) (by simp) (fun i hi => ?_); obtain rfl : i = 26 := (by simpa using hi); refine wpOp_step (by rfl) (fun K hK => ?_)
        go_simp
        go_at_call 39
        refine (HCF.out k _ _ (rep_dw ry)).mono ?_
        rintro e w3 ⟨rfl, hb3⟩
        have bb3 := ((Below.refl wr.heap.size wr).drew).trans hb3
        have S3 := (HSL.out w3 bb3)
        try simp only at S3
        refine hK _ _ ⟨S3, ?_⟩
        (try simp only [Act.put, List.setIfInBounds_toArray, List.set_cons_zero, List.set_cons_succ])
        refine tk_yes (i := 27) (v := ?_) rfl rfl (by kernel_rfl) (by kernel_rfl) (by kernel_rfl) (fun _ _ _ _ h => h) (by kernel_rfl) ?_ (by assumption) ?_; rotate_left; (intro wq hSw; (try dsimp only at hSw); go_simp; (try with_reducible rfl)); (try simp only [List.setIfInBounds_toArray, List.set_cons_zero, List.set_cons_succ])
        refine tk_yes (i := 28) (v := ?_) rfl rfl (by kernel_rfl) (by kernel_rfl) (by kernel_rfl) (fun _ _ _ _ h => h) (by kernel_rfl) ?_ (by assumption) ?_; rotate_left; (intro wq hSw; (try dsimp only at hSw); go_simp; (try with_reducible rfl)); (try simp only [List.setIfInBounds_toArray, List.set_cons_zero, List.set_cons_succ])
        refine tk_yes (i := 29) (v := ?_) rfl rfl (by kernel_rfl) (by kernel_rfl) (by kernel_rfl) (fun _ _ _ _ h => h) (by kernel_rfl) ?_ (by assumption) ?_; rotate_left; (intro wq hSw; (try dsimp only at hSw); go_simp; (try with_reducible rfl)); (try simp only [List.setIfInBounds_toArray, List.set_cons_zero, List.set_cons_succ])
        refine tk_yes (i := 30) (v := ?_) rfl rfl (by kernel_rfl) (by kernel_rfl) (by kernel_rfl) (fun _ _ _ _ h => h) (by kernel_rfl) ?_ (by assumption) ?_; rotate_left; (intro wq hSw; (try dsimp only at hSw); go_simp; (try with_reducible rfl)); (try simp only [List.setIfInBounds_toArray, List.set_cons_zero, List.set_cons_succ])
        refine tk_yes (i := 31) (v := ?_) rfl rfl (by kernel_rfl) (by kernel_rfl) (by kernel_rfl) (fun _ _ _ _ h => h) (by kernel_rfl) ?_ (by assumption) ?_; rotate_left; (intro wq hSw; (try dsimp only at hSw); go_simp; (try with_reducible rfl)); (try simp only [List.setIfInBounds_toArray, List.set_cons_zero, List.set_cons_succ])
        refine tk_yes (i := 32) (v := ?_) rfl rfl (by kernel_rfl) (by kernel_rfl) (by kernel_rfl) (fun _ _ _ _ h => h) (by kernel_rfl) ?_ (by assumption) ?_; rotate_left; (intro wq hSw; (try dsimp only at hSw); go_simp; (try with_reducible rfl)); (try simp only [List.setIfInBounds_toArray, List.set_cons_zero, List.set_cons_succ])
        refine tk_yes (i := 33) (v := ?_) rfl rfl (by kernel_rfl) (by kernel_rfl) (by kernel_rfl) (fun _ _ _ _ h => h) (by kernel_rfl) ?_ (by assumption) ?_; rotate_left; (intro wq hSw; (try dsimp only at hSw); go_simp; (try with_reducible rfl)); (try simp only [List.setIfInBounds_toArray, List.set_cons_zero, List.set_cons_succ])
        refine tk_yes (i := 34) (v := ?_) rfl rfl (by kernel_rfl) (by kernel_rfl) (by kernel_rfl) (fun _ _ _ _ h => h) (by kernel_rfl) ?_ (by assumption) ?_; rotate_left; (intro wq hSw; (try dsimp only at hSw); go_simp; (try with_reducible rfl)); (try simp only [List.setIfInBounds_toArray, List.set_cons_zero, List.set_cons_succ])
        refine tk_yes (i := 35) (v := ?_) rfl rfl (by kernel_rfl) (by kernel_rfl) (by kernel_rfl) (fun _ _ _ _ h => h) (by kernel_rfl) ?_ (by assumption) ?_; rotate_left; (intro wq hSw; (try dsimp only at hSw); go_simp; (try with_reducible rfl)); (try simp only [List.setIfInBounds_toArray, List.set_cons_zero, List.set_cons_succ])
        refine wpAnyH_all (rs := [36]) (by kernel_rfl) (by simp) (fun i hi => ?_); obtain rfl : i = 36 := (by simpa using hi); refine wpOp_step (by rfl) (fun K hK => ?_)
        go_simp
        go_at_call 40
        refine (HAS.out k _ _ (rep_next (w := wr.drew) (rep_dw ry) hb3) HDP.out).mono ?_
        rintro e w4 ⟨cs4, F4, rfl, o4, fr4, hb4⟩
        have bb4 := bth bb3 hb4
        have S4 := (HSL.out w4 bb4)
        try simp only at S4
        refine hK _ _ ⟨S4, ?_⟩
        (try simp only [Act.put, List.setIfInBounds_toArray, List.set_cons_zero, List.set_cons_succ])
        refine wpAnyH_all (rs := [37]) (by kernel_rfl) (by simp) (fun i hi => ?_); obtain rfl : i = 37 := (by simpa using hi); refine wpOp_step (by rfl) (fun K hK => ?_)
        go_simp
        go_at_call 28
        refine (specIsVector_any _ _ _ (own_rep _ _ _ _ o4) HBG.out).mono ?_
        rintro e w5 ⟨rfl, hb5⟩
        have bb5 := bth bb4 hb5
        have S5 := (HSL.out w5 bb5)
        try simp only at S5
        refine hK _ _ ⟨S5, ?_⟩
        (try simp only [Act.put, List.setIfInBounds_toArray, List.set_cons_zero, List.set_cons_succ])
        refine tk_yes (i := 38) (v := ?_) rfl rfl (by kernel_rfl) (by kernel_rfl) (by kernel_rfl) (fun _ _ _ _ h => h) (by kernel_rfl) ?_ (by assumption) ?_; rotate_left; (intro wq hSw; (try dsimp only at hSw); go_simp; (try with_reducible rfl)); (try simp only [List.setIfInBounds_toArray, List.set_cons_zero, List.set_cons_succ])
        refine tk_yes (i := 39) (v := ?_) rfl rfl (by kernel_rfl) (by kernel_rfl) (by kernel_rfl) (fun _ _ _ _ h => h) (by kernel_rfl) ?_ (by assumption) ?_; rotate_left; (intro wq hSw; (try dsimp only at hSw); go_simp; (try with_reducible rfl)); (try simp only [List.setIfInBounds_toArray, List.set_cons_zero, List.set_cons_succ])
        refine wpAnyH_done (by kernel_rfl) ?_ _
        refine NoPanic.normal ?_
        go_wp2_with fail
        obtain ⟨i, _, rfl, hi, _⟩ := inR_at (celD_in (depD_pos HDP.out))
        rw [HL.out] at hi
        have b5 := bth bb bb5
        have o5 := o0.below bb5
        obtain ⟨g0', g1', g2', g3'⟩ := (kh.next bb5).c4
        have c5 := (bb5.cell (p := ⟨bs, os + q, none⟩) ybs).trans hck
        obtain ⟨v, hv, hv0, hvl⟩ := cnts_le (l := h.slots.take q) hi
        have hvb : v ≤ 1048576 := by have := List.length_take_le q h.slots; have := HL2.out; have := HNN.out; omega
        obtain ⟨_, _, v', e1, _, hv', hcv⟩ := (o5.reads encI_len).atI hi
        injection e1 with e1; injection e1 with e1 e2; subst e1 e2
        rw [hv] at hv'; injection hv' with hv'; subst hv'
        rw [Nat.zero_add] at hcv
        have zf := (o5.fil).1.frozen i
        have HV := Lib.hid hv
        have i1 : (i : Int) < (n : Int) := by omega
        have i0 : (0 : Int) ≤ (i : Int) := by omega
        have yh5 : w.heap.size < w5.heap.size := by have := bb5.size; omega
        have yg5 : w.heap.size + 1 < w5.heap.size := by have := bb5.size; omega
        have ybs5 : bs < w5.heap.size := by have := bb5.size; omega
        clear hv hvl S0 S3 S4 S5 hcm hck g0 g1 g2 g3 hH
        go_wp2_with fail
        go_still_tail 16, (by kernel_rfl)
        go_wp2_with fail
        go_roundw
        case rel =>
          have o6 := Own.set_ encI_len o5.dw i 0 v (v + 1) (.int .i64 (v + 1)) HV.out (by omega) rfl
          rw [Nat.mul_one, Nat.add_zero] at o6
          have hvc : v = ((List.count (i : Int) (h.slots.take q) : Nat) : Int) := by
            have := cnts_at (h.slots.take q) hi
            rw [HV.out] at this; injection this
          refine ⟨q + 1, by omega, by go_num, nm_snoc HNK.out HSX.out HY.out, ?_, ?_, ?_⟩
          · rw [take_snoc' HKX.out, ← cnts_snoc _ hi, ← hvc]; exact o6
          · exact (kh.next bb5).dw.pk (by simp only; omega)
          · exact bel_set b5.drew (by simp only; omega)
        case measure => simp [intOf]; omega
    · obtain rfl : q = nm := by omega
      rw [List.take_of_length_le (by rw [HL2.out]; have := HNN.out; omega)] at o0
      have hnames : allFrom (fun i s => namS h i s ((h.slots[i]?).getD 0)) h.names = true := allFrom_yes (fun i s hi hx => HNK.out i s (by rw [HL1.out] at hi; exact hi) hx)
      have HNS := Lib.hid hnames
      clear hnames HNK
      have hw1 : IntKind.i64.wrap ((n : Int) - 1) = (n : Int) - 1 := IntWalk.i64_in _ (by omega)
      have HW1 := Lib.hid hw1
      clear hw1
      go_wp2_with fail
      go_loopw [5] (fun v wr => ∃ p : Nat, p ≤ n ∧ v = .int .i64 p ∧ (h.cells.take p).all (celS h) = true ∧ Own encI 1 3 wr (w.heap.size + 1) (some ⟨w.heap.size + 1, 0, none⟩) n n (cnts n (h.slots ++ (h.cells.take p).flatMap (·.parts))) ∧ Blk wr w.heap.size 48 [.slice A n c, .slice Am q cm, .slice As ns ca, .int .i64 h.copies] ∧ Below w.heap.size w wr) (fun v _ => n - (intOf v).toNat)
      case atStart => exact ⟨0, by omega, rfl, by simp, by simpa using o0, kh, bb⟩
      case round =>
        clear kh o0 bb g0 g1 g2 g3 yh z0 yg
        obtain ⟨p, hp, rfl, hall, o0, kh, bb⟩ := hrel
        obtain ⟨g0, g1, g2, g3⟩ := kh.c4
        have HAL := Lib.hid hall
        have z0 := bb.size
        have yh := kh.lt
        have yg0 : w.heap.size + 1 < wr.heap.size := o0.lt.2
        clear hall
        by_cases hlp : p < n
        · obtain ⟨b, off, x, Ai, ni, ci, Ap, np, cp, An, nn, cn, Ac, nc, cc, Al, nl, cl, Aq, nq, cq, rfl, hbl, hx, hrx, e0, e1, e2, e3, e4, e5, e6, e7, e8, e9⟩ := Cell_at (rep_below rc bb) hlp
          obtain ⟨_, _, _, _, _, _, _, _, _, _, _, _, _, _, _, _, _, _, hcs, _, rv, rq⟩ := Cell_open hrx
          simp only [List.cons.injEq, Value.slice.injEq, true_and, and_true] at hcs
          obtain ⟨⟨rfl, rfl, rfl⟩, ⟨rfl, rfl, rfl⟩, ⟨rfl, rfl, rfl⟩, ⟨rfl, rfl, rfl⟩, ⟨rfl, rfl, rfl⟩, rfl, rfl, rfl⟩ := hcs
          obtain ⟨_, _, _, _, _, _, _, _, _, _, _, _, _, _, _, hcs, _, _, rpv, _⟩ := Vector_open rv
          simp only [List.cons.injEq, Value.slice.injEq, true_and, and_true] at hcs
          obtain ⟨⟨rfl, rfl, rfl⟩, ⟨rfl, rfl, rfl⟩, ⟨rfl, rfl, rfl⟩, ⟨rfl, rfl, rfl⟩, ⟨rfl, rfl, rfl⟩, rfl, rfl⟩ := hcs
          have hvl := (rep_sl_len rpv).1
          rw [List.length_map] at hvl
          obtain ⟨Aq', nq', cq', he, _, hqm, hq, _⟩ := (repI _ _ _ _).1 rq
          injection he with he; injection he with f1 f2 f3; subst f1 f2 f3
          have hpl : x.parts.length = nq := hq.len
          have hbd : (h.slots ++ (h.cells.take p).flatMap (·.parts)).length + nq ≤ 1048576 := by
            have := refs_part (h := h) hx
            omega
          have RQ0 : Reads encI 1 w w.heap.size Aq nq x.parts := hq.keep (fun p hp => (bb.cell hp).symm)
          have RQ := Lib.hid RQ0
          have hnq : nq ≤ 1048576 := by omega
          have hce : celS h x = (x.parts.all (inR h) && decide (np = 0) && (decide (x.count ≠ 0) || (decide (nq = 0) && isZ x.value))) := by unfold celS; rw [hvl, hpl]
          have HX := Lib.hid hx
          have HPL := Lib.hid hpl
          have HBD := Lib.hid hbd
          have HCE := Lib.hid hce
          have RV := Lib.hid (show rep w w.heap.size x.value.toD _ from rep_keep (Nat.le_refl _) (fun p hp => (bb.cell hp).symm) _ _ rv)
          have HBAD : Hid (celS h x = false → heapOK h = false) := Lib.hid fun hb => heapS_no (.inr (.inr (.inr (.inl (all_bad HX.out hb)))))
          have yb : b < wr.heap.size := by omega
          have ip : (p : Int) < (n : Int) := by omega
          have kh2 := kh.al (o := .cells #[.int .i64 x.count, .int .i64 x.value.kind, .slice Ai ni ci, .slice Ap np cp, .slice An nn cn, .slice Ac nc cc, .slice Al nl cl, .int .i64 x.value.code, .int .i64 x.value.env, .slice Aq nq cq] 71)
          have bb2 := bel_al (o := .cells #[.int .i64 x.count, .int .i64 x.value.kind, .slice Ai ni ci, .slice Ap np cp, .slice An nn cn, .slice Ac nc cc, .slice Al nl cl, .int .i64 x.value.code, .int .i64 x.value.env, .slice Aq nq cq] 71) bb z0
          have o2 := o0.al (o := .cells #[.int .i64 x.count, .int .i64 x.value.kind, .slice Ai ni ci, .slice Ap np cp, .slice An nn cn, .slice Ac nc cc, .slice Al nl cl, .int .i64 x.value.code, .int .i64 x.value.env, .slice Aq nq cq] 71)
          have kb : Blk (wr.alloc (.cells #[.int .i64 x.count, .int .i64 x.value.kind, .slice Ai ni ci, .slice Ap np cp, .slice An nn cn, .slice Ac nc cc, .slice Al nl cl, .int .i64 x.value.code, .int .i64 x.value.env, .slice Aq nq cq] 71)) wr.heap.size 71 [.int .i64 x.count, .int .i64 x.value.kind, .slice Ai ni ci, .slice Ap np cp, .slice An nn cn, .slice Ac nc cc, .slice Al nl cl, .int .i64 x.value.code, .int .i64 x.value.env, .slice Aq nq cq] := Blk.new' (l := [.int .i64 x.count, .int .i64 x.value.kind, .slice Ai ni ci, .slice Ap np cp, .slice An nn cn, .slice Ac nc cc, .slice Al nl cl, .int .i64 x.value.code, .int .i64 x.value.env, .slice Aq nq cq])
          clear hx hpl hbd rq RQ0 hce hvl rpv rv hq hrx
          go_wp2_with fail
          clear e0 e1 e2 e3 e4 e5 e6 e7 e8 e9 g0 g1 g2 g3
          obtain ⟨wo, hwo⟩ : ∃ wo : World, wo = wr := ⟨_, rfl⟩
          subst hwo
          go_loopw [7] (fun v wr => ∃ r : Nat, r ≤ nq ∧ v = .int .i64 r ∧ Own encI 1 3 wr (w.heap.size + 1) (some ⟨w.heap.size + 1, 0, none⟩) n n (cnts n ((h.slots ++ (h.cells.take p).flatMap (·.parts)) ++ x.parts.take r)) ∧ (x.parts.take r).all (inR h) = true ∧ Blk wr w.heap.size 48 [.slice (some ⟨b, off, none⟩) n c, .slice Am q cm, .slice As ns ca, .int .i64 h.copies] ∧ Blk wr wo.heap.size 71 [.int .i64 x.count, .int .i64 x.value.kind, .slice Ai ni ci, .slice Ap np cp, .slice An nn cn, .slice Ac nc cc, .slice Al nl cl, .int .i64 x.value.code, .int .i64 x.value.env, .slice Aq nq cq] ∧ Below w.heap.size w wr) (fun v _ => nq - (intOf v).toNat)
          case atStart => exact ⟨0, by omega, rfl, by simpa using o2, by simp, kh2, kb, bb2⟩
          case round =>
            clear kh2 o2 bb2 kb
            obtain ⟨r, hrr, rfl, o2, hall, kh2, kb, bb2⟩ := hrel
            obtain ⟨g0, g1, g2, g3⟩ := kh2.c4
            obtain ⟨y0, y1, y2, y3, y4, y5, y6, y7, y8, y9⟩ := kb.c10
            have HAQ := Lib.hid hall
            have yk := kb.lt
            have yh2 := kh2.lt
            have z2 := bb2.size
            clear hall
            by_cases hlr : r < nq
            · obtain ⟨b3, o3, k, rfl, hb3, hk, hck⟩ := (RQ.out.below bb2).atI hlr
              have ir : (r : Int) < (nq : Int) := by omega
              have ir0 : (0 : Int) ≤ (r : Int) := by omega
              have yb3 : b3 < wr.heap.size := by omega
              have HK := Lib.hid hk
              have hw1 := HW1.out
              have S0 : (fun W => W.cell? ⟨w.heap.size, 0, none⟩ = some (.slice (some ⟨b, off, none⟩) n c) ∧ W.cell? ⟨wo.heap.size, 9, none⟩ = some (.slice (some ⟨b3, o3, none⟩) nq cq) ∧ W.cell? ⟨b3, o3 + r, none⟩ = some (.int .i64 k)) wr.drew := ⟨g0, y9, hck⟩
              simp only at S0
              clear hk
              go_wp2_with fail
              refine wp_region_noPanic ?_
              refine wp_region_held_drew (S := (fun W => W.cell? ⟨w.heap.size, 0, none⟩ = some (.slice (some ⟨b, off, none⟩) n c) ∧ W.cell? ⟨wo.heap.size, 9, none⟩ = some (.slice (some ⟨b3, o3, none⟩) nq cq) ∧ W.cell? ⟨b3, o3 + r, none⟩ = some (.int .i64 k))) (by kernel_rfl) S0 (fun hH => ?_)
              refine tk_yes (i := 0) (v := ?_) rfl rfl (by kernel_rfl) (by kernel_rfl) (by kernel_rfl) (fun _ _ _ _ h => h) (by kernel_rfl) ?_ (by assumption) ?_; rotate_left; (intro wq hSw; (try dsimp only at hSw); go_simp; (try with_reducible rfl)); (try simp only [List.setIfInBounds_toArray, List.set_cons_zero, List.set_cons_succ])
              refine tk_yes (i := 1) (v := ?_) rfl rfl (by kernel_rfl) (by kernel_rfl) (by kernel_rfl) (fun _ _ _ _ h => h) (by kernel_rfl) ?_ (by assumption) ?_; rotate_left; (intro wq hSw; (try dsimp only at hSw); go_simp; (try with_reducible rfl)); (try simp only [List.setIfInBounds_toArray, List.set_cons_zero, List.set_cons_succ])
              refine tk_yes (i := 2) (v := ?_) rfl rfl (by kernel_rfl) (by kernel_rfl) (by kernel_rfl) (fun _ _ _ _ h => h) (by kernel_rfl) ?_ (by assumption) ?_; rotate_left; (intro wq hSw; (try dsimp only at hSw); go_simp; (try with_reducible rfl)); (try simp only [List.setIfInBounds_toArray, List.set_cons_zero, List.set_cons_succ])
              refine tk_yes (i := 3) (v := ?_) rfl rfl (by kernel_rfl) (by kernel_rfl) (by kernel_rfl) (fun _ _ _ _ h => h) (by kernel_rfl) ?_ (by assumption) ?_; rotate_left; (intro wq hSw; (try dsimp only at hSw); go_simp; (try with_reducible rfl)); (try simp only [List.setIfInBounds_toArray, List.set_cons_zero, List.set_cons_succ])
              refine tk_yes (i := 4) (v := ?_) rfl rfl (by kernel_rfl) (by kernel_rfl) (by kernel_rfl) (fun _ _ _ _ h => h) (by kernel_rfl) ?_ (by assumption) ?_; rotate_left; (intro wq hSw; (try dsimp only at hSw); go_simp; (try with_reducible rfl)); (try simp only [List.setIfInBounds_toArray, List.set_cons_zero, List.set_cons_succ])
              refine tk_yes (i := 5) (v := ?_) rfl rfl (by kernel_rfl) (by kernel_rfl) (by kernel_rfl) (fun _ _ _ _ h => h) (by kernel_rfl) ?_ (by assumption) ?_; rotate_left; (intro wq hSw; (try dsimp only at hSw); go_simp; (try with_reducible rfl)); (try simp only [List.setIfInBounds_toArray, List.set_cons_zero, List.set_cons_succ])
              refine tk_yes (i := 6) (v := ?_) rfl rfl (by kernel_rfl) (by kernel_rfl) (by kernel_rfl) (fun _ _ _ _ h => h) (by kernel_rfl) ?_ (by assumption) ?_; rotate_left; (intro wq hSw; (try dsimp only at hSw); go_simp; (try with_reducible rfl)); (try simp only [List.setIfInBounds_toArray, List.set_cons_zero, List.set_cons_succ])
              refine tk_yes (i := 7) (v := ?_) rfl rfl (by kernel_rfl) (by kernel_rfl) (by kernel_rfl) (fun _ _ _ _ h => h) (by kernel_rfl) ?_ (by assumption) ?_; rotate_left; (intro wq hSw; (try dsimp only at hSw); go_simp; (try with_reducible rfl)); (try simp only [List.setIfInBounds_toArray, List.set_cons_zero, List.set_cons_succ])
              refine tk_yes (i := 8) (v := ?_) rfl rfl (by kernel_rfl) (by kernel_rfl) (by kernel_rfl) (fun _ _ _ _ h => h) (by kernel_rfl) ?_ (by assumption) ?_; rotate_left; (intro wq hSw; (try dsimp only at hSw); go_simp; (try with_reducible rfl)); (try simp only [List.setIfInBounds_toArray, List.set_cons_zero, List.set_cons_succ])
              refine wpAnyH_all (rs := [9]) (by kernel_rfl) (by simp) (fun i hi => ?_); obtain rfl : i = 9 := (by simpa using hi); refine wpOp_step (by rfl) (fun K hK => ?_)
              go_simp
              go_at_call 26
              refine (l1In_any _ _ _ _).mono ?_
              rintro e w2 ⟨rfl, rfl⟩
              refine hK _ _ ⟨S0, ?_⟩
              (try simp only [Act.put, List.setIfInBounds_toArray, List.set_cons_zero, List.set_cons_succ])
              clear hw1
              cases hin : decide ((0 : Int) ≤ k ∧ k ≤ (n : Int) - 1)
              · have hno := inR_no (h := h) HK.out (by rw [HL.out]; simp at hin; omega)
                have HZ := Lib.hid (HBAD.out (by rw [HCE.out, hno]; rfl))
                clear hno
                refine tk_yes (i := 10) (v := ?_) rfl rfl (by kernel_rfl) (by kernel_rfl) (by kernel_rfl) (fun _ _ _ _ h => h) (by kernel_rfl) ?_ (by assumption) ?_; rotate_left; (intro wq hSw; (try dsimp only at hSw); go_simp; (try with_reducible rfl)); (try simp only [List.setIfInBounds_toArray, List.set_cons_zero, List.set_cons_succ])
                refine wpAnyH_done (by kernel_rfl) ?_ _
                refine NoPanic.normal ?_
                go_wp2_with fail
                go_ret
                exact ⟨ret_bool HZ.out.symm, bb2.drew⟩
              · refine tk_yes (i := 10) (v := ?_) rfl rfl (by kernel_rfl) (by kernel_rfl) (by kernel_rfl) (fun _ _ _ _ h => h) (by kernel_rfl) ?_ (by assumption) ?_; rotate_left; (intro wq hSw; (try dsimp only at hSw); go_simp; (try with_reducible rfl)); (try simp only [List.setIfInBounds_toArray, List.set_cons_zero, List.set_cons_succ])
                refine wpAnyH_done (by kernel_rfl) ?_ _
                refine NoPanic.normal ?_
                have hin2 : 0 ≤ k ∧ k ≤ (n : Int) - 1 := by simpa using hin
                obtain ⟨i, rfl⟩ : ∃ i : Nat, k = i := ⟨k.toNat, by omega⟩
                have hi : i < n := by omega
                obtain ⟨v, hv, hv0, hvl⟩ := cnts_le (l := (h.slots ++ (h.cells.take p).flatMap (·.parts)) ++ x.parts.take r) hi
                have hvb : v ≤ 1048576 := by have := HBD.out; have := List.length_take_le r x.parts; rw [List.length_append, List.length_take, HPL.out] at hvl; omega
                obtain ⟨_, _, v', e1, _, hv', hcv⟩ := (o2.reads encI_len).atI hi
                injection e1 with e1; injection e1 with e1 e2; subst e1 e2
                rw [hv] at hv'; injection hv' with hv'; subst hv'
                rw [Nat.zero_add] at hcv
                have zf := (o2.fil).1.frozen i
                have HV := Lib.hid hv
                have i1 : (i : Int) < (n : Int) := by omega
                have i0 : (0 : Int) ≤ (i : Int) := by omega
                clear hv hvl hin hin2 S0 hH
                have d9 : wr.drew.cell? ⟨wo.heap.size, 9, none⟩ = some (.slice (some ⟨b3, o3, none⟩) nq cq) := y9
                have dk : wr.drew.cell? ⟨b3, o3 + r, none⟩ = some (.int .i64 (i : Int)) := hck
                have dv : wr.drew.cell? ⟨w.heap.size + 1, i, none⟩ = some (.int .i64 v) := hcv
                have dz : wr.drew.frozen? ⟨w.heap.size + 1, i, none⟩ = false := zf
                have O2 := o2.dw
                have K2 := kh2.dw
                have KB := kb.dw
                have B2 := bb2.drew
                generalize wr.drew = wd at d9 dk dv dz O2 K2 KB B2 ⊢
                have yk := KB.lt
                have yh2 := K2.lt
                have yb3 : b3 < wd.heap.size := by have := B2.size; omega
                clear y0 y1 y2 y3 y4 y5 y6 y7 y8 y9 g0 g1 g2 g3 hcv hck zf o2 kh2 kb bb2 z2
                go_wp2_with fail
                go_still_tail 16, (by kernel_rfl)
                go_wp2_with fail
                go_roundw
                case rel =>
                  have o6 := Own.set_ encI_len O2.dw i 0 v (v + 1) (.int .i64 (v + 1)) HV.out (by omega) rfl
                  rw [Nat.mul_one, Nat.add_zero] at o6
                  have hvc : v = ((List.count (i : Int) ((h.slots ++ (h.cells.take p).flatMap (·.parts)) ++ x.parts.take r) : Nat) : Int) := by
                    have := cnts_at ((h.slots ++ (h.cells.take p).flatMap (·.parts)) ++ x.parts.take r) hi
                    rw [HV.out] at this; injection this
                  refine ⟨r + 1, by omega, by go_num, ?_, ?_, ?_, ?_, ?_⟩
                  · rw [take_snoc' HK.out, ← List.append_assoc, ← cnts_snoc _ hi, ← hvc]; exact o6
                  · exact all_snoc HK.out HAQ.out (by simp [inR]; rw [HL.out]; omega)
                  · exact K2.dw.pk (by simp only; omega)
                  · exact KB.dw.pk (by simp only; omega)
                  · exact bel_set B2.drew (by simp only; omega)
                case measure => simp [intOf]; omega
            · obtain rfl : r = nq := by omega
              have e1 : h.slots ++ (h.cells.take (p + 1)).flatMap (·.parts) = (h.slots ++ (h.cells.take p).flatMap (·.parts)) ++ x.parts.take r := by
                rw [take_snoc' HX.out, List.flatMap_append, List.append_assoc, List.take_of_length_le (l := x.parts) (by rw [HPL.out]; omega)]; simp
              have E1 := Lib.hid e1
              have HPA : Hid (x.parts.all (inR h) = true) := Lib.hid (by rw [← HAQ.out, List.take_of_length_le (by rw [HPL.out]; omega)])
              clear e1
              by_cases hc2 : np = 0
              rotate_left
              · have t2 : decide ((0 : Int) < (np : Int)) = true := by simp; omega
                have t2n : decide (0 < np) = true := by simp; omega
                have HZ := Lib.hid (HBAD.out (by rw [HCE.out]; simp [hc2]))
                clear hc2
                go_wp2_with fail
                go_ret
                exact ⟨ret_bool HZ.out.symm, bb2⟩
              have t2 : decide ((0 : Int) < (np : Int)) = false := by simp; omega
              have t2n : decide (0 < np) = false := by simp; omega
              have HC2 := Lib.hid hc2
              clear hc2
              by_cases hc3 : x.count = 0
              rotate_left
              · have t3 : (x.count == 0) = false := by simpa using hc3
                have HY := Lib.hid (show celS h x = true by rw [HCE.out, HPA.out]; simp [hc3, HC2.out])
                clear hc3
                go_wp2_with fail
                go_roundw
                case rel => exact ⟨p + 1, by omega, by go_num, all_snoc HX.out HAL.out HY.out, by rw [E1.out]; exact o2, kh2, bb2⟩
                case measure => simp [intOf]; omega
              have t3 : (x.count == 0) = true := by simpa using hc3
              have HC3 := Lib.hid hc3
              clear hc3
              by_cases hc4 : r = 0
              rotate_left
              · have t4 : decide ((0 : Int) < (r : Int)) = true := by simp; omega
                have t4n : decide (0 < r) = true := by simp; omega
                have HZ := Lib.hid (HBAD.out (by rw [HCE.out]; simp [hc4, HC3.out]))
                clear hc4
                go_wp2_with fail
                go_ret
                exact ⟨ret_bool HZ.out.symm, bb2⟩
              have t4 : decide ((0 : Int) < (r : Int)) = false := by simp; omega
              have t4n : decide (0 < r) = false := by simp; omega
              have HC4 := Lib.hid hc4
              have rvv := rep_in RV.out bb2 z2
              clear hc4
              go_wp2_with fail
              refine (l4SameZ_any x.value _ _ rvv).mono ?_
              rintro e w3 ⟨rfl, hb3⟩
              cases hiz : isZ x.value
              · have HZ := Lib.hid (HBAD.out (by rw [HCE.out, hiz]; simp [HC3.out]))
                go_wp2_with fail
                go_ret
                exact ⟨ret_bool HZ.out.symm, bth bb2 hb3⟩
              · have HY := Lib.hid (show celS h x = true by rw [HCE.out, HPA.out, hiz]; simp [HC2.out, HC4.out])
                go_wp2_with fail
                go_roundw
                case rel => exact ⟨p + 1, by omega, by go_num, all_snoc HX.out HAL.out HY.out, by rw [E1.out]; exact o2.below hb3, kh2.next hb3, bth bb2 hb3⟩
                case measure => simp [intOf]; omega
        · obtain rfl : p = n := by omega
          rw [List.take_of_length_le (by rw [HL.out]; omega)] at o0
          have ha := HAL.out
          rw [List.take_of_length_le (by rw [HL.out]; omega)] at ha
          have HCA := Lib.hid ha
          have o0 : Own encI 1 3 wr (w.heap.size + 1) (some ⟨w.heap.size + 1, 0, none⟩) p p (cnts p (refs h)) := o0
          clear ha HAL
          go_wp2_with fail
          clear g0 g1 g2 g3
          go_loopw [8] (fun v wr => ∃ t : Nat, t ≤ p ∧ v = .int .i64 t ∧ (∀ i x, i < t → h.cells[i]? = some x → decide ((cnts p (refs h))[i]? = some x.count) = true) ∧ Own encI 1 3 wr (w.heap.size + 1) (some ⟨w.heap.size + 1, 0, none⟩) p p (cnts p (refs h)) ∧ Blk wr w.heap.size 48 [.slice A p c, .slice Am q cm, .slice As ns ca, .int .i64 h.copies] ∧ Below w.heap.size w wr) (fun v _ => p - (intOf v).toNat)
          case atStart => exact ⟨0, by omega, rfl, fun i x hi => by omega, o0, kh, bb⟩
          case round =>
            clear kh o0 bb yh z0
            obtain ⟨t, ht, rfl, hok, o0, kh, bb⟩ := hrel
            obtain ⟨g0, g1, g2, g3⟩ := kh.c4
            have HOK := Lib.hid hok
            have z0 := bb.size
            have yh := kh.lt
            have yg : w.heap.size + 1 < wr.heap.size := o0.lt.2
            clear hok
            by_cases hlt : t < p
            · obtain ⟨b, off, x, Ai, ni, ci, Ap, np, cp, An, nn, cn, Ac, nc, cc, Al, nl, cl, Aq, nq, cq, rfl, hbl, hx, hrx, e0, e1, e2, e3, e4, e5, e6, e7, e8, e9⟩ := Cell_at (rep_below rc bb) hlt
              obtain ⟨_, _, v, ev1, _, hv, hcv⟩ := (Own.reads (w := wr) encI_len o0).atI hlt
              injection ev1 with ev1; injection ev1 with ev1 ev2; subst ev1 ev2
              rw [Nat.zero_add] at hcv
              have it : (t : Int) < (p : Int) := by omega
              have it0 : (0 : Int) ≤ (t : Int) := by omega
              have HX := Lib.hid hx
              have HV := Lib.hid hv
              have S0 : (fun W => W.cell? ⟨w.heap.size + 1, t, none⟩ = some (.int .i64 v) ∧ W.cell? ⟨w.heap.size, 0, none⟩ = some (.slice (some ⟨b, off, none⟩) p c) ∧ W.cell? ⟨b, off + t * 10, none⟩ = some (.int .i64 x.count)) wr.drew := ⟨hcv, g0, e0⟩
              simp only at S0
              clear hx hv e1 e2 e3 e4 e5 e6 e7 e8 e9 hrx
              by_cases hc1 : v = x.count
              · subst hc1
                have t1 : (x.count != x.count) = false := by simp
                have HY := Lib.hid (show decide ((cnts p (refs h))[t]? = some x.count) = true by rw [HV.out]; simp)
                go_wp2_with fail
                refine wp_region_noPanic ?_
                refine wp_region_held_drew (S := (fun W => W.cell? ⟨w.heap.size + 1, t, none⟩ = some (.int .i64 x.count) ∧ W.cell? ⟨w.heap.size, 0, none⟩ = some (.slice (some ⟨b, off, none⟩) p c) ∧ W.cell? ⟨b, off + t * 10, none⟩ = some (.int .i64 x.count))) (by kernel_rfl) S0 (fun hH => ?_)
                refine tk_yes (i := 0) (v := ?_) rfl rfl (by kernel_rfl) (by kernel_rfl) (by kernel_rfl) (fun _ _ _ _ h => h) (by kernel_rfl) ?_ (by assumption) ?_; rotate_left; (intro wq hSw; (try dsimp only at hSw); go_simp; (try with_reducible rfl)); (try simp only [List.setIfInBounds_toArray, List.set_cons_zero, List.set_cons_succ])
                refine tk_yes (i := 1) (v := ?_) rfl rfl (by kernel_rfl) (by kernel_rfl) (by kernel_rfl) (fun _ _ _ _ h => h) (by kernel_rfl) ?_ (by assumption) ?_; rotate_left; (intro wq hSw; (try dsimp only at hSw); go_simp; (try with_reducible rfl)); (try simp only [List.setIfInBounds_toArray, List.set_cons_zero, List.set_cons_succ])
                refine tk_yes (i := 2) (v := ?_) rfl rfl (by kernel_rfl) (by kernel_rfl) (by kernel_rfl) (fun _ _ _ _ h => h) (by kernel_rfl) ?_ (by assumption) ?_; rotate_left; (intro wq hSw; (try dsimp only at hSw); go_simp; (try with_reducible rfl)); (try simp only [List.setIfInBounds_toArray, List.set_cons_zero, List.set_cons_succ])
                refine tk_yes (i := 3) (v := ?_) rfl rfl (by kernel_rfl) (by kernel_rfl) (by kernel_rfl) (fun _ _ _ _ h => h) (by kernel_rfl) ?_ (by assumption) ?_; rotate_left; (intro wq hSw; (try dsimp only at hSw); go_simp; (try with_reducible rfl)); (try simp only [List.setIfInBounds_toArray, List.set_cons_zero, List.set_cons_succ])
                refine tk_yes (i := 4) (v := ?_) rfl rfl (by kernel_rfl) (by kernel_rfl) (by kernel_rfl) (fun _ _ _ _ h => h) (by kernel_rfl) ?_ (by assumption) ?_; rotate_left; (intro wq hSw; (try dsimp only at hSw); go_simp; (try with_reducible rfl)); (try simp only [List.setIfInBounds_toArray, List.set_cons_zero, List.set_cons_succ])
                refine tk_yes (i := 5) (v := ?_) rfl rfl (by kernel_rfl) (by kernel_rfl) (by kernel_rfl) (fun _ _ _ _ h => h) (by kernel_rfl) ?_ (by assumption) ?_; rotate_left; (intro wq hSw; (try dsimp only at hSw); go_simp; (try with_reducible rfl)); (try simp only [List.setIfInBounds_toArray, List.set_cons_zero, List.set_cons_succ])
                refine tk_yes (i := 6) (v := ?_) rfl rfl (by kernel_rfl) (by kernel_rfl) (by kernel_rfl) (fun _ _ _ _ h => h) (by kernel_rfl) ?_ (by assumption) ?_; rotate_left; (intro wq hSw; (try dsimp only at hSw); go_simp; (try with_reducible rfl)); (try simp only [List.setIfInBounds_toArray, List.set_cons_zero, List.set_cons_succ])
                refine tk_yes (i := 7) (v := ?_) rfl rfl (by kernel_rfl) (by kernel_rfl) (by kernel_rfl) (fun _ _ _ _ h => h) (by kernel_rfl) ?_ (by assumption) ?_; rotate_left; (intro wq hSw; (try dsimp only at hSw); go_simp; (try with_reducible rfl)); (try simp only [List.setIfInBounds_toArray, List.set_cons_zero, List.set_cons_succ])
                refine tk_yes (i := 8) (v := ?_) rfl rfl (by kernel_rfl) (by kernel_rfl) (by kernel_rfl) (fun _ _ _ _ h => h) (by kernel_rfl) ?_ (by assumption) ?_; rotate_left; (intro wq hSw; (try dsimp only at hSw); go_simp; (try with_reducible rfl)); (try simp only [List.setIfInBounds_toArray, List.set_cons_zero, List.set_cons_succ])
                refine tk_yes (i := 9) (v := ?_) rfl rfl (by kernel_rfl) (by kernel_rfl) (by kernel_rfl) (fun _ _ _ _ h => h) (by kernel_rfl) ?_ (by assumption) ?_; rotate_left; (intro wq hSw; (try dsimp only at hSw); go_simp; (try with_reducible rfl)); (try simp only [List.setIfInBounds_toArray, List.set_cons_zero, List.set_cons_succ])
                refine tk_yes (i := 10) (v := ?_) rfl rfl (by kernel_rfl) (by kernel_rfl) (by kernel_rfl) (fun _ _ _ _ h => h) (by kernel_rfl) ?_ (by assumption) ?_; rotate_left; (intro wq hSw; (try dsimp only at hSw); go_simp; (try with_reducible rfl)); (try simp only [List.setIfInBounds_toArray, List.set_cons_zero, List.set_cons_succ])
                refine wpAnyH_done (by kernel_rfl) ?_ _
                refine NoPanic.normal ?_
                go_wp2_with fail
                go_roundw
                case rel => exact ⟨t + 1, by omega, by go_num, ok_snoc HOK.out HX.out HY.out, o0.dw, kh.dw, bb.drew⟩
                case measure => simp [intOf]; omega
              · have t1 : (v != x.count) = true := by simp; omega
                have t1b : (v == x.count) = false := by simp; omega
                have t1c : decide (v = x.count) = false := by simp; omega
                have HZ := Lib.hid (heapS_no (h := h) (.inr (.inr (.inr (.inr (allFrom_no HX.out (by rw [HL.out, HV.out]; simpa using hc1)))))))
                clear hc1
                go_wp2_with fail
                refine wp_region_noPanic ?_
                refine wp_region_held_drew (S := (fun W => W.cell? ⟨w.heap.size + 1, t, none⟩ = some (.int .i64 v) ∧ W.cell? ⟨w.heap.size, 0, none⟩ = some (.slice (some ⟨b, off, none⟩) p c) ∧ W.cell? ⟨b, off + t * 10, none⟩ = some (.int .i64 x.count))) (by kernel_rfl) S0 (fun hH => ?_)
                refine tk_yes (i := 0) (v := ?_) rfl rfl (by kernel_rfl) (by kernel_rfl) (by kernel_rfl) (fun _ _ _ _ h => h) (by kernel_rfl) ?_ (by assumption) ?_; rotate_left; (intro wq hSw; (try dsimp only at hSw); go_simp; (try with_reducible rfl)); (try simp only [List.setIfInBounds_toArray, List.set_cons_zero, List.set_cons_succ])
                refine tk_yes (i := 1) (v := ?_) rfl rfl (by kernel_rfl) (by kernel_rfl) (by kernel_rfl) (fun _ _ _ _ h => h) (by kernel_rfl) ?_ (by assumption) ?_; rotate_left; (intro wq hSw; (try dsimp only at hSw); go_simp; (try with_reducible rfl)); (try simp only [List.setIfInBounds_toArray, List.set_cons_zero, List.set_cons_succ])
                refine tk_yes (i := 2) (v := ?_) rfl rfl (by kernel_rfl) (by kernel_rfl) (by kernel_rfl) (fun _ _ _ _ h => h) (by kernel_rfl) ?_ (by assumption) ?_; rotate_left; (intro wq hSw; (try dsimp only at hSw); go_simp; (try with_reducible rfl)); (try simp only [List.setIfInBounds_toArray, List.set_cons_zero, List.set_cons_succ])
                refine tk_yes (i := 3) (v := ?_) rfl rfl (by kernel_rfl) (by kernel_rfl) (by kernel_rfl) (fun _ _ _ _ h => h) (by kernel_rfl) ?_ (by assumption) ?_; rotate_left; (intro wq hSw; (try dsimp only at hSw); go_simp; (try with_reducible rfl)); (try simp only [List.setIfInBounds_toArray, List.set_cons_zero, List.set_cons_succ])
                refine tk_yes (i := 4) (v := ?_) rfl rfl (by kernel_rfl) (by kernel_rfl) (by kernel_rfl) (fun _ _ _ _ h => h) (by kernel_rfl) ?_ (by assumption) ?_; rotate_left; (intro wq hSw; (try dsimp only at hSw); go_simp; (try with_reducible rfl)); (try simp only [List.setIfInBounds_toArray, List.set_cons_zero, List.set_cons_succ])
                refine tk_yes (i := 5) (v := ?_) rfl rfl (by kernel_rfl) (by kernel_rfl) (by kernel_rfl) (fun _ _ _ _ h => h) (by kernel_rfl) ?_ (by assumption) ?_; rotate_left; (intro wq hSw; (try dsimp only at hSw); go_simp; (try with_reducible rfl)); (try simp only [List.setIfInBounds_toArray, List.set_cons_zero, List.set_cons_succ])
                refine tk_yes (i := 6) (v := ?_) rfl rfl (by kernel_rfl) (by kernel_rfl) (by kernel_rfl) (fun _ _ _ _ h => h) (by kernel_rfl) ?_ (by assumption) ?_; rotate_left; (intro wq hSw; (try dsimp only at hSw); go_simp; (try with_reducible rfl)); (try simp only [List.setIfInBounds_toArray, List.set_cons_zero, List.set_cons_succ])
                refine tk_yes (i := 7) (v := ?_) rfl rfl (by kernel_rfl) (by kernel_rfl) (by kernel_rfl) (fun _ _ _ _ h => h) (by kernel_rfl) ?_ (by assumption) ?_; rotate_left; (intro wq hSw; (try dsimp only at hSw); go_simp; (try with_reducible rfl)); (try simp only [List.setIfInBounds_toArray, List.set_cons_zero, List.set_cons_succ])
                refine tk_yes (i := 8) (v := ?_) rfl rfl (by kernel_rfl) (by kernel_rfl) (by kernel_rfl) (fun _ _ _ _ h => h) (by kernel_rfl) ?_ (by assumption) ?_; rotate_left; (intro wq hSw; (try dsimp only at hSw); go_simp; (try with_reducible rfl)); (try simp only [List.setIfInBounds_toArray, List.set_cons_zero, List.set_cons_succ])
                refine tk_yes (i := 9) (v := ?_) rfl rfl (by kernel_rfl) (by kernel_rfl) (by kernel_rfl) (fun _ _ _ _ h => h) (by kernel_rfl) ?_ (by assumption) ?_; rotate_left; (intro wq hSw; (try dsimp only at hSw); go_simp; (try with_reducible rfl)); (try simp only [List.setIfInBounds_toArray, List.set_cons_zero, List.set_cons_succ])
                refine tk_yes (i := 10) (v := ?_) rfl rfl (by kernel_rfl) (by kernel_rfl) (by kernel_rfl) (fun _ _ _ _ h => h) (by kernel_rfl) ?_ (by assumption) ?_; rotate_left; (intro wq hSw; (try dsimp only at hSw); go_simp; (try with_reducible rfl)); (try simp only [List.setIfInBounds_toArray, List.set_cons_zero, List.set_cons_succ])
                refine wpAnyH_done (by kernel_rfl) ?_ _
                refine NoPanic.normal ?_
                go_wp2_with fail
                go_ret
                exact ⟨ret_bool HZ.out.symm, bb.drew⟩
            · obtain rfl : t = p := by omega
              go_wp2_with fail
              go_ret
              exact ⟨ret_bool (heapS_yes (by rw [HL1.out, HL2.out]; exact HNN.out) (by omega) HNS.out HCA.out (allFrom_yes (fun i x hi hx => by rw [HL.out]; exact HOK.out i x (by rw [HL.out] at hi; exact hi) hx))).symm, bb⟩
end Go.Proofs.Ytekcpadlmfaihaa
