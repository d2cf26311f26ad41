/- The law FnExactIsHeap, walked out of the contracts of its callees. -/
import Derived.Test.YtekcpadlmfaihaaJT
import Derived.Test.YtekcpadlmfaihaaJU
set_option linter.unusedSimpArgs false
set_option linter.unusedVariables false
namespace Go.Proofs.Ytekcpadlmfaihaa
open Go.RowKit
set_option maxRecDepth 100000 in
set_option maxHeartbeats 4000000 in
theorem fnExactIsHeap_walk (x : Hp) (cs : List Value) (w : World) (h : rep w w.heap.size x.toD cs) :
    Calls Try.prog 4 #[av cs] w fun e w' => e = .returned (.bool true) ∧ Below w.heap.size w w' := by
  obtain ⟨Ai, ni, ci, Ap, np, cp, An, nn, cn, rfl, rc, rn, rs, wc⟩ := Heap_open h
  have q0 := (Below.refl w.heap.size w).alloc (Nat.le_refl _) (.cells #[.slice Ai ni ci, .slice Ap np cp, .slice An nn cn, .int .i64 x.copies] 43)
  have kA := Blk.new_ w 43 #[.slice Ai ni ci, .slice Ap np cp, .slice An nn cn, .int .i64 x.copies]
  go_enter Try.func4, Try.ntmps4
  go_wp2_with fail
  refine (szHeap_any x _ _ _ (rep_next h q0) (by omega) (by omega)).mono ?_
  rintro e w1 ⟨rfl, hb1⟩
  have q1 := bth q0 hb1
  have kA := kA.next hb1
  obtain ⟨hc1, _⟩ := bcell hb1
  have z1 := hb1.size
  simp only [wsize_alloc] at hc1 z1
  have y1 : w.heap.size < w1.heap.size := by omega
  by_cases hsz : lft (szD x.toD) 1048576 < 0
  · go_wp2_with fail
    go_ret
    exact ⟨rfl, q1⟩
  have hz : szD x.toD ≤ 1048576 := by unfold lft at hsz; split at hsz <;> omega
  have hne : (heapOK x != heapOK x) = false := by simp
  go_wp2_with fail
  refine (toHeap_any x _ _ (rep_in h q1 q1.size) hz).mono ?_
  rintro e w2 ⟨cs2, F2, rfl, o2, fr2, hb2⟩
  have q2 := bth q1 hb2
  have kA := kA.next hb2
  obtain ⟨hc2, _⟩ := bcell hb2
  have z2 := hb2.size
  have y2 : w.heap.size < w2.heap.size := by omega
  have r2 := own_rep _ _ _ _ o2
  obtain ⟨Ai2, ni2, ci2, Ap2, np2, cp2, An2, nn2, cn2, rfl, _⟩ := Heap_open r2
  go_wp2_with fail
  refine (specIsHeap_any x hz _ _ r2).mono ?_
  rintro e w3 ⟨rfl, hb3⟩
  have q3 := bth q2 hb3
  have kA := kA.next hb3
  obtain ⟨hc3, _⟩ := bcell hb3
  have z3 := hb3.size
  have y3 : w.heap.size < w3.heap.size := by omega
  go_wp2_with fail
  refine (toHeap_any x _ _ (rep_in h q3 q3.size) hz).mono ?_
  rintro e w4 ⟨cs4, F4, rfl, o4, fr4, hb4⟩
  have q4 := bth q3 hb4
  have kA := kA.next hb4
  have r4 := own_rep _ _ _ _ o4
  obtain ⟨Ai4, ni4, ci4, Ap4, np4, cp4, An4, nn4, cn4, rfl, _⟩ := Heap_open r4
  have q5 := (Below.refl w4.heap.size w4).alloc (Nat.le_refl _) (.cells #[.slice Ai4 ni4 ci4, .slice Ap4 np4 cp4, .slice An4 nn4 cn4, .int .i64 x.copies] 48)
  have kB := Blk.new_ w4 48 #[.slice Ai4 ni4 ci4, .slice Ap4 np4 cp4, .slice An4 nn4 cn4, .int .i64 x.copies]
  have kA := kA.next q5
  clear hc1 hc2 hc3
  go_wp2_with fail
  refine (implIsHeap_any x hz _ _ (rep_next r4 q5)).mono ?_
  rintro e w5 ⟨rfl, hb5⟩
  have q6 := bth (bth q4 q5) hb5
  have kA := kA.next hb5
  have kB := kB.next hb5
  have r5 := rep_next (rep_next r4 q5) hb5
  have h5 := rep_in h q6 q6.size
  go_wp2_with fail
  go_region_held3 (fun W => (W.cell? ⟨w.heap.size, 0, none⟩ = some (.slice Ai ni ci) ∧ W.cell? ⟨w.heap.size, 1, none⟩ = some (.slice Ap np cp) ∧ W.cell? ⟨w.heap.size, 2, none⟩ = some (.slice An nn cn) ∧ W.cell? ⟨w.heap.size, 3, none⟩ = some (.int .i64 x.copies)) ∧ W.cell? ⟨w4.heap.size, 0, none⟩ = some (.slice Ai4 ni4 ci4) ∧ W.cell? ⟨w4.heap.size, 1, none⟩ = some (.slice Ap4 np4 cp4) ∧ W.cell? ⟨w4.heap.size, 2, none⟩ = some (.slice An4 nn4 cn4) ∧ W.cell? ⟨w4.heap.size, 3, none⟩ = some (.int .i64 x.copies))
    (first | exact ⟨kA.c4, kB.c4⟩ | exact ⟨(Blk.next (w := w5.drew) kA hb6).c4, (Blk.next (w := w5.drew) kB hb6).c4⟩ | exact ⟨((Blk.next (w := w5.drew) kA hb6).next hb7).c4, ((Blk.next (w := w5.drew) kB hb6).next hb7).c4⟩)
    (first | (go_at_call 14; refine (toHeap_any x _ _ (by first | with_reducible exact h5 | exact rep_drew h5) hz).mono ?_; rintro e w6 ⟨cs6, F6, rfl, o6, fr6, hb6⟩) | (go_at_call 16; refine (eqHeap_any x _ _ _ (rep_next (w := w5.drew) (rep_drew r5) hb6) (own_rep _ _ _ _ o6)).mono ?_; rintro e w7 ⟨rfl, hb7⟩))
  go_wp2_with fail
  go_ret
  exact ⟨rfl, bth (bth q6.drew hb6) hb7⟩
theorem open_heap {w : World} {B : Nat} {d : D} {t : TypeId} {cs : List Value} (h : shp Try.prog d t) (ht : t = 43) (hr : rep w B d cs) : ∃ (x : Hp) (cs' : List Value), cs = cs' ∧ rep w B x.toD cs' := by
  subst ht
  obtain ⟨x, rfl⟩ := Heap_shp h
  exact ⟨x, cs, rfl, hr⟩
end Go.Proofs.Ytekcpadlmfaihaa
