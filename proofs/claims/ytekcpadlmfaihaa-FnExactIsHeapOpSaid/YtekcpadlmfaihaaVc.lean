/- Depth and cells of vectors; functions in them: what nest, cells, hasFunction and their kin return. -/
import Derived.Test.YtekcpadlmfaihaaVb
namespace Go.Proofs.Ytekcpadlmfaihaa
open Go.RowKit
def nestV : Nat → Vec → Nat
  | 0, _ => 1
  | r + 1, v => v.parts.foldl (fun o p => max o (1 + nestV r p)) 0
theorem foldl_max_le {α : Type} (f : α → Nat) (l : List α) (o M : Nat) (h : ∀ x ∈ l, f x ≤ M) (ho : o ≤ M) : l.foldl (fun o p => max o (f p)) o ≤ M := by
  induction l generalizing o with
  | nil => exact ho
  | cons a t ih =>
    rw [List.foldl_cons]
    exact ih _ (fun x hx => h x (List.mem_cons_of_mem _ hx)) (by have := h a List.mem_cons_self; omega)
theorem nestV_le (r : Nat) (v : Vec) : nestV r v ≤ r + 1 := by
  induction r generalizing v with
  | zero => simp [nestV]
  | succ r ih => rw [nestV]; exact foldl_max_le (fun p => 1 + nestV r p) _ _ _ (fun x _ => by have := ih x; omega) (by omega)
theorem foldl_snoc {α β : Type} (f : β → α → β) (o : β) {l : List α} {k : Nat} {x : α} (h : l[k]? = some x) : (l.take (k + 1)).foldl f o = f ((l.take k).foldl f o) x := by
  rw [take_snoc' h, List.foldl_append]; rfl
set_option maxRecDepth 100000 in
set_option maxHeartbeats 2000000 in
theorem nest_any (r : Nat) (hr : r ≤ 100) : ∀ (v : Vec) (cs : List Value) (w : World), rep w w.heap.size v.toD cs →
    Calls Try.prog 76 #[av cs, .int .i64 r] w fun e w' => e = .returned (.int .i64 (nestV r v)) ∧ Below w.heap.size w w' := by
  induction r with
  | zero =>
    intro v cs w h
    obtain ⟨Ai, ni, ci, Ap, np, cp, An, nn, cn, Ac, nc, cc, Al, nl, cl, rfl, hv⟩ := vec_open h
    go_enter Try.func76, Try.ntmps76
    go_wp2_with fail
    go_ret
    exact ⟨rfl, (Below.refl _ _).alloc (Nat.le_refl _) _⟩
  | succ r ih =>
    intro v cs w h
    have ih := ih (by omega)
    obtain ⟨Ai, ni, ci, Ap, np, cp, An, nn, cn, Ac, nc, cc, Al, nl, cl, rfl, hv⟩ := vec_open h
    have q0 := (Below.refl w.heap.size w).alloc (Nat.le_refl _) (.cells (vc v Ai ni ci Ap np cp An nn cn Ac nc cc Al nl cl).toArray 34)
    have hpl := hv.pab
    unfold maxLen at hpl
    have HPL := Lib.hid hpl.2.2
    have hpb : np ≤ 9223372036854775807 := by omega
    have HIH := Lib.hid ih
    clear ih hpl
    have hne : ((r : Int) + 1 == 0) = false := by simp; omega
    rw [show (((r + 1 : Nat)) : Int) = (r : Int) + 1 from rfl]
    go_enter Try.func76, Try.ntmps76
    go_wp2_with fail
    go_loopw [5, 13] (fun u i wr => ∃ k m : Nat, k ≤ np ∧ i = .int .i64 k ∧ u = .int .i64 m ∧ m = (v.parts.take k).foldl (fun o p => max o (1 + nestV r p)) 0 ∧ m ≤ 102 ∧ Below w.heap.size w wr) (fun _ i _ => np - (intOf i).toNat)
    case atStart => exact ⟨0, 0, by omega, rfl, rfl, rfl, by omega, q0⟩
    case round =>
      obtain ⟨k, m, hk, rfl, rfl, hm, hm2, hb⟩ := hrel
      have HM := Lib.hid hm
      clear hm
      by_cases hlt : k < np
      · obtain ⟨b, off, x, Ai', ni', ci', Ap', np', cp', An', nn', cn', Ac', nc', cc', Al', nl', cl', rfl, hbl, hx, hrx, hvx, c0, c1, c2, c3, c4, c5, c6, c7⟩ := parts_at (rep_below hv.pa hb) hlt
        have HX := Lib.hid (foldl_snoc (fun o p => max o (1 + nestV r p)) 0 hx)
        have hnl := nestV_le r x
        clear hx
        have q1 := hb.alloc hb.size (.cells (vc x Ai' ni' ci' Ap' np' cp' An' nn' cn' Ac' nc' cc' Al' nl' cl').toArray 34)
        go_wp2_with fail
        refine (HIH.out x _ _ (rep_in hrx (Below.alloc (Below.refl _ _) hb.size _) (by simp only [wsize_alloc]; have := hb.size; omega))).mono ?_
        rintro e w1 ⟨rfl, hb1⟩
        go_wp2_with fail
        all_goals
          go_roundw
          case rel => exact ⟨k + 1, (v.parts.take (k + 1)).foldl (fun o p => max o (1 + nestV r p)) (0 : Nat), by omega, by go_num, by rw [HX.out, ← HM.out]; congr 1; omega, rfl, by rw [HX.out, ← HM.out]; omega, bth q1 hb1⟩
          case measure => simp [intOf]; omega
      · obtain rfl : k = np := by omega
        go_wp2_with fail
        go_ret
        exact ⟨ret_int (by rw [nestV, HM.out, List.take_of_length_le (by rw [HPL.out]; omega)]), hb⟩
end Go.Proofs.Ytekcpadlmfaihaa
