/- Copies of vectors by the reference: what l4Copy returns. Owned vectors taken apart; copies of no vectors. -/
import Derived.Test.YtekcpadlmfaihaaJH
import Derived.Test.YtekcpadlmfaihaaJK
import Derived.Deep.DeepCutAuto
import Derived.Test.YtekcpadlmfaihaaJG
set_option linter.unusedSimpArgs false
set_option linter.unusedVariables false
namespace Go.Proofs.Ytekcpadlmfaihaa
open Go.RowKit
def lst (b2 b5 b8 b9 b12 b13 b16 b17 b20 b25 b26 : Bool) : Array Bool := #[true, true, b2, true, true, b5, true, true, b8, b9, true, true, b12, b13, true, true, b16, b17, true, true, b20, true, true, true, true, b25, b26]
/-- What holds while l4Copy's statement is carried out, in whatever order. -/
def lcI (ps : List Vec) (v : Vec) (Ai : Option Addr) (ni ci : Nat) (Ap : Option Addr) (np cp : Nat) (An : Option Addr) (nn cn : Nat) (Ac : Option Addr) (nc cc : Nat) (Al : Option Addr) (nl cl : Nat) (w W0 : World) (l : Array Bool) (a : Act) (wx : World) : Prop := ∃ (b2 b5 b8 b9 b12 b13 b16 b17 b20 b25 b26 : Bool) (u5 u8 u11 u12 u15 u16 u19 u20 u23 u28 : Value) (F1 F2 F3 F4 F5 : List Nat),
  (l = lst b2 b5 b8 b9 b12 b13 b16 b17 b20 b25 b26 ∧ a = ⟨#[av (vc v Ai ni ci Ap np cp An nn cn Ac nc cc Al nl cl), .pointer (some ⟨w.heap.size, 0, none⟩), .pointer (some ⟨w.heap.size + 1, 0, none⟩), .pointer (some ⟨w.heap.size, 0, none⟩), .int .i64 v.kind, u5, .pointer (some ⟨w.heap.size, 1, none⟩), .slice Ai ni ci, u8, .pointer (some ⟨w.heap.size, 2, none⟩), .slice Ap np cp, u11, u12, .pointer (some ⟨w.heap.size, 3, none⟩), .slice An nn cn, u15, u16, .pointer (some ⟨w.heap.size, 4, none⟩), .slice Ac nc cc, u19, u20, .pointer (some ⟨w.heap.size, 5, none⟩), .slice Al nl cl, u23, .pointer (some ⟨w.heap.size, 6, none⟩), .int .i64 v.code, .pointer (some ⟨w.heap.size, 7, none⟩), .int .i64 v.env, u28], []⟩) ∧ (Blk wx w.heap.size 34 [.int .i64 v.kind, .slice Ai ni ci, .slice Ap np cp, .slice An nn cn, .slice Ac nc cc, .slice Al nl cl, .int .i64 v.code, .int .i64 v.env] ∧ Blk wx (w.heap.size + 1) 34 (if b26 then [.int .i64 v.kind, u8, u11, u15, u19, u23, .int .i64 v.code, .int .i64 v.env] else zv8) ∧ Below w.heap.size w wx ∧ w.heap.size + 2 ≤ wx.heap.size) ∧
  (pr Try.prog wx (v.items.map Item.toD) 31 b2 b5 u5 u8 F1 ∧ sg Try.prog wx (.sl (ps.map Vec.toD)) 32 b8 u11 F2 ∧ pr Try.prog wx (v.names.map .s) 24 b9 b12 u12 u15 F3 ∧ pr Try.prog wx (v.cls.map .s) 24 b13 b16 u16 u19 F4 ∧ pr Try.prog wx (v.levels.map .s) 24 b17 b20 u20 u23 F5) ∧
  (Fresh (w.heap.size + 2) (F1 ++ (F2 ++ (F3 ++ (F4 ++ F5)))) ∧ Lo wx.heap.size (F1 ++ (F2 ++ (F3 ++ (F4 ++ F5))))) ∧ (b25 = true → (b5 = true ∧ b8 = true ∧ b12 = true ∧ b16 = true ∧ b20 = true) ∧ u28 = .agg #[.int .i64 v.kind, u8, u11, u15, u19, u23, .int .i64 v.code, .int .i64 v.env]) ∧ (b26 = true → b25 = true)
theorem own_itm {x : Item} (h : itOK x) (w' : World) : own Try.prog w' x.toD 101 [] (encItem x) := own_item x h rfl
theorem own_st' {x : Str} (h : x.length ≤ maxLen) (w' : World) : own Try.prog w' (.s x) 9 [] (encS x) := by rw [own]; exact ⟨rfl, rfl, h⟩
theorem own_emp {w : World} {t e : TypeId} (ht : Try.prog.underlying t = some (.slice e)) : own Try.prog (w.alloc (.cells #[] e)) (.sl []) t [w.heap.size] [.slice (some ⟨w.heap.size, 0, none⟩) 0 0] := by
  rw [own]
  refine ⟨e, _, 0, 0, _, [], [], ht, rfl, rfl, by unfold maxLen; omega, ?_, rfl, by rw [List.map_nil, ownA]; exact ⟨rfl, rfl⟩⟩
  exact Own.new_ Row.len w [] #[] rfl rfl (by unfold maxLen; omega) (Nat.zero_le _) rfl
set_option maxRecDepth 100000 in
set_option maxHeartbeats 8000000 in
theorem l4Copy_of (v : Vec) (ps : List Vec) (hcp : ∀ A n c w, rep w w.heap.size (.sl (v.parts.map Vec.toD)) [.slice A n c] → Calls Try.prog 101 #[.slice A n c] w (NewSl (ps.map Vec.toD) 32 w)) (cs : List Value) (w : World) (h : rep w w.heap.size v.toD cs) (hz : szD v.toD ≤ 500000000000) :
    Calls Try.prog 80 #[av cs] w (NewSt ({ v with parts := ps } : Vec).toD 34 w) := by
  obtain ⟨Ai, ni, ci, Ap, np, cp, An, nn, cn, Ac, nc, cc, Al, nl, cl, rfl, hv⟩ := vec_open h
  have hvs := Vector_sz v
  simp only [szD, List.length_map] at hvs
  have li := hv.it.len
  have ln := hv.na.len
  have lc := hv.ca.len
  have ll := hv.la.len
  have q0 := ((Below.refl w.heap.size w).alloc (Nat.le_refl _) (.cells #[.int .i64 v.kind, .slice Ai ni ci, .slice Ap np cp, .slice An nn cn, .slice Ac nc cc, .slice Al nl cl, .int .i64 v.code, .int .i64 v.env] 34)).alloc (by simp only [wsize_alloc]; omega) (.cells zv8.toArray 34)
  have kA : Blk ((w.alloc (.cells #[.int .i64 v.kind, .slice Ai ni ci, .slice Ap np cp, .slice An nn cn, .slice Ac nc cc, .slice Al nl cl, .int .i64 v.code, .int .i64 v.env] 34)).alloc (.cells zv8.toArray 34)) w.heap.size 34 [.int .i64 v.kind, .slice Ai ni ci, .slice Ap np cp, .slice An nn cn, .slice Ac nc cc, .slice Al nl cl, .int .i64 v.code, .int .i64 v.env] := (Blk.new' (l := [.int .i64 v.kind, .slice Ai ni ci, .slice Ap np cp, .slice An nn cn, .slice Ac nc cc, .slice Al nl cl, .int .i64 v.code, .int .i64 v.env])).al
  have kR := Blk.new' (w := w.alloc (.cells #[.int .i64 v.kind, .slice Ai ni ci, .slice Ap np cp, .slice An nn cn, .slice Ac nc cc, .slice Al nl cl, .int .i64 v.code, .int .i64 v.env] 34)) (t := 34) (l := zv8)
  simp only [wsize_alloc] at kR
  have s0 : w.heap.size + 2 ≤ ((w.alloc (.cells #[.int .i64 v.kind, .slice Ai ni ci, .slice Ap np cp, .slice An nn cn, .slice Ac nc cc, .slice Al nl cl, .int .i64 v.code, .int .i64 v.env] 34)).alloc (.cells zv8.toArray 34)).heap.size := by simp only [wsize_alloc]; omega
  have bi : ni ≤ 500000000000 := by omega
  have bn : nn ≤ 500000000000 := by omega
  have bc : nc ≤ 500000000000 := by omega
  have bl : nl ≤ 500000000000 := by omega
  have HCP := Lib.hid hcp
  clear hcp hvs li ln lc ll
  go_enter Try.func80, Try.ntmps80
  go_upto_region 1 with fail
  generalize (w.alloc (.cells #[.int .i64 v.kind, .slice Ai ni ci, .slice Ap np cp, .slice An nn cn, .slice Ac nc cc, .slice Al nl cl, .int .i64 v.code, .int .i64 v.env] 34)).alloc (.cells zv8.toArray 34) = W0 at q0 kA kR s0 ⊢
  refine wp_region_held_drew (S := (fun W => W.cell? ⟨w.heap.size, 0, none⟩ = some (.int .i64 v.kind) ∧ W.cell? ⟨w.heap.size, 1, none⟩ = some (.slice Ai ni ci) ∧ W.cell? ⟨w.heap.size, 2, none⟩ = some (.slice Ap np cp) ∧ W.cell? ⟨w.heap.size, 3, none⟩ = some (.slice An nn cn) ∧ W.cell? ⟨w.heap.size, 4, none⟩ = some (.slice Ac nc cc) ∧ W.cell? ⟨w.heap.size, 5, none⟩ = some (.slice Al nl cl) ∧ W.cell? ⟨w.heap.size, 6, none⟩ = some (.int .i64 v.code) ∧ W.cell? ⟨w.heap.size, 7, none⟩ = some (.int .i64 v.env))) (by kernel_rfl) (show _ from kA.c8) (fun hH => ?_)
  refine wpAnyH_take (i := 0) (v := ?_) rfl (by kernel_rfl) (by kernel_rfl) (by kernel_rfl) (fun _ _ _ h => h) (Or.inl ⟨by kernel_rfl, ?_⟩) (by assumption) ?_; rotate_left; (intro wq hSw; (try dsimp only at hSw); go_simp; (try with_reducible rfl)); (try simp only [Act.put, List.setIfInBounds_toArray, List.set_cons_zero, List.set_cons_succ])
  refine wpAnyH_take (i := 1) (v := ?_) rfl (by kernel_rfl) (by kernel_rfl) (by kernel_rfl) (fun _ _ _ h => h) (Or.inl ⟨by kernel_rfl, ?_⟩) (by assumption) ?_; rotate_left; (intro wq hSw; (try dsimp only at hSw); go_simp; (try with_reducible rfl)); (try simp only [Act.put, List.setIfInBounds_toArray, List.set_cons_zero, List.set_cons_succ])
  refine wpAnyH_take (i := 3) (v := ?_) rfl (by kernel_rfl) (by kernel_rfl) (by kernel_rfl) (fun _ _ _ h => h) (Or.inl ⟨by kernel_rfl, ?_⟩) (by assumption) ?_; rotate_left; (intro wq hSw; (try dsimp only at hSw); go_simp; (try with_reducible rfl)); (try simp only [Act.put, List.setIfInBounds_toArray, List.set_cons_zero, List.set_cons_succ])
  refine wpAnyH_take (i := 4) (v := ?_) rfl (by kernel_rfl) (by kernel_rfl) (by kernel_rfl) (fun _ _ _ h => h) (Or.inl ⟨by kernel_rfl, ?_⟩) (by assumption) ?_; rotate_left; (intro wq hSw; (try dsimp only at hSw); go_simp; (try with_reducible rfl)); (try simp only [Act.put, List.setIfInBounds_toArray, List.set_cons_zero, List.set_cons_succ])
  refine wpAnyH_take (i := 6) (v := ?_) rfl (by kernel_rfl) (by kernel_rfl) (by kernel_rfl) (fun _ _ _ h => h) (Or.inl ⟨by kernel_rfl, ?_⟩) (by assumption) ?_; rotate_left; (intro wq hSw; (try dsimp only at hSw); go_simp; (try with_reducible rfl)); (try simp only [Act.put, List.setIfInBounds_toArray, List.set_cons_zero, List.set_cons_succ])
  refine wpAnyH_take (i := 7) (v := ?_) rfl (by kernel_rfl) (by kernel_rfl) (by kernel_rfl) (fun _ _ _ h => h) (Or.inl ⟨by kernel_rfl, ?_⟩) (by assumption) ?_; rotate_left; (intro wq hSw; (try dsimp only at hSw); go_simp; (try with_reducible rfl)); (try simp only [Act.put, List.setIfInBounds_toArray, List.set_cons_zero, List.set_cons_succ])
  refine wpAnyH_take (i := 10) (v := ?_) rfl (by kernel_rfl) (by kernel_rfl) (by kernel_rfl) (fun _ _ _ h => h) (Or.inl ⟨by kernel_rfl, ?_⟩) (by assumption) ?_; rotate_left; (intro wq hSw; (try dsimp only at hSw); go_simp; (try with_reducible rfl)); (try simp only [Act.put, List.setIfInBounds_toArray, List.set_cons_zero, List.set_cons_succ])
  refine wpAnyH_take (i := 11) (v := ?_) rfl (by kernel_rfl) (by kernel_rfl) (by kernel_rfl) (fun _ _ _ h => h) (Or.inl ⟨by kernel_rfl, ?_⟩) (by assumption) ?_; rotate_left; (intro wq hSw; (try dsimp only at hSw); go_simp; (try with_reducible rfl)); (try simp only [Act.put, List.setIfInBounds_toArray, List.set_cons_zero, List.set_cons_succ])
  refine wpAnyH_take (i := 14) (v := ?_) rfl (by kernel_rfl) (by kernel_rfl) (by kernel_rfl) (fun _ _ _ h => h) (Or.inl ⟨by kernel_rfl, ?_⟩) (by assumption) ?_; rotate_left; (intro wq hSw; (try dsimp only at hSw); go_simp; (try with_reducible rfl)); (try simp only [Act.put, List.setIfInBounds_toArray, List.set_cons_zero, List.set_cons_succ])
  refine wpAnyH_take (i := 15) (v := ?_) rfl (by kernel_rfl) (by kernel_rfl) (by kernel_rfl) (fun _ _ _ h => h) (Or.inl ⟨by kernel_rfl, ?_⟩) (by assumption) ?_; rotate_left; (intro wq hSw; (try dsimp only at hSw); go_simp; (try with_reducible rfl)); (try simp only [Act.put, List.setIfInBounds_toArray, List.set_cons_zero, List.set_cons_succ])
  refine wpAnyH_take (i := 18) (v := ?_) rfl (by kernel_rfl) (by kernel_rfl) (by kernel_rfl) (fun _ _ _ h => h) (Or.inl ⟨by kernel_rfl, ?_⟩) (by assumption) ?_; rotate_left; (intro wq hSw; (try dsimp only at hSw); go_simp; (try with_reducible rfl)); (try simp only [Act.put, List.setIfInBounds_toArray, List.set_cons_zero, List.set_cons_succ])
  refine wpAnyH_take (i := 19) (v := ?_) rfl (by kernel_rfl) (by kernel_rfl) (by kernel_rfl) (fun _ _ _ h => h) (Or.inl ⟨by kernel_rfl, ?_⟩) (by assumption) ?_; rotate_left; (intro wq hSw; (try dsimp only at hSw); go_simp; (try with_reducible rfl)); (try simp only [Act.put, List.setIfInBounds_toArray, List.set_cons_zero, List.set_cons_succ])
  refine wpAnyH_take (i := 21) (v := ?_) rfl (by kernel_rfl) (by kernel_rfl) (by kernel_rfl) (fun _ _ _ h => h) (Or.inl ⟨by kernel_rfl, ?_⟩) (by assumption) ?_; rotate_left; (intro wq hSw; (try dsimp only at hSw); go_simp; (try with_reducible rfl)); (try simp only [Act.put, List.setIfInBounds_toArray, List.set_cons_zero, List.set_cons_succ])
  refine wpAnyH_take (i := 22) (v := ?_) rfl (by kernel_rfl) (by kernel_rfl) (by kernel_rfl) (fun _ _ _ h => h) (Or.inl ⟨by kernel_rfl, ?_⟩) (by assumption) ?_; rotate_left; (intro wq hSw; (try dsimp only at hSw); go_simp; (try with_reducible rfl)); (try simp only [Act.put, List.setIfInBounds_toArray, List.set_cons_zero, List.set_cons_succ])
  refine wpAnyH_take (i := 23) (v := ?_) rfl (by kernel_rfl) (by kernel_rfl) (by kernel_rfl) (fun _ _ _ h => h) (Or.inl ⟨by kernel_rfl, ?_⟩) (by assumption) ?_; rotate_left; (intro wq hSw; (try dsimp only at hSw); go_simp; (try with_reducible rfl)); (try simp only [Act.put, List.setIfInBounds_toArray, List.set_cons_zero, List.set_cons_succ])
  refine wpAnyH_take (i := 24) (v := ?_) rfl (by kernel_rfl) (by kernel_rfl) (by kernel_rfl) (fun _ _ _ h => h) (Or.inl ⟨by kernel_rfl, ?_⟩) (by assumption) ?_; rotate_left; (intro wq hSw; (try dsimp only at hSw); go_simp; (try with_reducible rfl)); (try simp only [Act.put, List.setIfInBounds_toArray, List.set_cons_zero, List.set_cons_succ])
  refine wpAnyH_inv (lcI ps v Ai ni ci Ap np cp An nn cn Ac nc cc Al nl cl w W0) ?_ (fun l a wx hI => ?_) ?_ (by kernel_rfl) ?_ _ _ _ _ ?_ ?_
  · intro l a wx hI
    obtain ⟨b2, b5, b8, b9, b12, b13, b16, b17, b20, b25, b26, u5, u8, u11, u12, u15, u16, u19, u20, u23, u28, F1, F2, F3, F4, F5, ⟨rfl, rfl⟩, ⟨k1, k2, bb, zx⟩, ⟨p1, s2, p3, p4, p5⟩, ⟨fr, lo⟩, h25, h26⟩ := hI
    rfl
  · obtain ⟨b2, b5, b8, b9, b12, b13, b16, b17, b20, b25, b26, u5, u8, u11, u12, u15, u16, u19, u20, u23, u28, F1, F2, F3, F4, F5, ⟨rfl, rfl⟩, ⟨k1, k2, bb, zx⟩, ⟨p1, s2, p3, p4, p5⟩, ⟨fr, lo⟩, h25, h26⟩ := hI
    exact k1.c8
  · intro i o l a wx ho hl hdep hI K hK
    obtain ⟨b2, b5, b8, b9, b12, b13, b16, b17, b20, b25, b26, u5, u8, u11, u12, u15, u16, u19, u20, u23, u28, F1, F2, F3, F4, F5, ⟨rfl, rfl⟩, ⟨k1, k2, bb, zx⟩, ⟨p1, s2, p3, p4, p5⟩, ⟨fr, lo⟩, h25, h26⟩ := hI
    have hi : i < 27 := (Array.getElem?_eq_some_iff.1 ho).1
    have hiv : i = 0 ∨ i = 1 ∨ i = 2 ∨ i = 3 ∨ i = 4 ∨ i = 5 ∨ i = 6 ∨ i = 7 ∨ i = 8 ∨ i = 9 ∨ i = 10 ∨ i = 11 ∨ i = 12 ∨ i = 13 ∨ i = 14 ∨ i = 15 ∨ i = 16 ∨ i = 17 ∨ i = 18 ∨ i = 19 ∨ i = 20 ∨ i = 21 ∨ i = 22 ∨ i = 23 ∨ i = 24 ∨ i = 25 ∨ i = 26 := by omega
    clear hi
    rcases hiv with rfl | rfl | rfl | rfl | rfl | rfl | rfl | rfl | rfl | rfl | rfl | rfl | rfl | rfl | rfl | rfl | rfl | rfl | rfl | rfl | rfl | rfl | rfl | rfl | rfl | rfl | rfl
    · exact absurd hl (by simp [lst])
    · exact absurd hl (by simp [lst])
    · simp only [List.getElem?_toArray, List.getElem?_cons_succ, List.getElem?_cons_zero, Option.some.injEq] at ho
      subst ho
      obtain rfl : b2 = false := by simpa [lst] using hl
      cases b5 with
      | true => exact absurd p1 (by simp [pr])
      | false =>
      obtain rfl : b25 = false := by
        cases b25 with
        | false => rfl
        | true => exact absurd (h25 rfl).1 (by simp)
      obtain rfl : b26 = false := by
        cases b26 with
        | false => rfl
        | true => exact absurd (h26 rfl) (by simp)
      have k2 : Blk wx (w.heap.size + 1) 34 zv8 := k2
      obtain rfl : F1 = [] := p1
      have fx : Fresh (w.heap.size + 2) ([] ++ ([] ++ (F2 ++ (F3 ++ (F4 ++ F5))))) := by simpa [List.append_assoc] using fr
      have lx : Lo wx.heap.size ([] ++ ([] ++ (F2 ++ (F3 ++ (F4 ++ F5))))) := by simpa [List.append_assoc] using lo
      have md : Mod [] wx (wx.alloc (.cells #[] 101)) := Mod.of_below ((Below.refl _ _).alloc (Nat.le_refl _) _)
      have f2 := Fresh.mid (Y' := [wx.heap.size]) fx lx zx (by simp) (fun x hx => by simp at hx; right; omega)
      have l2 := Lo.mid (C' := (wx.alloc (.cells #[] 101)).heap.size) (Y' := [wx.heap.size]) lx (by simp only [wsize_alloc]; omega) (Lo.one (by simp only [wsize_alloc]; omega))
      go_simp
      refine hK _ _ ⟨true, false, b8, b9, b12, b13, b16, b17, b20, false, false, .slice (some ⟨wx.heap.size, 0, none⟩) 0 0, u8, u11, u12, u15, u16, u19, u20, u23, u28, [wx.heap.size], F2, F3, F4, F5, ⟨rfl, rfl⟩, ⟨k1.al, k2.al, bel_al bb (by omega), by simp only [wsize_alloc]; omega⟩, ⟨⟨wx.heap.size, rfl, own_emp Try.underlying31⟩, sg_mod s2 md (by simp), pr_mod p3 md (by simp), pr_mod p4 md (by simp), pr_mod p5 md (by simp)⟩, ⟨by simpa [List.append_assoc] using f2, by simpa [List.append_assoc] using l2⟩, ?_, h26⟩
      exact fun e25 => absurd e25 (by simp)
    · exact absurd hl (by simp [lst])
    · exact absurd hl (by simp [lst])
    · simp only [List.getElem?_toArray, List.getElem?_cons_succ, List.getElem?_cons_zero, Option.some.injEq] at ho
      subst ho
      obtain rfl : b5 = false := by simpa [lst] using hl
      obtain rfl : b2 = true := by simpa [lst] using hdep ⟨2, .data⟩ (by simp) rfl
      obtain rfl : b25 = false := by
        cases b25 with
        | false => rfl
        | true => exact absurd (h25 rfl).1 (by simp)
      obtain rfl : b26 = false := by
        cases b26 with
        | false => rfl
        | true => exact absurd (h26 rfl) (by simp)
      have k2 : Blk wx (w.heap.size + 1) 34 zv8 := k2
      obtain ⟨g, rfl, op⟩ := p1
      have fx : Fresh (w.heap.size + 2) ([] ++ (F1 ++ (F2 ++ (F3 ++ (F4 ++ F5))))) := by simpa [List.append_assoc] using fr
      have lx : Lo wx.heap.size ([] ++ (F1 ++ (F2 ++ (F3 ++ (F4 ++ F5))))) := by simpa [List.append_assoc] using lo
      have ap := fx.apart
      refine step_appAll (f := Item.toD) encItem tyItem (by kernel_rfl) encItem_len encItem_one rfl (.tmp 5) (.tmp 7) rfl (g := g) (F := F1) rfl op Ai ni ci w.heap.size v.items rfl (hv.it.below bb) (fun x hx w' => own_itm (hv.ito x hx) w') (by omega) (by unfold maxLen; omega) ?_
      intro A' c' w' F' oN hF md
      have f2 := Fresh.mid (Y' := F') fx lx zx hF.1 hF.2
      have l2 := Lo.mid (C' := w'.heap.size) (Y' := F') lx md.size (own_lo oN)
      have gB : ∀ x ∈ F1, w.heap.size + 2 ≤ x := fun x hx => fr.2 x (by simp [hx])
      have n1 : w.heap.size ∉ F1 := fun hx => by have := gB _ hx; omega
      have n2 : w.heap.size + 1 ∉ F1 := fun hx => by have := gB _ hx; omega
      refine hK _ _ ⟨true, true, b8, b9, b12, b13, b16, b17, b20, false, false, .slice (some ⟨g, 0, none⟩) 0 0, .slice A' ni c', u11, u12, u15, u16, u19, u20, u23, u28, F', F2, F3, F4, F5, ⟨rfl, rfl⟩, ⟨k1.mod md n1, k2.mod md n2, bel_mod bb md (fun x hx => by have := gB x hx; omega) (by omega), by have := md.size; omega⟩, ⟨⟨A', _, c', rfl, oN⟩, sg_mod s2 md (fun g hg => ap.2 g (by simp [hg])), pr_mod p3 md (fun g hg => ap.2 g (by simp [hg])), pr_mod p4 md (fun g hg => ap.2 g (by simp [hg])), pr_mod p5 md (fun g hg => ap.2 g (by simp [hg]))⟩, ⟨by simpa [List.append_assoc] using f2, by simpa [List.append_assoc] using l2⟩, ?_, h26⟩
      exact fun e25 => absurd e25 (by simp)
    · exact absurd hl (by simp [lst])
    · exact absurd hl (by simp [lst])
    · simp only [List.getElem?_toArray, List.getElem?_cons_succ, List.getElem?_cons_zero, Option.some.injEq] at ho
      subst ho
      obtain rfl : b8 = false := by simpa [lst] using hl
      obtain rfl : b25 = false := by
        cases b25 with
        | false => rfl
        | true => exact absurd (h25 rfl).1 (by simp)
      obtain rfl : b26 = false := by
        cases b26 with
        | false => rfl
        | true => exact absurd (h26 rfl) (by simp)
      have k2 : Blk wx (w.heap.size + 1) 34 zv8 := k2
      obtain rfl : F2 = [] := s2
      have fx : Fresh (w.heap.size + 2) (F1 ++ ([] ++ (F3 ++ (F4 ++ F5)))) := by simpa [List.append_assoc] using fr
      have lx : Lo wx.heap.size (F1 ++ ([] ++ (F3 ++ (F4 ++ F5)))) := by simpa [List.append_assoc] using lo
      go_simp
      refine (HCP.out _ _ _ _ (rep_in hv.pa bb bb.size)).mono ?_
      rintro e w' ⟨A', n', c', F', rfl, oN, fN, bN⟩
      have md : Mod [] wx w' := Mod.of_below bN
      have f2 := Fresh.mid (Y' := F') fx lx zx fN.1 (fun x hx => .inr (fN.2 x hx))
      have l2 := Lo.mid (C' := w'.heap.size) (Y' := F') lx bN.size (own_lo oN)
      refine hK _ _ ⟨b2, b5, true, b9, b12, b13, b16, b17, b20, false, false, u5, u8, .slice A' n' c', u12, u15, u16, u19, u20, u23, u28, F1, F', F3, F4, F5, ⟨rfl, rfl⟩, ⟨k1.next bN, k2.next bN, bel_call bb bN (by omega), by have := bN.size; omega⟩, ⟨pr_mod p1 md (by simp), oN, pr_mod p3 md (by simp), pr_mod p4 md (by simp), pr_mod p5 md (by simp)⟩, ⟨by simpa [List.append_assoc] using f2, by simpa [List.append_assoc] using l2⟩, ?_, h26⟩
      exact fun e25 => absurd e25 (by simp)
    · simp only [List.getElem?_toArray, List.getElem?_cons_succ, List.getElem?_cons_zero, Option.some.injEq] at ho
      subst ho
      obtain rfl : b9 = false := by simpa [lst] using hl
      cases b12 with
      | true => exact absurd p3 (by simp [pr])
      | false =>
      obtain rfl : b25 = false := by
        cases b25 with
        | false => rfl
        | true => exact absurd (h25 rfl).1 (by simp)
      obtain rfl : b26 = false := by
        cases b26 with
        | false => rfl
        | true => exact absurd (h26 rfl) (by simp)
      have k2 : Blk wx (w.heap.size + 1) 34 zv8 := k2
      obtain rfl : F3 = [] := p3
      have fx : Fresh (w.heap.size + 2) ((F1 ++ F2) ++ ([] ++ (F4 ++ F5))) := by simpa [List.append_assoc] using fr
      have lx : Lo wx.heap.size ((F1 ++ F2) ++ ([] ++ (F4 ++ F5))) := by simpa [List.append_assoc] using lo
      have md : Mod [] wx (wx.alloc (.cells #[] 9)) := Mod.of_below ((Below.refl _ _).alloc (Nat.le_refl _) _)
      have f2 := Fresh.mid (Y' := [wx.heap.size]) fx lx zx (by simp) (fun x hx => by simp at hx; right; omega)
      have l2 := Lo.mid (C' := (wx.alloc (.cells #[] 9)).heap.size) (Y' := [wx.heap.size]) lx (by simp only [wsize_alloc]; omega) (Lo.one (by simp only [wsize_alloc]; omega))
      go_simp
      refine hK _ _ ⟨b2, b5, b8, true, false, b13, b16, b17, b20, false, false, u5, u8, u11, .slice (some ⟨wx.heap.size, 0, none⟩) 0 0, u15, u16, u19, u20, u23, u28, F1, F2, [wx.heap.size], F4, F5, ⟨rfl, rfl⟩, ⟨k1.al, k2.al, bel_al bb (by omega), by simp only [wsize_alloc]; omega⟩, ⟨pr_mod p1 md (by simp), sg_mod s2 md (by simp), ⟨wx.heap.size, rfl, own_emp Try.underlying24⟩, pr_mod p4 md (by simp), pr_mod p5 md (by simp)⟩, ⟨by simpa [List.append_assoc] using f2, by simpa [List.append_assoc] using l2⟩, ?_, h26⟩
      exact fun e25 => absurd e25 (by simp)
    · exact absurd hl (by simp [lst])
    · exact absurd hl (by simp [lst])
    · simp only [List.getElem?_toArray, List.getElem?_cons_succ, List.getElem?_cons_zero, Option.some.injEq] at ho
      subst ho
      obtain rfl : b12 = false := by simpa [lst] using hl
      obtain rfl : b9 = true := by simpa [lst] using hdep ⟨9, .data⟩ (by simp) rfl
      obtain rfl : b25 = false := by
        cases b25 with
        | false => rfl
        | true => exact absurd (h25 rfl).1 (by simp)
      obtain rfl : b26 = false := by
        cases b26 with
        | false => rfl
        | true => exact absurd (h26 rfl) (by simp)
      have k2 : Blk wx (w.heap.size + 1) 34 zv8 := k2
      obtain ⟨g, rfl, op⟩ := p3
      have fx : Fresh (w.heap.size + 2) ((F1 ++ F2) ++ (F3 ++ (F4 ++ F5))) := by simpa [List.append_assoc] using fr
      have lx : Lo wx.heap.size ((F1 ++ F2) ++ (F3 ++ (F4 ++ F5))) := by simpa [List.append_assoc] using lo
      have ap := fx.apart
      refine step_appAll (f := D.s) encS tyStr (by kernel_rfl) encS_len encS_one rfl (.tmp 12) (.tmp 14) rfl (g := g) (F := F3) rfl op An nn cn w.heap.size v.names rfl (hv.na.below bb) (fun x hx w' => own_st' (hv.nao x hx) w') (by omega) (by unfold maxLen; omega) ?_
      intro A' c' w' F' oN hF md
      have f2 := Fresh.mid (Y' := F') fx lx zx hF.1 hF.2
      have l2 := Lo.mid (C' := w'.heap.size) (Y' := F') lx md.size (own_lo oN)
      have gB : ∀ x ∈ F3, w.heap.size + 2 ≤ x := fun x hx => fr.2 x (by simp [hx])
      have n1 : w.heap.size ∉ F3 := fun hx => by have := gB _ hx; omega
      have n2 : w.heap.size + 1 ∉ F3 := fun hx => by have := gB _ hx; omega
      refine hK _ _ ⟨b2, b5, b8, true, true, b13, b16, b17, b20, false, false, u5, u8, u11, .slice (some ⟨g, 0, none⟩) 0 0, .slice A' nn c', u16, u19, u20, u23, u28, F1, F2, F', F4, F5, ⟨rfl, rfl⟩, ⟨k1.mod md n1, k2.mod md n2, bel_mod bb md (fun x hx => by have := gB x hx; omega) (by omega), by have := md.size; omega⟩, ⟨pr_mod p1 md (fun g hg => ap.1 g (by simp [hg])), sg_mod s2 md (fun g hg => ap.1 g (by simp [hg])), ⟨A', _, c', rfl, oN⟩, pr_mod p4 md (fun g hg => ap.2 g (by simp [hg])), pr_mod p5 md (fun g hg => ap.2 g (by simp [hg]))⟩, ⟨by simpa [List.append_assoc] using f2, by simpa [List.append_assoc] using l2⟩, ?_, h26⟩
      exact fun e25 => absurd e25 (by simp)
    · simp only [List.getElem?_toArray, List.getElem?_cons_succ, List.getElem?_cons_zero, Option.some.injEq] at ho
      subst ho
      obtain rfl : b13 = false := by simpa [lst] using hl
      cases b16 with
      | true => exact absurd p4 (by simp [pr])
      | false =>
      obtain rfl : b25 = false := by
        cases b25 with
        | false => rfl
        | true => exact absurd (h25 rfl).1 (by simp)
      obtain rfl : b26 = false := by
        cases b26 with
        | false => rfl
        | true => exact absurd (h26 rfl) (by simp)
      have k2 : Blk wx (w.heap.size + 1) 34 zv8 := k2
      obtain rfl : F4 = [] := p4
      have fx : Fresh (w.heap.size + 2) ((F1 ++ (F2 ++ F3)) ++ ([] ++ F5)) := by simpa [List.append_assoc] using fr
      have lx : Lo wx.heap.size ((F1 ++ (F2 ++ F3)) ++ ([] ++ F5)) := by simpa [List.append_assoc] using lo
      have md : Mod [] wx (wx.alloc (.cells #[] 9)) := Mod.of_below ((Below.refl _ _).alloc (Nat.le_refl _) _)
      have f2 := Fresh.mid (Y' := [wx.heap.size]) fx lx zx (by simp) (fun x hx => by simp at hx; right; omega)
      have l2 := Lo.mid (C' := (wx.alloc (.cells #[] 9)).heap.size) (Y' := [wx.heap.size]) lx (by simp only [wsize_alloc]; omega) (Lo.one (by simp only [wsize_alloc]; omega))
      go_simp
      refine hK _ _ ⟨b2, b5, b8, b9, b12, true, false, b17, b20, false, false, u5, u8, u11, u12, u15, .slice (some ⟨wx.heap.size, 0, none⟩) 0 0, u19, u20, u23, u28, F1, F2, F3, [wx.heap.size], F5, ⟨rfl, rfl⟩, ⟨k1.al, k2.al, bel_al bb (by omega), by simp only [wsize_alloc]; omega⟩, ⟨pr_mod p1 md (by simp), sg_mod s2 md (by simp), pr_mod p3 md (by simp), ⟨wx.heap.size, rfl, own_emp Try.underlying24⟩, pr_mod p5 md (by simp)⟩, ⟨by simpa [List.append_assoc] using f2, by simpa [List.append_assoc] using l2⟩, ?_, h26⟩
      exact fun e25 => absurd e25 (by simp)
    · exact absurd hl (by simp [lst])
    · exact absurd hl (by simp [lst])
    · simp only [List.getElem?_toArray, List.getElem?_cons_succ, List.getElem?_cons_zero, Option.some.injEq] at ho
      subst ho
      obtain rfl : b16 = false := by simpa [lst] using hl
      obtain rfl : b13 = true := by simpa [lst] using hdep ⟨13, .data⟩ (by simp) rfl
      obtain rfl : b25 = false := by
        cases b25 with
        | false => rfl
        | true => exact absurd (h25 rfl).1 (by simp)
      obtain rfl : b26 = false := by
        cases b26 with
        | false => rfl
        | true => exact absurd (h26 rfl) (by simp)
      have k2 : Blk wx (w.heap.size + 1) 34 zv8 := k2
      obtain ⟨g, rfl, op⟩ := p4
      have fx : Fresh (w.heap.size + 2) ((F1 ++ (F2 ++ F3)) ++ (F4 ++ F5)) := by simpa [List.append_assoc] using fr
      have lx : Lo wx.heap.size ((F1 ++ (F2 ++ F3)) ++ (F4 ++ F5)) := by simpa [List.append_assoc] using lo
      have ap := fx.apart
      refine step_appAll (f := D.s) encS tyStr (by kernel_rfl) encS_len encS_one rfl (.tmp 16) (.tmp 18) rfl (g := g) (F := F4) rfl op Ac nc cc w.heap.size v.cls rfl (hv.ca.below bb) (fun x hx w' => own_st' (hv.cao x hx) w') (by omega) (by unfold maxLen; omega) ?_
      intro A' c' w' F' oN hF md
      have f2 := Fresh.mid (Y' := F') fx lx zx hF.1 hF.2
      have l2 := Lo.mid (C' := w'.heap.size) (Y' := F') lx md.size (own_lo oN)
      have gB : ∀ x ∈ F4, w.heap.size + 2 ≤ x := fun x hx => fr.2 x (by simp [hx])
      have n1 : w.heap.size ∉ F4 := fun hx => by have := gB _ hx; omega
      have n2 : w.heap.size + 1 ∉ F4 := fun hx => by have := gB _ hx; omega
      refine hK _ _ ⟨b2, b5, b8, b9, b12, true, true, b17, b20, false, false, u5, u8, u11, u12, u15, .slice (some ⟨g, 0, none⟩) 0 0, .slice A' nc c', u20, u23, u28, F1, F2, F3, F', F5, ⟨rfl, rfl⟩, ⟨k1.mod md n1, k2.mod md n2, bel_mod bb md (fun x hx => by have := gB x hx; omega) (by omega), by have := md.size; omega⟩, ⟨pr_mod p1 md (fun g hg => ap.1 g (by simp [hg])), sg_mod s2 md (fun g hg => ap.1 g (by simp [hg])), pr_mod p3 md (fun g hg => ap.1 g (by simp [hg])), ⟨A', _, c', rfl, oN⟩, pr_mod p5 md (fun g hg => ap.2 g (by simp [hg]))⟩, ⟨by simpa [List.append_assoc] using f2, by simpa [List.append_assoc] using l2⟩, ?_, h26⟩
      exact fun e25 => absurd e25 (by simp)
    · simp only [List.getElem?_toArray, List.getElem?_cons_succ, List.getElem?_cons_zero, Option.some.injEq] at ho
      subst ho
      obtain rfl : b17 = false := by simpa [lst] using hl
      cases b20 with
      | true => exact absurd p5 (by simp [pr])
      | false =>
      obtain rfl : b25 = false := by
        cases b25 with
        | false => rfl
        | true => exact absurd (h25 rfl).1 (by simp)
      obtain rfl : b26 = false := by
        cases b26 with
        | false => rfl
        | true => exact absurd (h26 rfl) (by simp)
      have k2 : Blk wx (w.heap.size + 1) 34 zv8 := k2
      obtain rfl : F5 = [] := p5
      have fx : Fresh (w.heap.size + 2) ((F1 ++ (F2 ++ (F3 ++ F4))) ++ ([] ++ [])) := by simpa [List.append_assoc] using fr
      have lx : Lo wx.heap.size ((F1 ++ (F2 ++ (F3 ++ F4))) ++ ([] ++ [])) := by simpa [List.append_assoc] using lo
      have md : Mod [] wx (wx.alloc (.cells #[] 9)) := Mod.of_below ((Below.refl _ _).alloc (Nat.le_refl _) _)
      have f2 := Fresh.mid (Y' := [wx.heap.size]) fx lx zx (by simp) (fun x hx => by simp at hx; right; omega)
      have l2 := Lo.mid (C' := (wx.alloc (.cells #[] 9)).heap.size) (Y' := [wx.heap.size]) lx (by simp only [wsize_alloc]; omega) (Lo.one (by simp only [wsize_alloc]; omega))
      go_simp
      refine hK _ _ ⟨b2, b5, b8, b9, b12, b13, b16, true, false, false, false, u5, u8, u11, u12, u15, u16, u19, .slice (some ⟨wx.heap.size, 0, none⟩) 0 0, u23, u28, F1, F2, F3, F4, [wx.heap.size], ⟨rfl, rfl⟩, ⟨k1.al, k2.al, bel_al bb (by omega), by simp only [wsize_alloc]; omega⟩, ⟨pr_mod p1 md (by simp), sg_mod s2 md (by simp), pr_mod p3 md (by simp), pr_mod p4 md (by simp), ⟨wx.heap.size, rfl, own_emp Try.underlying24⟩⟩, ⟨by simpa [List.append_assoc] using f2, by simpa [List.append_assoc] using l2⟩, ?_, h26⟩
      exact fun e25 => absurd e25 (by simp)
    · exact absurd hl (by simp [lst])
    · exact absurd hl (by simp [lst])
    · simp only [List.getElem?_toArray, List.getElem?_cons_succ, List.getElem?_cons_zero, Option.some.injEq] at ho
      subst ho
      obtain rfl : b20 = false := by simpa [lst] using hl
      obtain rfl : b17 = true := by simpa [lst] using hdep ⟨17, .data⟩ (by simp) rfl
      obtain rfl : b25 = false := by
        cases b25 with
        | false => rfl
        | true => exact absurd (h25 rfl).1 (by simp)
      obtain rfl : b26 = false := by
        cases b26 with
        | false => rfl
        | true => exact absurd (h26 rfl) (by simp)
      have k2 : Blk wx (w.heap.size + 1) 34 zv8 := k2
      obtain ⟨g, rfl, op⟩ := p5
      have fx : Fresh (w.heap.size + 2) ((F1 ++ (F2 ++ (F3 ++ F4))) ++ (F5 ++ [])) := by simpa [List.append_assoc] using fr
      have lx : Lo wx.heap.size ((F1 ++ (F2 ++ (F3 ++ F4))) ++ (F5 ++ [])) := by simpa [List.append_assoc] using lo
      have ap := fx.apart
      refine step_appAll (f := D.s) encS tyStr (by kernel_rfl) encS_len encS_one rfl (.tmp 20) (.tmp 22) rfl (g := g) (F := F5) rfl op Al nl cl w.heap.size v.levels rfl (hv.la.below bb) (fun x hx w' => own_st' (hv.lao x hx) w') (by omega) (by unfold maxLen; omega) ?_
      intro A' c' w' F' oN hF md
      have f2 := Fresh.mid (Y' := F') fx lx zx hF.1 hF.2
      have l2 := Lo.mid (C' := w'.heap.size) (Y' := F') lx md.size (own_lo oN)
      have gB : ∀ x ∈ F5, w.heap.size + 2 ≤ x := fun x hx => fr.2 x (by simp [hx])
      have n1 : w.heap.size ∉ F5 := fun hx => by have := gB _ hx; omega
      have n2 : w.heap.size + 1 ∉ F5 := fun hx => by have := gB _ hx; omega
      refine hK _ _ ⟨b2, b5, b8, b9, b12, b13, b16, true, true, false, false, u5, u8, u11, u12, u15, u16, u19, .slice (some ⟨g, 0, none⟩) 0 0, .slice A' nl c', u28, F1, F2, F3, F4, F', ⟨rfl, rfl⟩, ⟨k1.mod md n1, k2.mod md n2, bel_mod bb md (fun x hx => by have := gB x hx; omega) (by omega), by have := md.size; omega⟩, ⟨pr_mod p1 md (fun g hg => ap.1 g (by simp [hg])), sg_mod s2 md (fun g hg => ap.1 g (by simp [hg])), pr_mod p3 md (fun g hg => ap.1 g (by simp [hg])), pr_mod p4 md (fun g hg => ap.1 g (by simp [hg])), ⟨A', _, c', rfl, oN⟩⟩, ⟨by simpa [List.append_assoc] using f2, by simpa [List.append_assoc] using l2⟩, ?_, h26⟩
      exact fun e25 => absurd e25 (by simp)
    · exact absurd hl (by simp [lst])
    · exact absurd hl (by simp [lst])
    · exact absurd hl (by simp [lst])
    · exact absurd hl (by simp [lst])
    · simp only [List.getElem?_toArray, List.getElem?_cons_succ, List.getElem?_cons_zero, Option.some.injEq] at ho
      subst ho
      obtain rfl : b25 = false := by simpa [lst] using hl
      obtain rfl : b26 = false := by cases b26 with | false => rfl | true => exact absurd (h26 rfl) (by simp)
      obtain rfl : b5 = true := by simpa [lst] using hdep ⟨5, .data⟩ (by simp) rfl
      obtain rfl : b8 = true := by simpa [lst] using hdep ⟨8, .data⟩ (by simp) rfl
      obtain rfl : b12 = true := by simpa [lst] using hdep ⟨12, .data⟩ (by simp) rfl
      obtain rfl : b16 = true := by simpa [lst] using hdep ⟨16, .data⟩ (by simp) rfl
      obtain rfl : b20 = true := by simpa [lst] using hdep ⟨20, .data⟩ (by simp) rfl
      obtain rfl : b2 = true := by cases b2 with | true => rfl | false => exact absurd p1 (by simp [pr])
      obtain rfl : b9 = true := by cases b9 with | true => rfl | false => exact absurd p3 (by simp [pr])
      obtain rfl : b13 = true := by cases b13 with | true => rfl | false => exact absurd p4 (by simp [pr])
      obtain rfl : b17 = true := by cases b17 with | true => rfl | false => exact absurd p5 (by simp [pr])
      have p10 := p1
      obtain ⟨A0, n0, c0, rfl, _⟩ := p1
      have p30 := p3
      obtain ⟨A2, n2, c2, rfl, _⟩ := p3
      have p40 := p4
      obtain ⟨A3, n3, c3, rfl, _⟩ := p4
      have p50 := p5
      obtain ⟨A4, n4, c4, rfl, _⟩ := p5
      obtain ⟨A1, n1, c1, he1⟩ := rep_sl_val (own_rep _ _ _ _ (show own Try.prog wx (.sl (ps.map Vec.toD)) 32 F2 [u11] from s2))
      injection he1 with he1
      subst he1
      go_simp
      refine hK _ _ ⟨true, true, true, true, true, true, true, true, true, true, false, _, _, _, _, _, _, _, _, _, _, F1, F2, F3, F4, F5, ⟨rfl, rfl⟩, ⟨k1, k2, bb, zx⟩, ⟨p10, s2, p30, p40, p50⟩, ⟨fr, lo⟩, fun _ => ⟨⟨rfl, rfl, rfl, rfl, rfl⟩, rfl⟩, fun h => absurd h (by simp)⟩
    · simp only [List.getElem?_toArray, List.getElem?_cons_succ, List.getElem?_cons_zero, Option.some.injEq] at ho
      subst ho
      obtain rfl : b26 = false := by simpa [lst] using hl
      obtain rfl : b25 = true := by simpa [lst] using hdep ⟨25, .data⟩ (by simp) rfl
      obtain ⟨⟨rfl, rfl, rfl, rfl, rfl⟩, rfl⟩ := h25 rfl
      obtain rfl : b2 = true := by cases b2 with | true => rfl | false => exact absurd p1 (by simp [pr])
      obtain rfl : b9 = true := by cases b9 with | true => rfl | false => exact absurd p3 (by simp [pr])
      obtain rfl : b13 = true := by cases b13 with | true => rfl | false => exact absurd p4 (by simp [pr])
      obtain rfl : b17 = true := by cases b17 with | true => rfl | false => exact absurd p5 (by simp [pr])
      obtain ⟨A0, n0, c0, rfl, o0⟩ := p1
      obtain ⟨A2, n2, c2, rfl, o2⟩ := p3
      obtain ⟨A3, n3, c3, rfl, o3⟩ := p4
      obtain ⟨A4, n4, c4, rfl, o4⟩ := p5
      have o1 : own Try.prog wx (.sl (ps.map Vec.toD)) 32 F2 [u11] := s2
      obtain ⟨A1, n1, c1, he1⟩ := rep_sl_val (own_rep _ _ _ _ o1)
      injection he1 with he1
      subst he1
      have k2' : Blk wx (w.heap.size + 1) 34 zv8 := k2
      obtain ⟨r0, r1, r2, r3, r4, r5, r6, r7⟩ := k2'.c8
      have zr := fun i => k2'.frozen i
      have zr0 := zr 0; have zr1 := zr 1; have zr2 := zr 2; have zr3 := zr 3; have zr4 := zr 4; have zr5 := zr 5; have zr6 := zr 6; have zr7 := zr 7
      clear zr
      have gB : ∀ x ∈ (F1 ++ (F2 ++ (F3 ++ (F4 ++ F5)))), w.heap.size + 2 ≤ x := fr.2
      have nf1 : w.heap.size + 1 ∉ F1 := fun hx => by have := gB (w.heap.size + 1) (by simp [hx]); omega
      have nf2 : w.heap.size + 1 ∉ F2 := fun hx => by have := gB (w.heap.size + 1) (by simp [hx]); omega
      have nf3 : w.heap.size + 1 ∉ F3 := fun hx => by have := gB (w.heap.size + 1) (by simp [hx]); omega
      have nf4 : w.heap.size + 1 ∉ F4 := fun hx => by have := gB (w.heap.size + 1) (by simp [hx]); omega
      have nf5 : w.heap.size + 1 ∉ F5 := fun hx => by have := gB (w.heap.size + 1) (by simp [hx]); omega
      go_simp
      refine hK _ _ ⟨true, true, true, true, true, true, true, true, true, true, true, _, _, _, _, _, _, _, _, _, _, F1, F2, F3, F4, F5, ⟨rfl, rfl⟩, ⟨?_, k2'.set8, ?_, ?_⟩, ⟨⟨A0, n0, c0, rfl, ?_⟩, ?_, ⟨A2, n2, c2, rfl, ?_⟩, ⟨A3, n3, c3, rfl, ?_⟩, ⟨A4, n4, c4, rfl, ?_⟩⟩, ⟨fr, ?_⟩, fun _ => ⟨⟨rfl, rfl, rfl, rfl, rfl⟩, rfl⟩, fun _ => rfl⟩
      · (repeat' (first | with_reducible assumption | with_reducible exact Blk.new' | with_reducible exact Blk.newd | with_reducible apply Blk.set8 | (with_reducible refine Blk.pk ?_ ?_; ((try simp only [wsize_drew, wsize_alloc, wsize_set]); omega)) | with_reducible refine Blk.dw ?_ | with_reducible refine Blk.al ?_ | with_reducible refine Blk.next ?_ (by with_reducible assumption)))
      · (repeat' (first | with_reducible assumption | with_reducible exact Below.refl _ _ | with_reducible refine bel_dw ?_ | with_reducible refine bel_al ?_ ?_ | with_reducible refine bel_set ?_ ?_ | with_reducible refine bel_call ?_ (by with_reducible assumption) ?_ | ((try simp only [wsize_drew, wsize_alloc, wsize_set]); omega)))
      · simp only [wsize_set]; exact zx
      · (repeat' (first | with_reducible assumption | with_reducible refine own_pk ?_ ?_))
      · show own _ _ _ _ _ _
        (repeat' (first | with_reducible assumption | with_reducible refine own_pk ?_ ?_))
      · (repeat' (first | with_reducible assumption | with_reducible refine own_pk ?_ ?_))
      · (repeat' (first | with_reducible assumption | with_reducible refine own_pk ?_ ?_))
      · (repeat' (first | with_reducible assumption | with_reducible refine own_pk ?_ ?_))
      · simp only [wsize_set]; exact lo
  · intro l a wx hI hall
    obtain ⟨b2, b5, b8, b9, b12, b13, b16, b17, b20, b25, b26, u5, u8, u11, u12, u15, u16, u19, u20, u23, u28, F1, F2, F3, F4, F5, ⟨rfl, rfl⟩, ⟨k1, k2, bb, zx⟩, ⟨p1, s2, p3, p4, p5⟩, ⟨fr, lo⟩, h25, h26⟩ := hI
    obtain rfl : b2 = true := by simpa [lst] using hall 2 (by decide)
    obtain rfl : b5 = true := by simpa [lst] using hall 5 (by decide)
    obtain rfl : b8 = true := by simpa [lst] using hall 8 (by decide)
    obtain rfl : b9 = true := by simpa [lst] using hall 9 (by decide)
    obtain rfl : b12 = true := by simpa [lst] using hall 12 (by decide)
    obtain rfl : b13 = true := by simpa [lst] using hall 13 (by decide)
    obtain rfl : b16 = true := by simpa [lst] using hall 16 (by decide)
    obtain rfl : b17 = true := by simpa [lst] using hall 17 (by decide)
    obtain rfl : b20 = true := by simpa [lst] using hall 20 (by decide)
    obtain rfl : b25 = true := by simpa [lst] using hall 25 (by decide)
    obtain rfl : b26 = true := by simpa [lst] using hall 26 (by decide)
    obtain ⟨A0, n0, c0, rfl, o0⟩ := p1
    obtain ⟨A2, n2, c2, rfl, o2⟩ := p3
    obtain ⟨A3, n3, c3, rfl, o3⟩ := p4
    obtain ⟨A4, n4, c4, rfl, o4⟩ := p5
    have o1 : own Try.prog wx (.sl (ps.map Vec.toD)) 32 F2 [u11] := s2
    obtain ⟨A1, n1, c1, he1⟩ := rep_sl_val (own_rep _ _ _ _ o1)
    injection he1 with he1
    subst he1
    have k2' : Blk wx (w.heap.size + 1) 34 [.int .i64 v.kind, .slice A0 n0 c0, .slice A1 n1 c1, .slice A2 n2 c2, .slice A3 n3 c3, .slice A4 n4 c4, .int .i64 v.code, .int .i64 v.env] := k2
    obtain ⟨r0, r1, r2, r3, r4, r5, r6, r7⟩ := k2'.c8
    have hR1 : w.heap.size + 1 < wx.heap.size := by omega
    go_wp2_with fail
    refine bodyPost_ret (v := .agg #[.int .i64 v.kind, .slice A0 n0 c0, .slice A1 n1 c1, .slice A2 n2 c2, .slice A3 n3 c3, .slice A4 n4 c4, .int .i64 v.code, .int .i64 v.env]) (by simp [results, Try.results80, go_sem, r0, r1, r2, r3, r4, r5, r6, r7]) rfl ⟨_, F1 ++ (F2 ++ (F3 ++ (F4 ++ (F5 ++ [])))), rfl, ?_, ?_, bb⟩
    · exact Vector_own (x := { v with parts := ps }) hv.wk o0 o1 o2 o3 o4 hv.wc hv.we
    · rw [List.append_nil]; exact fr.mono (by omega)
  · decide
  · refine ⟨false, false, false, false, false, false, false, false, false, false, false, undef, undef, undef, undef, undef, undef, undef, undef, undef, undef, [], [], [], [], [], ⟨?_, ?_⟩, ⟨kA.dw, kR.dw, q0.drew, s0⟩, ⟨rfl, rfl, rfl, rfl, rfl⟩, ⟨Fresh.nil, Lo.nil⟩, fun h => absurd h (by simp), fun h => absurd h (by simp)⟩
    · kernel_rfl
    · kernel_rfl
end Go.Proofs.Ytekcpadlmfaihaa
namespace Go.Proofs.Ytekcpadlmfaihaa
open Go.RowKit
theorem own_sl_val {P : Program} {w : World} {xs : List D} {t : TypeId} {F : List Nat} {cs : List Value} (h : own P w (.sl xs) t F cs) : ∃ A n c, cs = [.slice A n c] := rep_sl_val (own_rep _ _ _ _ h)
theorem Vector_own_inv {w : World} {x : Vec} {F : List Nat} {cs : List Value} (h : own Try.prog w x.toD 34 F cs) : ∃ (Ai : Option Addr) (ni ci : Nat) (Ap : Option Addr) (np cp : Nat) (An : Option Addr) (nn cn : Nat) (Ac : Option Addr) (nc cc : Nat) (Al : Option Addr) (nl cl : Nat) (F1 F2 F3 F4 F5 : List Nat),
    cs = [.int .i64 x.kind, .slice Ai ni ci, .slice Ap np cp, .slice An nn cn, .slice Ac nc cc, .slice Al nl cl, .int .i64 x.code, .int .i64 x.env] ∧ F = F1 ++ (F2 ++ (F3 ++ (F4 ++ F5))) ∧ (Lit.int .i64 x.kind).wf = true ∧
    own Try.prog w (.sl (x.items.map Item.toD)) 31 F1 [.slice Ai ni ci] ∧ own Try.prog w (.sl (x.parts.map Vec.toD)) 32 F2 [.slice Ap np cp] ∧ own Try.prog w (.sl (x.names.map .s)) 24 F3 [.slice An nn cn] ∧
    own Try.prog w (.sl (x.cls.map .s)) 24 F4 [.slice Ac nc cc] ∧ own Try.prog w (.sl (x.levels.map .s)) 24 F5 [.slice Al nl cl] ∧ (Lit.int .i64 x.code).wf = true ∧ (Lit.int .i64 x.env).wf = true := by
  rw [Vector_toD, own] at h
  obtain ⟨fds, css, hu, rfl, h⟩ := h
  rw [Try.underlying34] at hu
  injection hu with hu; injection hu with hu; subst hu
  rw [ownL] at h
  obtain ⟨t1, t2, G1, H1, c1, d1, ht, rfl, rfl, k1, h⟩ := h
  injection ht with e1 e2; subst e1 e2
  rw [ownL] at h
  obtain ⟨t1, t2, G2, H2, c2, d2, ht, rfl, rfl, k2, h⟩ := h
  injection ht with e1 e2; subst e1 e2
  rw [ownL] at h
  obtain ⟨t1, t2, G3, H3, c3, d3, ht, rfl, rfl, k3, h⟩ := h
  injection ht with e1 e2; subst e1 e2
  rw [ownL] at h
  obtain ⟨t1, t2, G4, H4, c4, d4, ht, rfl, rfl, k4, h⟩ := h
  injection ht with e1 e2; subst e1 e2
  rw [ownL] at h
  obtain ⟨t1, t2, G5, H5, c5, d5, ht, rfl, rfl, k5, h⟩ := h
  injection ht with e1 e2; subst e1 e2
  rw [ownL] at h
  obtain ⟨t1, t2, G6, H6, c6, d6, ht, rfl, rfl, k6, h⟩ := h
  injection ht with e1 e2; subst e1 e2
  rw [ownL] at h
  obtain ⟨t1, t2, G7, H7, c7, d7, ht, rfl, rfl, k7, h⟩ := h
  injection ht with e1 e2; subst e1 e2
  rw [ownL] at h
  obtain ⟨t1, t2, G8, H8, c8, d8, ht, rfl, rfl, k8, h⟩ := h
  injection ht with e1 e2; subst e1 e2
  rw [ownL] at h
  obtain ⟨_, rfl, rfl⟩ := h
  rw [own] at k1 k7 k8
  obtain ⟨rfl, rfl, w1⟩ := k1
  obtain ⟨rfl, rfl, w7⟩ := k7
  obtain ⟨rfl, rfl, w8⟩ := k8
  obtain ⟨A2, n2, c2', rfl⟩ := own_sl_val k2
  obtain ⟨A3, n3, c3', rfl⟩ := own_sl_val k3
  obtain ⟨A4, n4, c4', rfl⟩ := own_sl_val k4
  obtain ⟨A5, n5, c5', rfl⟩ := own_sl_val k5
  obtain ⟨A6, n6, c6', rfl⟩ := own_sl_val k6
  exact ⟨_, _, _, _, _, _, _, _, _, _, _, _, _, _, _, G2, G3, G4, G5, G6, rfl, by simp, w1, k2, k3, k4, k5, k6, w7, w8⟩
set_option maxHeartbeats 2000000 in
theorem l4Copies_nil (A : Option Addr) (c : Nat) (w : World) : Calls Try.prog 101 #[.slice A 0 c] w (NewSl [] 32 w) := by
  go_enter Try.func101, Try.ntmps101
  go_wp2_with fail
  refine wp_loop_rounds 1 ?_
  rw [rounds_succ]
  go_wp2_with fail
  go_ret
  exact ⟨_, 0, 0, [w.heap.size], rfl, own_emp Try.underlying32, ⟨by simp, by simp⟩, (Below.refl _ _).alloc (Nat.le_refl _) _⟩
theorem l4Copy_plain (v : Vec) (hp : v.parts = []) (cs : List Value) (w : World) (h : rep w w.heap.size v.toD cs) (hz : szD v.toD ≤ 500000000000) : Calls Try.prog 80 #[av cs] w (NewSt v.toD 34 w) := by
  have := l4Copy_of v [] (fun A n c w hr => by
    rw [hp] at hr
    have hl := (rep_sl_len hr).1
    simp at hl
    subst hl
    exact l4Copies_nil A c w) cs w h hz
  have e : ({ v with parts := [] } : Vec) = v := by cases v; simp only at hp; subst hp; rfl
  rw [e] at this
  exact this
end Go.Proofs.Ytekcpadlmfaihaa
