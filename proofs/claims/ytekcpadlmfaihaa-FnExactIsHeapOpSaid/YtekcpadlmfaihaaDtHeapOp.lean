/- The struct HeapOp as data; what its cells are; the law's own functions sz, to, eq over it. -/
import Derived.Test.YtekcpadlmfaihaaDtVector
namespace Go.Proofs.Ytekcpadlmfaihaa
open Go.RowKit
structure Hop where
  kind : Int
  name : Str
  frm : Str
  at_ : Int
  value : Vec
def Hop.toD (x : Hop) : D := .st [.i .i64 x.kind, .s x.name, .s x.frm, .i .i64 x.at_, x.value.toD]
theorem HeapOp_toD (x : Hop) : x.toD = .st [.i .i64 x.kind, .s x.name, .s x.frm, .i .i64 x.at_, x.value.toD] := by first | rfl | exact toD_eq x
theorem HeapOp_open {w : World} {B : Nat} {x : Hop} {cs : List Value} (h : rep w B x.toD cs) : ∃ (Aitemsvalue_ : Option Addr) (nitemsvalue_ : Nat) (citemsvalue_ : Nat) (Apartsvalue_ : Option Addr) (npartsvalue_ : Nat) (cpartsvalue_ : Nat) (Anamesvalue_ : Option Addr) (nnamesvalue_ : Nat) (cnamesvalue_ : Nat) (Aclsvalue_ : Option Addr) (nclsvalue_ : Nat) (cclsvalue_ : Nat) (Alevelsvalue_ : Option Addr) (nlevelsvalue_ : Nat) (clevelsvalue_ : Nat), cs = [.int .i64 x.kind, sv x.name, sv x.frm, .int .i64 x.at_, .int .i64 x.value.kind, .slice Aitemsvalue_ nitemsvalue_ citemsvalue_, .slice Apartsvalue_ npartsvalue_ cpartsvalue_, .slice Anamesvalue_ nnamesvalue_ cnamesvalue_, .slice Aclsvalue_ nclsvalue_ cclsvalue_, .slice Alevelsvalue_ nlevelsvalue_ clevelsvalue_, .int .i64 x.value.code, .int .i64 x.value.env] ∧ (Lit.int .i64 x.kind).wf = true ∧ x.name.length ≤ maxLen ∧ x.frm.length ≤ maxLen ∧ (Lit.int .i64 x.at_).wf = true ∧ rep w B x.value.toD [.int .i64 x.value.kind, .slice Aitemsvalue_ nitemsvalue_ citemsvalue_, .slice Apartsvalue_ npartsvalue_ cpartsvalue_, .slice Anamesvalue_ nnamesvalue_ cnamesvalue_, .slice Aclsvalue_ nclsvalue_ cclsvalue_, .slice Alevelsvalue_ nlevelsvalue_ clevelsvalue_, .int .i64 x.value.code, .int .i64 x.value.env] := by
  rw [HeapOp_toD, rep] at h
  obtain ⟨css, rfl, h⟩ := h
  rw [repL] at h
  obtain ⟨c0, css, rfl, k0, h⟩ := h
  rw [repL] at h
  obtain ⟨c1, css, rfl, k1, h⟩ := h
  rw [repL] at h
  obtain ⟨c2, css, rfl, k2, h⟩ := h
  rw [repL] at h
  obtain ⟨c3, css, rfl, k3, h⟩ := h
  rw [repL] at h
  obtain ⟨c4, css, rfl, k4, h⟩ := h
  rw [repL] at h
  subst h
  rw [rep] at k0
  obtain ⟨rfl, k0⟩ := k0
  rw [rep] at k1
  obtain ⟨rfl, k1⟩ := k1
  rw [rep] at k2
  obtain ⟨rfl, k2⟩ := k2
  rw [rep] at k3
  obtain ⟨rfl, k3⟩ := k3
  obtain ⟨v4Aitemsvalue_, v4nitemsvalue_, v4citemsvalue_, v4Apartsvalue_, v4npartsvalue_, v4cpartsvalue_, v4Anamesvalue_, v4nnamesvalue_, v4cnamesvalue_, v4Aclsvalue_, v4nclsvalue_, v4cclsvalue_, v4Alevelsvalue_, v4nlevelsvalue_, v4clevelsvalue_, rfl, _⟩ := Vector_open k4
  exact ⟨v4Aitemsvalue_, v4nitemsvalue_, v4citemsvalue_, v4Apartsvalue_, v4npartsvalue_, v4cpartsvalue_, v4Anamesvalue_, v4nnamesvalue_, v4cnamesvalue_, v4Aclsvalue_, v4nclsvalue_, v4cclsvalue_, v4Alevelsvalue_, v4nlevelsvalue_, v4clevelsvalue_, rfl, k0, k1, k2, k3, k4⟩
theorem HeapOp_shut {w : World} {B : Nat} {x : Hop} {Aitemsvalue_ : Option Addr} {nitemsvalue_ : Nat} {citemsvalue_ : Nat} {Apartsvalue_ : Option Addr} {npartsvalue_ : Nat} {cpartsvalue_ : Nat} {Anamesvalue_ : Option Addr} {nnamesvalue_ : Nat} {cnamesvalue_ : Nat} {Aclsvalue_ : Option Addr} {nclsvalue_ : Nat} {cclsvalue_ : Nat} {Alevelsvalue_ : Option Addr} {nlevelsvalue_ : Nat} {clevelsvalue_ : Nat} (wkind : (Lit.int .i64 x.kind).wf = true) (wname : x.name.length ≤ maxLen) (wfrm : x.frm.length ≤ maxLen) (wat_ : (Lit.int .i64 x.at_).wf = true) (rvalue : rep w B x.value.toD [.int .i64 x.value.kind, .slice Aitemsvalue_ nitemsvalue_ citemsvalue_, .slice Apartsvalue_ npartsvalue_ cpartsvalue_, .slice Anamesvalue_ nnamesvalue_ cnamesvalue_, .slice Aclsvalue_ nclsvalue_ cclsvalue_, .slice Alevelsvalue_ nlevelsvalue_ clevelsvalue_, .int .i64 x.value.code, .int .i64 x.value.env]) : rep w B x.toD [.int .i64 x.kind, sv x.name, sv x.frm, .int .i64 x.at_, .int .i64 x.value.kind, .slice Aitemsvalue_ nitemsvalue_ citemsvalue_, .slice Apartsvalue_ npartsvalue_ cpartsvalue_, .slice Anamesvalue_ nnamesvalue_ cnamesvalue_, .slice Aclsvalue_ nclsvalue_ cclsvalue_, .slice Alevelsvalue_ nlevelsvalue_ clevelsvalue_, .int .i64 x.value.code, .int .i64 x.value.env] := by
  rw [HeapOp_toD, rep]
  exact ⟨[[.int .i64 x.kind], [sv x.name], [sv x.frm], [.int .i64 x.at_], [.int .i64 x.value.kind, .slice Aitemsvalue_ nitemsvalue_ citemsvalue_, .slice Apartsvalue_ npartsvalue_ cpartsvalue_, .slice Anamesvalue_ nnamesvalue_ cnamesvalue_, .slice Aclsvalue_ nclsvalue_ cclsvalue_, .slice Alevelsvalue_ nlevelsvalue_ clevelsvalue_, .int .i64 x.value.code, .int .i64 x.value.env]], rfl, repL_cons.2 ⟨by rw [rep]; exact ⟨rfl, wkind⟩, repL_cons.2 ⟨by rw [rep]; exact ⟨rfl, wname⟩, repL_cons.2 ⟨by rw [rep]; exact ⟨rfl, wfrm⟩, repL_cons.2 ⟨by rw [rep]; exact ⟨rfl, wat_⟩, repL_cons.2 ⟨rvalue, repL_nil⟩⟩⟩⟩⟩⟩
theorem HeapOp_own {w : World} {x : Hop} {Aitemsvalue_ : Option Addr} {nitemsvalue_ : Nat} {citemsvalue_ : Nat} {Apartsvalue_ : Option Addr} {npartsvalue_ : Nat} {cpartsvalue_ : Nat} {Anamesvalue_ : Option Addr} {nnamesvalue_ : Nat} {cnamesvalue_ : Nat} {Aclsvalue_ : Option Addr} {nclsvalue_ : Nat} {cclsvalue_ : Nat} {Alevelsvalue_ : Option Addr} {nlevelsvalue_ : Nat} {clevelsvalue_ : Nat} {Fvalue : List Nat} (wkind : (Lit.int .i64 x.kind).wf = true) (wname : x.name.length ≤ maxLen) (wfrm : x.frm.length ≤ maxLen) (wat_ : (Lit.int .i64 x.at_).wf = true) (rvalue : own Try.prog w (x.value.toD) 34 Fvalue [.int .i64 x.value.kind, .slice Aitemsvalue_ nitemsvalue_ citemsvalue_, .slice Apartsvalue_ npartsvalue_ cpartsvalue_, .slice Anamesvalue_ nnamesvalue_ cnamesvalue_, .slice Aclsvalue_ nclsvalue_ cclsvalue_, .slice Alevelsvalue_ nlevelsvalue_ clevelsvalue_, .int .i64 x.value.code, .int .i64 x.value.env]) : own Try.prog w x.toD 36 (Fvalue ++ []) [.int .i64 x.kind, sv x.name, sv x.frm, .int .i64 x.at_, .int .i64 x.value.kind, .slice Aitemsvalue_ nitemsvalue_ citemsvalue_, .slice Apartsvalue_ npartsvalue_ cpartsvalue_, .slice Anamesvalue_ nnamesvalue_ cnamesvalue_, .slice Aclsvalue_ nclsvalue_ cclsvalue_, .slice Alevelsvalue_ nlevelsvalue_ clevelsvalue_, .int .i64 x.value.code, .int .i64 x.value.env] := by
  rw [HeapOp_toD, own]
  exact ⟨_, [[.int .i64 x.kind], [sv x.name], [sv x.frm], [.int .i64 x.at_], [.int .i64 x.value.kind, .slice Aitemsvalue_ nitemsvalue_ citemsvalue_, .slice Apartsvalue_ npartsvalue_ cpartsvalue_, .slice Anamesvalue_ nnamesvalue_ cnamesvalue_, .slice Aclsvalue_ nclsvalue_ cclsvalue_, .slice Alevelsvalue_ nlevelsvalue_ clevelsvalue_, .int .i64 x.value.code, .int .i64 x.value.env]], Try.underlying36, rfl, (ownL_cons (F1 := []) (by rw [own]; exact ⟨rfl, rfl, wkind⟩) (ownL_cons (F1 := []) (by rw [own]; exact ⟨rfl, rfl, wname⟩) (ownL_cons (F1 := []) (by rw [own]; exact ⟨rfl, rfl, wfrm⟩) (ownL_cons (F1 := []) (by rw [own]; exact ⟨rfl, rfl, wat_⟩) (ownL_cons rvalue ownL_nil)))))⟩
theorem HeapOp_at {w : World} {B : Nat} {l : List Hop} {A : Option Addr} {n c k : Nat} (h : rep w B (.sl (l.map Hop.toD)) [.slice A n c]) (hk : k < n) :
    ∃ (b off : Nat) (x : Hop) (Aitemsvalue_ : Option Addr) (nitemsvalue_ : Nat) (citemsvalue_ : Nat) (Apartsvalue_ : Option Addr) (npartsvalue_ : Nat) (cpartsvalue_ : Nat) (Anamesvalue_ : Option Addr) (nnamesvalue_ : Nat) (cnamesvalue_ : Nat) (Aclsvalue_ : Option Addr) (nclsvalue_ : Nat) (cclsvalue_ : Nat) (Alevelsvalue_ : Option Addr) (nlevelsvalue_ : Nat) (clevelsvalue_ : Nat), A = some ⟨b, off, none⟩ ∧ b < B ∧ l[k]? = some x ∧ rep w B x.toD [.int .i64 x.kind, sv x.name, sv x.frm, .int .i64 x.at_, .int .i64 x.value.kind, .slice Aitemsvalue_ nitemsvalue_ citemsvalue_, .slice Apartsvalue_ npartsvalue_ cpartsvalue_, .slice Anamesvalue_ nnamesvalue_ cnamesvalue_, .slice Aclsvalue_ nclsvalue_ cclsvalue_, .slice Alevelsvalue_ nlevelsvalue_ clevelsvalue_, .int .i64 x.value.code, .int .i64 x.value.env] ∧ w.cell? ⟨b, off + k * 12, none⟩ = some (.int .i64 x.kind) ∧ w.cell? ⟨b, off + k * 12 + 1, none⟩ = some (sv x.name) ∧ w.cell? ⟨b, off + k * 12 + 2, none⟩ = some (sv x.frm) ∧ w.cell? ⟨b, off + k * 12 + 3, none⟩ = some (.int .i64 x.at_) ∧ w.cell? ⟨b, off + k * 12 + 4, none⟩ = some (.int .i64 x.value.kind) ∧ w.cell? ⟨b, off + k * 12 + 5, none⟩ = some (.slice Aitemsvalue_ nitemsvalue_ citemsvalue_) ∧ w.cell? ⟨b, off + k * 12 + 6, none⟩ = some (.slice Apartsvalue_ npartsvalue_ cpartsvalue_) ∧ w.cell? ⟨b, off + k * 12 + 7, none⟩ = some (.slice Anamesvalue_ nnamesvalue_ cnamesvalue_) ∧ w.cell? ⟨b, off + k * 12 + 8, none⟩ = some (.slice Aclsvalue_ nclsvalue_ cclsvalue_) ∧ w.cell? ⟨b, off + k * 12 + 9, none⟩ = some (.slice Alevelsvalue_ nlevelsvalue_ clevelsvalue_) ∧ w.cell? ⟨b, off + k * 12 + 10, none⟩ = some (.int .i64 x.value.code) ∧ w.cell? ⟨b, off + k * 12 + 11, none⟩ = some (.int .i64 x.value.env) := by
  obtain ⟨b, off, x, cs, e, hb, hx, hr, hc⟩ := sl_at h hk
  obtain ⟨Aitemsvalue_, nitemsvalue_, citemsvalue_, Apartsvalue_, npartsvalue_, cpartsvalue_, Anamesvalue_, nnamesvalue_, cnamesvalue_, Aclsvalue_, nclsvalue_, cclsvalue_, Alevelsvalue_, nlevelsvalue_, clevelsvalue_, rfl, _⟩ := HeapOp_open hr
  exact ⟨b, off, x, Aitemsvalue_, nitemsvalue_, citemsvalue_, Apartsvalue_, npartsvalue_, cpartsvalue_, Anamesvalue_, nnamesvalue_, cnamesvalue_, Aclsvalue_, nclsvalue_, cclsvalue_, Alevelsvalue_, nlevelsvalue_, clevelsvalue_, e, hb, hx, hr, hc 0 _ rfl, hc 1 _ rfl, hc 2 _ rfl, hc 3 _ rfl, hc 4 _ rfl, hc 5 _ rfl, hc 6 _ rfl, hc 7 _ rfl, hc 8 _ rfl, hc 9 _ rfl, hc 10 _ rfl, hc 11 _ rfl⟩
theorem HeapOp_sz (x : Hop) : szD x.toD = x.name.length + (x.frm.length + (szD (x.value.toD))) := by
  rw [HeapOp_toD]; simp only [szD, szDs]; omega
def HeapOp_szP (x : Hop) : Prop := ∀ (cs : List Value) (n : Int) (w : World), rep w w.heap.size x.toD cs → 0 ≤ n → n ≤ 1048576 → Calls Try.prog 7 #[.agg cs.toArray, .int .i64 n] w fun e w' => e = .returned (.int .i64 (lft (szD x.toD) n)) ∧ Below w.heap.size w w'
set_option maxHeartbeats 4000000 in
theorem szHeapOp_of (x : Hop) : HeapOp_szP x := by
  intro cs n w h h0 h1
  have hsz := HeapOp_sz x
  obtain ⟨Aitemsvalue_, nitemsvalue_, citemsvalue_, Apartsvalue_, npartsvalue_, cpartsvalue_, Anamesvalue_, nnamesvalue_, cnamesvalue_, Aclsvalue_, nclsvalue_, cclsvalue_, Alevelsvalue_, nlevelsvalue_, clevelsvalue_, rfl, wkind, wname, wfrm, wat_, rvalue⟩ := HeapOp_open h
  have q0 := (Below.refl w.heap.size w).alloc (Nat.le_refl _) (.cells #[.int .i64 x.kind, sv x.name, sv x.frm, .int .i64 x.at_, .int .i64 x.value.kind, .slice Aitemsvalue_ nitemsvalue_ citemsvalue_, .slice Apartsvalue_ npartsvalue_ cpartsvalue_, .slice Anamesvalue_ nnamesvalue_ cnamesvalue_, .slice Aclsvalue_ nclsvalue_ cclsvalue_, .slice Alevelsvalue_ nlevelsvalue_ clevelsvalue_, .int .i64 x.value.code, .int .i64 x.value.env] 28)
  have HSZ := Lib.hid hsz
  clear hsz
  have uname : x.name.length ≤ 9223372036854775807 := wname
  have ufrm : x.frm.length ≤ 9223372036854775807 := wfrm
  go_enter Try.func7, Try.ntmps7
  by_cases g0 : n < (x.name.length : Int)
  · have d0 : decide (n - (x.name.length : Int) < 0) = true := by simp; omega
    go_wp2_with fail
    go_ret
    exact ⟨ret_int (by rw [HSZ.out, lft, if_neg (by omega)]), q0⟩
  have d0 : decide (n - (x.name.length : Int) < 0) = false := by simp; omega
  by_cases g1 : (n - x.name.length) < (x.frm.length : Int)
  · have d1 : decide ((n - x.name.length) - (x.frm.length : Int) < 0) = true := by simp; omega
    go_wp2_with fail
    go_ret
    exact ⟨ret_int (by rw [HSZ.out, lft, if_neg (by omega)]), q0⟩
  have d1 : decide ((n - x.name.length) - (x.frm.length : Int) < 0) = false := by simp; omega
  go_wp2_with fail
  refine (szVector_any x.value _ _ _ (rep_in rvalue q0 q0.size) (by omega) (by omega)).mono ?_
  rintro e w1 ⟨rfl, b1⟩
  obtain ⟨hc1, _⟩ := bcell b1
  have z1 := b1.size
  (try simp only [wsize_alloc] at hc1 z1)
  have y1 : w.heap.size < w1.heap.size := by omega
  have q1 := bth q0 b1
  by_cases g2 : lft (szD (x.value.toD)) ((n - x.name.length) - x.frm.length) < 0
  · have g2' : ((n - x.name.length) - x.frm.length) < ((szD (x.value.toD) : Nat) : Int) := by unfold lft at g2; split at g2 <;> omega
    go_wp2_with fail
    go_ret
    exact ⟨ret_int (by rw [HSZ.out, lft, if_neg (by omega)]), q1⟩
  have g2' : ((szD (x.value.toD) : Nat) : Int) ≤ ((n - x.name.length) - x.frm.length) := by unfold lft at g2; split at g2 <;> omega
  have e2 : lft (szD (x.value.toD)) ((n - x.name.length) - x.frm.length) = ((n - x.name.length) - x.frm.length) - ((szD (x.value.toD) : Nat) : Int) := lft_of g2'
  obtain ⟨m2, hm2⟩ : ∃ m : Int, m = lft (szD (x.value.toD)) ((n - x.name.length) - x.frm.length) := ⟨_, rfl⟩
  rw [← hm2] at g2 e2 ⊢
  have E2 := Lib.hid e2
  have M2 := Lib.hid hm2
  have le2 : 0 ≤ m2 ∧ m2 ≤ ((n - x.name.length) - x.frm.length) := by omega
  clear e2 hm2
  skip
  go_wp2_with fail
  go_ret
  exact ⟨ret_int (by rw [HSZ.out, lft, if_pos (by have := E2.out;  omega)] <;> (have := E2.out;  omega)), q1⟩
theorem szHeapOp_any (x : Hop) : HeapOp_szP x := szHeapOp_of x
def HeapOp_toP (x : Hop) : Prop := ∀ (cs : List Value) (w : World), rep w w.heap.size x.toD cs → szD x.toD ≤ 1048576 → Calls Try.prog 9 #[.agg cs.toArray] w (NewSt x.toD 36 w)
set_option maxRecDepth 100000 in
set_option maxHeartbeats 8000000 in
theorem toHeapOp_of (x : Hop) : HeapOp_toP x := by
  intro cs w h hz
  have hsz := HeapOp_sz x
  rw [hsz] at hz
  clear hsz
  obtain ⟨Aitemsvalue_, nitemsvalue_, citemsvalue_, Apartsvalue_, npartsvalue_, cpartsvalue_, Anamesvalue_, nnamesvalue_, cnamesvalue_, Aclsvalue_, nclsvalue_, cclsvalue_, Alevelsvalue_, nlevelsvalue_, clevelsvalue_, rfl, wkind, wname, wfrm, wat_, rvalue⟩ := HeapOp_open h
  go_enter Try.func9, Try.ntmps9
  go_wp2_with fail
  refine (toVector_any x.value _ _ (rep_in rvalue (by repeat' (first | with_reducible exact (Below.refl w.heap.size w) | refine Below.setCell ?_ ?_ _ | refine Below.alloc ?_ ?_ _ | ((try simp only [wsize_alloc, wsize_set]); omega))) (by simp only [wsize_alloc, wsize_set]; omega)) (by omega)).mono ?_
  rintro e w1 ⟨k1, G1, rfl, o1, fr1, b1⟩
  obtain ⟨g1Aitemsvalue_, g1nitemsvalue_, g1citemsvalue_, g1Apartsvalue_, g1npartsvalue_, g1cpartsvalue_, g1Anamesvalue_, g1nnamesvalue_, g1cnamesvalue_, g1Aclsvalue_, g1nclsvalue_, g1cclsvalue_, g1Alevelsvalue_, g1nlevelsvalue_, g1clevelsvalue_, rfl, _⟩ := Vector_open (own_rep _ _ _ _ o1)
  obtain ⟨hc1, hf1⟩ := bcell b1
  have z1 := b1.size
  simp only [wsize_alloc, wsize_set] at hc1 hf1 z1 fr1
  have q1 : Below w.heap.size w w1 := Below.trans (by repeat' (first | with_reducible exact (Below.refl w.heap.size w) | refine Below.setCell ?_ ?_ _ | refine Below.alloc ?_ ?_ _ | ((try simp only [wsize_alloc, wsize_set]); omega))) (b1.mono (by simp only [wsize_alloc, wsize_set]; omega))
  have y1a : w.heap.size < w1.heap.size := by omega
  have y1b : w.heap.size + 1 < w1.heap.size := by omega
  have y1c : w.heap.size + 1 + 1 < w1.heap.size := by omega
  go_wp2_with fail
  skip
  refine bodyPost_ret (v := .agg #[.int .i64 x.kind, sv x.name, sv x.frm, .int .i64 x.at_, .int .i64 x.value.kind, .slice g1Aitemsvalue_ g1nitemsvalue_ g1citemsvalue_, .slice g1Apartsvalue_ g1npartsvalue_ g1cpartsvalue_, .slice g1Anamesvalue_ g1nnamesvalue_ g1cnamesvalue_, .slice g1Aclsvalue_ g1nclsvalue_ g1cclsvalue_, .slice g1Alevelsvalue_ g1nlevelsvalue_ g1clevelsvalue_, .int .i64 x.value.code, .int .i64 x.value.env]) (by simp [results, Try.results9, go_sem, hc1, y1a, y1b, y1c]) rfl ⟨_, G1 ++ [], rfl, ?_, ?_, ?_⟩
  · refine HeapOp_own wkind wname wfrm wat_ ?_
    · repeat' (first | with_reducible exact o1 | refine own_poke ?_ ?_ _ | (exact fr1.notin (by simp only []; omega)))
  · have k0 : Fresh w1.heap.size [] := Fresh.nil
    have j1 := Fresh.app fr1 (own_lt _ _ _ _ o1) k0 (by omega)
    exact j1.mono (by omega)
  · exact (by repeat' (first | with_reducible exact q1 | refine Below.setCell ?_ ?_ _ | refine Below.alloc ?_ ?_ _ | ((try simp only [wsize_alloc, wsize_set]); omega)))
theorem HeapOpInfo : (Try.prog.info? 36).map (fun i => (i.zero, i.size, i.bytes)) = some (some (.agg #[.int .i64 0, sv [], sv [], .int .i64 0, .int .i64 0, .slice none 0 0, .slice none 0 0, .slice none 0 0, .slice none 0 0, .slice none 0 0, .int .i64 0, .int .i64 0]), 12, 192) := by kernel_rfl
theorem toHeapOp_any (x : Hop) : HeapOp_toP x := toHeapOp_of x
def HeapOp_eqP (x : Hop) : Prop := ∀ (cs cs' : List Value) (w : World), rep w w.heap.size x.toD cs → rep w w.heap.size x.toD cs' → Calls Try.prog 11 #[.agg cs.toArray, .agg cs'.toArray] w fun e w' => e = .returned (.bool true) ∧ Below w.heap.size w w'
set_option maxHeartbeats 8000000 in
theorem eqHeapOp_of (x : Hop) : HeapOp_eqP x := by
  intro cs cs' w h h'
  obtain ⟨Aitemsvalue_, nitemsvalue_, citemsvalue_, Apartsvalue_, npartsvalue_, cpartsvalue_, Anamesvalue_, nnamesvalue_, cnamesvalue_, Aclsvalue_, nclsvalue_, cclsvalue_, Alevelsvalue_, nlevelsvalue_, clevelsvalue_, rfl, wkind, wname, wfrm, wat_, rvalue⟩ := HeapOp_open h
  obtain ⟨Aitemsvalue_', nitemsvalue_', citemsvalue_', Apartsvalue_', npartsvalue_', cpartsvalue_', Anamesvalue_', nnamesvalue_', cnamesvalue_', Aclsvalue_', nclsvalue_', cclsvalue_', Alevelsvalue_', nlevelsvalue_', clevelsvalue_', rfl, wkind', wname', wfrm', wat_', rvalue'⟩ := HeapOp_open h'
  have ikind : (x.kind != x.kind) = false := by simp
  have iname : (x.name == x.name) = true := by simp
  have ifrm : (x.frm == x.frm) = true := by simp
  have iat_ : (x.at_ != x.at_) = false := by simp
  have q0 := ((Below.refl w.heap.size w).alloc (Nat.le_refl _) (.cells #[.int .i64 x.kind, sv x.name, sv x.frm, .int .i64 x.at_, .int .i64 x.value.kind, .slice Aitemsvalue_ nitemsvalue_ citemsvalue_, .slice Apartsvalue_ npartsvalue_ cpartsvalue_, .slice Anamesvalue_ nnamesvalue_ cnamesvalue_, .slice Aclsvalue_ nclsvalue_ cclsvalue_, .slice Alevelsvalue_ nlevelsvalue_ clevelsvalue_, .int .i64 x.value.code, .int .i64 x.value.env] 36)).alloc (by simp only [wsize_alloc]; omega) (.cells #[.int .i64 x.kind, sv x.name, sv x.frm, .int .i64 x.at_, .int .i64 x.value.kind, .slice Aitemsvalue_' nitemsvalue_' citemsvalue_', .slice Apartsvalue_' npartsvalue_' cpartsvalue_', .slice Anamesvalue_' nnamesvalue_' cnamesvalue_', .slice Aclsvalue_' nclsvalue_' cclsvalue_', .slice Alevelsvalue_' nlevelsvalue_' clevelsvalue_', .int .i64 x.value.code, .int .i64 x.value.env] 36)
  go_enter Try.func11, Try.ntmps11
  go_wp2_with fail
  refine (eqVector_any x.value _ _ _ (rep_in rvalue q0 q0.size) (rep_in rvalue' q0 q0.size)).mono ?_
  rintro e w1 ⟨rfl, b1⟩
  obtain ⟨hc1, _⟩ := bcell b1
  have z1 := b1.size
  (try simp only [wsize_alloc] at hc1 z1)
  have y1a : w.heap.size < w1.heap.size := by omega
  have y1b : w.heap.size + 1 < w1.heap.size := by omega
  have q1 := bth q0 b1
  go_wp2_with fail
  go_ret
  exact ⟨rfl, q1⟩
theorem eqHeapOp_any (x : Hop) : HeapOp_eqP x := eqHeapOp_of x
end Go.Proofs.Ytekcpadlmfaihaa
