/- The struct HeapOp as data; what its cells are; the law's own functions sz, to, eq over it. Operations on a heap: what IsHeapOp of the program and of the reference return. -/
import Derived.Test.YtekcpadlmfaihaaJD
import Derived.Test.YtekcpadlmfaihaaJQ
set_option linter.unusedSimpArgs false
set_option linter.unusedVariables false
namespace Go.Proofs.Ytekcpadlmfaihaa
open Go.RowKit
structure Hop where
  kind : Int
  name : Str
  frm : Str
  at_ : Int
  value : Vec
def Hop.toD (x : Hop) : D := .st [.i .i64 x.kind, .s x.name, .s x.frm, .i .i64 x.at_, x.value.toD]
theorem HeapOp_toD (x : Hop) : x.toD = .st [.i .i64 x.kind, .s x.name, .s x.frm, .i .i64 x.at_, x.value.toD] := by first | rfl | exact toD_eq x
theorem HeapOp_open {w : World} {B : Nat} {x : Hop} {cs : List Value} (h : rep w B x.toD cs) : ∃ (Aitemsvalue_ : Option Addr) (nitemsvalue_ : Nat) (citemsvalue_ : Nat) (Apartsvalue_ : Option Addr) (npartsvalue_ : Nat) (cpartsvalue_ : Nat) (Anamesvalue_ : Option Addr) (nnamesvalue_ : Nat) (cnamesvalue_ : Nat) (Aclsvalue_ : Option Addr) (nclsvalue_ : Nat) (cclsvalue_ : Nat) (Alevelsvalue_ : Option Addr) (nlevelsvalue_ : Nat) (clevelsvalue_ : Nat), cs = [.int .i64 x.kind, sv x.name, sv x.frm, .int .i64 x.at_, .int .i64 x.value.kind, .slice Aitemsvalue_ nitemsvalue_ citemsvalue_, .slice Apartsvalue_ npartsvalue_ cpartsvalue_, .slice Anamesvalue_ nnamesvalue_ cnamesvalue_, .slice Aclsvalue_ nclsvalue_ cclsvalue_, .slice Alevelsvalue_ nlevelsvalue_ clevelsvalue_, .int .i64 x.value.code, .int .i64 x.value.env] ∧ (Lit.int .i64 x.kind).wf = true ∧ x.name.length ≤ maxLen ∧ x.frm.length ≤ maxLen ∧ (Lit.int .i64 x.at_).wf = true ∧ rep w B x.value.toD [.int .i64 x.value.kind, .slice Aitemsvalue_ nitemsvalue_ citemsvalue_, .slice Apartsvalue_ npartsvalue_ cpartsvalue_, .slice Anamesvalue_ nnamesvalue_ cnamesvalue_, .slice Aclsvalue_ nclsvalue_ cclsvalue_, .slice Alevelsvalue_ nlevelsvalue_ clevelsvalue_, .int .i64 x.value.code, .int .i64 x.value.env] := by
  rw [HeapOp_toD, rep] at h
  obtain ⟨css, rfl, h⟩ := h
  rw [repL] at h
  obtain ⟨c0, css, rfl, k0, h⟩ := h
  rw [repL] at h
  obtain ⟨c1, css, rfl, k1, h⟩ := h
  rw [repL] at h
  obtain ⟨c2, css, rfl, k2, h⟩ := h
  rw [repL] at h
  obtain ⟨c3, css, rfl, k3, h⟩ := h
  rw [repL] at h
  obtain ⟨c4, css, rfl, k4, h⟩ := h
  rw [repL] at h
  subst h
  rw [rep] at k0
  obtain ⟨rfl, k0⟩ := k0
  rw [rep] at k1
  obtain ⟨rfl, k1⟩ := k1
  rw [rep] at k2
  obtain ⟨rfl, k2⟩ := k2
  rw [rep] at k3
  obtain ⟨rfl, k3⟩ := k3
  obtain ⟨v4Aitemsvalue_, v4nitemsvalue_, v4citemsvalue_, v4Apartsvalue_, v4npartsvalue_, v4cpartsvalue_, v4Anamesvalue_, v4nnamesvalue_, v4cnamesvalue_, v4Aclsvalue_, v4nclsvalue_, v4cclsvalue_, v4Alevelsvalue_, v4nlevelsvalue_, v4clevelsvalue_, rfl, _⟩ := Vector_open k4
  exact ⟨v4Aitemsvalue_, v4nitemsvalue_, v4citemsvalue_, v4Apartsvalue_, v4npartsvalue_, v4cpartsvalue_, v4Anamesvalue_, v4nnamesvalue_, v4cnamesvalue_, v4Aclsvalue_, v4nclsvalue_, v4cclsvalue_, v4Alevelsvalue_, v4nlevelsvalue_, v4clevelsvalue_, rfl, k0, k1, k2, k3, k4⟩
theorem HeapOp_shut {w : World} {B : Nat} {x : Hop} {Aitemsvalue_ : Option Addr} {nitemsvalue_ : Nat} {citemsvalue_ : Nat} {Apartsvalue_ : Option Addr} {npartsvalue_ : Nat} {cpartsvalue_ : Nat} {Anamesvalue_ : Option Addr} {nnamesvalue_ : Nat} {cnamesvalue_ : Nat} {Aclsvalue_ : Option Addr} {nclsvalue_ : Nat} {cclsvalue_ : Nat} {Alevelsvalue_ : Option Addr} {nlevelsvalue_ : Nat} {clevelsvalue_ : Nat} (wkind : (Lit.int .i64 x.kind).wf = true) (wname : x.name.length ≤ maxLen) (wfrm : x.frm.length ≤ maxLen) (wat_ : (Lit.int .i64 x.at_).wf = true) (rvalue : rep w B x.value.toD [.int .i64 x.value.kind, .slice Aitemsvalue_ nitemsvalue_ citemsvalue_, .slice Apartsvalue_ npartsvalue_ cpartsvalue_, .slice Anamesvalue_ nnamesvalue_ cnamesvalue_, .slice Aclsvalue_ nclsvalue_ cclsvalue_, .slice Alevelsvalue_ nlevelsvalue_ clevelsvalue_, .int .i64 x.value.code, .int .i64 x.value.env]) : rep w B x.toD [.int .i64 x.kind, sv x.name, sv x.frm, .int .i64 x.at_, .int .i64 x.value.kind, .slice Aitemsvalue_ nitemsvalue_ citemsvalue_, .slice Apartsvalue_ npartsvalue_ cpartsvalue_, .slice Anamesvalue_ nnamesvalue_ cnamesvalue_, .slice Aclsvalue_ nclsvalue_ cclsvalue_, .slice Alevelsvalue_ nlevelsvalue_ clevelsvalue_, .int .i64 x.value.code, .int .i64 x.value.env] := by
  rw [HeapOp_toD, rep]
  exact ⟨[[.int .i64 x.kind], [sv x.name], [sv x.frm], [.int .i64 x.at_], [.int .i64 x.value.kind, .slice Aitemsvalue_ nitemsvalue_ citemsvalue_, .slice Apartsvalue_ npartsvalue_ cpartsvalue_, .slice Anamesvalue_ nnamesvalue_ cnamesvalue_, .slice Aclsvalue_ nclsvalue_ cclsvalue_, .slice Alevelsvalue_ nlevelsvalue_ clevelsvalue_, .int .i64 x.value.code, .int .i64 x.value.env]], rfl, repL_cons.2 ⟨by rw [rep]; exact ⟨rfl, wkind⟩, repL_cons.2 ⟨by rw [rep]; exact ⟨rfl, wname⟩, repL_cons.2 ⟨by rw [rep]; exact ⟨rfl, wfrm⟩, repL_cons.2 ⟨by rw [rep]; exact ⟨rfl, wat_⟩, repL_cons.2 ⟨rvalue, repL_nil⟩⟩⟩⟩⟩⟩
theorem HeapOp_own {w : World} {x : Hop} {Aitemsvalue_ : Option Addr} {nitemsvalue_ : Nat} {citemsvalue_ : Nat} {Apartsvalue_ : Option Addr} {npartsvalue_ : Nat} {cpartsvalue_ : Nat} {Anamesvalue_ : Option Addr} {nnamesvalue_ : Nat} {cnamesvalue_ : Nat} {Aclsvalue_ : Option Addr} {nclsvalue_ : Nat} {cclsvalue_ : Nat} {Alevelsvalue_ : Option Addr} {nlevelsvalue_ : Nat} {clevelsvalue_ : Nat} {Fvalue : List Nat} (wkind : (Lit.int .i64 x.kind).wf = true) (wname : x.name.length ≤ maxLen) (wfrm : x.frm.length ≤ maxLen) (wat_ : (Lit.int .i64 x.at_).wf = true) (rvalue : own Try.prog w (x.value.toD) 34 Fvalue [.int .i64 x.value.kind, .slice Aitemsvalue_ nitemsvalue_ citemsvalue_, .slice Apartsvalue_ npartsvalue_ cpartsvalue_, .slice Anamesvalue_ nnamesvalue_ cnamesvalue_, .slice Aclsvalue_ nclsvalue_ cclsvalue_, .slice Alevelsvalue_ nlevelsvalue_ clevelsvalue_, .int .i64 x.value.code, .int .i64 x.value.env]) : own Try.prog w x.toD 36 (Fvalue ++ []) [.int .i64 x.kind, sv x.name, sv x.frm, .int .i64 x.at_, .int .i64 x.value.kind, .slice Aitemsvalue_ nitemsvalue_ citemsvalue_, .slice Apartsvalue_ npartsvalue_ cpartsvalue_, .slice Anamesvalue_ nnamesvalue_ cnamesvalue_, .slice Aclsvalue_ nclsvalue_ cclsvalue_, .slice Alevelsvalue_ nlevelsvalue_ clevelsvalue_, .int .i64 x.value.code, .int .i64 x.value.env] := by
  rw [HeapOp_toD, own]
  exact ⟨_, [[.int .i64 x.kind], [sv x.name], [sv x.frm], [.int .i64 x.at_], [.int .i64 x.value.kind, .slice Aitemsvalue_ nitemsvalue_ citemsvalue_, .slice Apartsvalue_ npartsvalue_ cpartsvalue_, .slice Anamesvalue_ nnamesvalue_ cnamesvalue_, .slice Aclsvalue_ nclsvalue_ cclsvalue_, .slice Alevelsvalue_ nlevelsvalue_ clevelsvalue_, .int .i64 x.value.code, .int .i64 x.value.env]], Try.underlying36, rfl, (ownL_cons (F1 := []) (by rw [own]; exact ⟨rfl, rfl, wkind⟩) (ownL_cons (F1 := []) (by rw [own]; exact ⟨rfl, rfl, wname⟩) (ownL_cons (F1 := []) (by rw [own]; exact ⟨rfl, rfl, wfrm⟩) (ownL_cons (F1 := []) (by rw [own]; exact ⟨rfl, rfl, wat_⟩) (ownL_cons rvalue ownL_nil)))))⟩
theorem HeapOp_at {w : World} {B : Nat} {l : List Hop} {A : Option Addr} {n c k : Nat} (h : rep w B (.sl (l.map Hop.toD)) [.slice A n c]) (hk : k < n) :
    ∃ (b off : Nat) (x : Hop) (Aitemsvalue_ : Option Addr) (nitemsvalue_ : Nat) (citemsvalue_ : Nat) (Apartsvalue_ : Option Addr) (npartsvalue_ : Nat) (cpartsvalue_ : Nat) (Anamesvalue_ : Option Addr) (nnamesvalue_ : Nat) (cnamesvalue_ : Nat) (Aclsvalue_ : Option Addr) (nclsvalue_ : Nat) (cclsvalue_ : Nat) (Alevelsvalue_ : Option Addr) (nlevelsvalue_ : Nat) (clevelsvalue_ : Nat), A = some ⟨b, off, none⟩ ∧ b < B ∧ l[k]? = some x ∧ rep w B x.toD [.int .i64 x.kind, sv x.name, sv x.frm, .int .i64 x.at_, .int .i64 x.value.kind, .slice Aitemsvalue_ nitemsvalue_ citemsvalue_, .slice Apartsvalue_ npartsvalue_ cpartsvalue_, .slice Anamesvalue_ nnamesvalue_ cnamesvalue_, .slice Aclsvalue_ nclsvalue_ cclsvalue_, .slice Alevelsvalue_ nlevelsvalue_ clevelsvalue_, .int .i64 x.value.code, .int .i64 x.value.env] ∧ w.cell? ⟨b, off + k * 12, none⟩ = some (.int .i64 x.kind) ∧ w.cell? ⟨b, off + k * 12 + 1, none⟩ = some (sv x.name) ∧ w.cell? ⟨b, off + k * 12 + 2, none⟩ = some (sv x.frm) ∧ w.cell? ⟨b, off + k * 12 + 3, none⟩ = some (.int .i64 x.at_) ∧ w.cell? ⟨b, off + k * 12 + 4, none⟩ = some (.int .i64 x.value.kind) ∧ w.cell? ⟨b, off + k * 12 + 5, none⟩ = some (.slice Aitemsvalue_ nitemsvalue_ citemsvalue_) ∧ w.cell? ⟨b, off + k * 12 + 6, none⟩ = some (.slice Apartsvalue_ npartsvalue_ cpartsvalue_) ∧ w.cell? ⟨b, off + k * 12 + 7, none⟩ = some (.slice Anamesvalue_ nnamesvalue_ cnamesvalue_) ∧ w.cell? ⟨b, off + k * 12 + 8, none⟩ = some (.slice Aclsvalue_ nclsvalue_ cclsvalue_) ∧ w.cell? ⟨b, off + k * 12 + 9, none⟩ = some (.slice Alevelsvalue_ nlevelsvalue_ clevelsvalue_) ∧ w.cell? ⟨b, off + k * 12 + 10, none⟩ = some (.int .i64 x.value.code) ∧ w.cell? ⟨b, off + k * 12 + 11, none⟩ = some (.int .i64 x.value.env) := by
  obtain ⟨b, off, x, cs, e, hb, hx, hr, hc⟩ := sl_at h hk
  obtain ⟨Aitemsvalue_, nitemsvalue_, citemsvalue_, Apartsvalue_, npartsvalue_, cpartsvalue_, Anamesvalue_, nnamesvalue_, cnamesvalue_, Aclsvalue_, nclsvalue_, cclsvalue_, Alevelsvalue_, nlevelsvalue_, clevelsvalue_, rfl, _⟩ := HeapOp_open hr
  exact ⟨b, off, x, Aitemsvalue_, nitemsvalue_, citemsvalue_, Apartsvalue_, npartsvalue_, cpartsvalue_, Anamesvalue_, nnamesvalue_, cnamesvalue_, Aclsvalue_, nclsvalue_, cclsvalue_, Alevelsvalue_, nlevelsvalue_, clevelsvalue_, e, hb, hx, hr, hc 0 _ rfl, hc 1 _ rfl, hc 2 _ rfl, hc 3 _ rfl, hc 4 _ rfl, hc 5 _ rfl, hc 6 _ rfl, hc 7 _ rfl, hc 8 _ rfl, hc 9 _ rfl, hc 10 _ rfl, hc 11 _ rfl⟩
theorem HeapOp_sz (x : Hop) : szD x.toD = x.name.length + (x.frm.length + (szD (x.value.toD))) := by
  rw [HeapOp_toD]; simp only [szD, szDs]; omega
def HeapOp_szP (x : Hop) : Prop := ∀ (cs : List Value) (n : Int) (w : World), rep w w.heap.size x.toD cs → 0 ≤ n → n ≤ 1048576 → Calls Try.prog 7 #[.agg cs.toArray, .int .i64 n] w fun e w' => e = .returned (.int .i64 (lft (szD x.toD) n)) ∧ Below w.heap.size w w'
set_option maxHeartbeats 4000000 in
theorem szHeapOp_of (x : Hop) : HeapOp_szP x := by
  intro cs n w h h0 h1
  have hsz := HeapOp_sz x
  obtain ⟨Aitemsvalue_, nitemsvalue_, citemsvalue_, Apartsvalue_, npartsvalue_, cpartsvalue_, Anamesvalue_, nnamesvalue_, cnamesvalue_, Aclsvalue_, nclsvalue_, cclsvalue_, Alevelsvalue_, nlevelsvalue_, clevelsvalue_, rfl, wkind, wname, wfrm, wat_, rvalue⟩ := HeapOp_open h
  have q0 := (Below.refl w.heap.size w).alloc (Nat.le_refl _) (.cells #[.int .i64 x.kind, sv x.name, sv x.frm, .int .i64 x.at_, .int .i64 x.value.kind, .slice Aitemsvalue_ nitemsvalue_ citemsvalue_, .slice Apartsvalue_ npartsvalue_ cpartsvalue_, .slice Anamesvalue_ nnamesvalue_ cnamesvalue_, .slice Aclsvalue_ nclsvalue_ cclsvalue_, .slice Alevelsvalue_ nlevelsvalue_ clevelsvalue_, .int .i64 x.value.code, .int .i64 x.value.env] 28)
  have HSZ := Lib.hid hsz
  clear hsz
  have uname : x.name.length ≤ 9223372036854775807 := wname
  have ufrm : x.frm.length ≤ 9223372036854775807 := wfrm
  go_enter Try.func7, Try.ntmps7
  by_cases g0 : n < (x.name.length : Int)
  · have d0 : decide (n - (x.name.length : Int) < 0) = true := by simp; omega
    go_wp2_with fail
    go_ret
    exact ⟨ret_int (by rw [HSZ.out, lft, if_neg (by omega)]), q0⟩
  have d0 : decide (n - (x.name.length : Int) < 0) = false := by simp; omega
  by_cases g1 : (n - x.name.length) < (x.frm.length : Int)
  · have d1 : decide ((n - x.name.length) - (x.frm.length : Int) < 0) = true := by simp; omega
    go_wp2_with fail
    go_ret
    exact ⟨ret_int (by rw [HSZ.out, lft, if_neg (by omega)]), q0⟩
  have d1 : decide ((n - x.name.length) - (x.frm.length : Int) < 0) = false := by simp; omega
  go_wp2_with fail
  refine (szVector_any x.value _ _ _ (rep_in rvalue q0 q0.size) (by omega) (by omega)).mono ?_
  rintro e w1 ⟨rfl, b1⟩
  obtain ⟨hc1, _⟩ := bcell b1
  have z1 := b1.size
  (try simp only [wsize_alloc] at hc1 z1)
  have y1 : w.heap.size < w1.heap.size := by omega
  have q1 := bth q0 b1
  by_cases g2 : lft (szD (x.value.toD)) ((n - x.name.length) - x.frm.length) < 0
  · have g2' : ((n - x.name.length) - x.frm.length) < ((szD (x.value.toD) : Nat) : Int) := by unfold lft at g2; split at g2 <;> omega
    go_wp2_with fail
    go_ret
    exact ⟨ret_int (by rw [HSZ.out, lft, if_neg (by omega)]), q1⟩
  have g2' : ((szD (x.value.toD) : Nat) : Int) ≤ ((n - x.name.length) - x.frm.length) := by unfold lft at g2; split at g2 <;> omega
  have e2 : lft (szD (x.value.toD)) ((n - x.name.length) - x.frm.length) = ((n - x.name.length) - x.frm.length) - ((szD (x.value.toD) : Nat) : Int) := lft_of g2'
  obtain ⟨m2, hm2⟩ : ∃ m : Int, m = lft (szD (x.value.toD)) ((n - x.name.length) - x.frm.length) := ⟨_, rfl⟩
  rw [← hm2] at g2 e2 ⊢
  have E2 := Lib.hid e2
  have M2 := Lib.hid hm2
  have le2 : 0 ≤ m2 ∧ m2 ≤ ((n - x.name.length) - x.frm.length) := by omega
  clear e2 hm2
  skip
  go_wp2_with fail
  go_ret
  exact ⟨ret_int (by rw [HSZ.out, lft, if_pos (by have := E2.out;  omega)] <;> (have := E2.out;  omega)), q1⟩
theorem szHeapOp_any (x : Hop) : HeapOp_szP x := szHeapOp_of x
def HeapOp_toP (x : Hop) : Prop := ∀ (cs : List Value) (w : World), rep w w.heap.size x.toD cs → szD x.toD ≤ 1048576 → Calls Try.prog 9 #[.agg cs.toArray] w (NewSt x.toD 36 w)
set_option maxRecDepth 100000 in
set_option maxHeartbeats 8000000 in
theorem toHeapOp_of (x : Hop) : HeapOp_toP x := by
  intro cs w h hz
  have hsz := HeapOp_sz x
  rw [hsz] at hz
  clear hsz
  obtain ⟨Aitemsvalue_, nitemsvalue_, citemsvalue_, Apartsvalue_, npartsvalue_, cpartsvalue_, Anamesvalue_, nnamesvalue_, cnamesvalue_, Aclsvalue_, nclsvalue_, cclsvalue_, Alevelsvalue_, nlevelsvalue_, clevelsvalue_, rfl, wkind, wname, wfrm, wat_, rvalue⟩ := HeapOp_open h
  go_enter Try.func9, Try.ntmps9
  go_wp2_with fail
  refine (toVector_any x.value _ _ (rep_in rvalue (by repeat' (first | with_reducible exact (Below.refl w.heap.size w) | refine Below.setCell ?_ ?_ _ | refine Below.alloc ?_ ?_ _ | ((try simp only [wsize_alloc, wsize_set]); omega))) (by simp only [wsize_alloc, wsize_set]; omega)) (by omega)).mono ?_
  rintro e w1 ⟨k1, G1, rfl, o1, fr1, b1⟩
  obtain ⟨g1Aitemsvalue_, g1nitemsvalue_, g1citemsvalue_, g1Apartsvalue_, g1npartsvalue_, g1cpartsvalue_, g1Anamesvalue_, g1nnamesvalue_, g1cnamesvalue_, g1Aclsvalue_, g1nclsvalue_, g1cclsvalue_, g1Alevelsvalue_, g1nlevelsvalue_, g1clevelsvalue_, rfl, _⟩ := Vector_open (own_rep _ _ _ _ o1)
  obtain ⟨hc1, hf1⟩ := bcell b1
  have z1 := b1.size
  simp only [wsize_alloc, wsize_set] at hc1 hf1 z1 fr1
  have q1 : Below w.heap.size w w1 := Below.trans (by repeat' (first | with_reducible exact (Below.refl w.heap.size w) | refine Below.setCell ?_ ?_ _ | refine Below.alloc ?_ ?_ _ | ((try simp only [wsize_alloc, wsize_set]); omega))) (b1.mono (by simp only [wsize_alloc, wsize_set]; omega))
  have y1a : w.heap.size < w1.heap.size := by omega
  have y1b : w.heap.size + 1 < w1.heap.size := by omega
  have y1c : w.heap.size + 1 + 1 < w1.heap.size := by omega
  go_wp2_with fail
  skip
  refine bodyPost_ret (v := .agg #[.int .i64 x.kind, sv x.name, sv x.frm, .int .i64 x.at_, .int .i64 x.value.kind, .slice g1Aitemsvalue_ g1nitemsvalue_ g1citemsvalue_, .slice g1Apartsvalue_ g1npartsvalue_ g1cpartsvalue_, .slice g1Anamesvalue_ g1nnamesvalue_ g1cnamesvalue_, .slice g1Aclsvalue_ g1nclsvalue_ g1cclsvalue_, .slice g1Alevelsvalue_ g1nlevelsvalue_ g1clevelsvalue_, .int .i64 x.value.code, .int .i64 x.value.env]) (by simp [results, Try.results9, go_sem, hc1, y1a, y1b, y1c]) rfl ⟨_, G1 ++ [], rfl, ?_, ?_, ?_⟩
  · refine HeapOp_own wkind wname wfrm wat_ ?_
    · repeat' (first | with_reducible exact o1 | refine own_poke ?_ ?_ _ | (exact fr1.notin (by simp only []; omega)))
  · have k0 : Fresh w1.heap.size [] := Fresh.nil
    have j1 := Fresh.app fr1 (own_lt _ _ _ _ o1) k0 (by omega)
    exact j1.mono (by omega)
  · exact (by repeat' (first | with_reducible exact q1 | refine Below.setCell ?_ ?_ _ | refine Below.alloc ?_ ?_ _ | ((try simp only [wsize_alloc, wsize_set]); omega)))
theorem HeapOpInfo : (Try.prog.info? 36).map (fun i => (i.zero, i.size, i.bytes)) = some (some (.agg #[.int .i64 0, sv [], sv [], .int .i64 0, .int .i64 0, .slice none 0 0, .slice none 0 0, .slice none 0 0, .slice none 0 0, .slice none 0 0, .int .i64 0, .int .i64 0]), 12, 192) := by kernel_rfl
theorem toHeapOp_any (x : Hop) : HeapOp_toP x := toHeapOp_of x
def HeapOp_eqP (x : Hop) : Prop := ∀ (cs cs' : List Value) (w : World), rep w w.heap.size x.toD cs → rep w w.heap.size x.toD cs' → Calls Try.prog 11 #[.agg cs.toArray, .agg cs'.toArray] w fun e w' => e = .returned (.bool true) ∧ Below w.heap.size w w'
set_option maxHeartbeats 8000000 in
theorem eqHeapOp_of (x : Hop) : HeapOp_eqP x := by
  intro cs cs' w h h'
  obtain ⟨Aitemsvalue_, nitemsvalue_, citemsvalue_, Apartsvalue_, npartsvalue_, cpartsvalue_, Anamesvalue_, nnamesvalue_, cnamesvalue_, Aclsvalue_, nclsvalue_, cclsvalue_, Alevelsvalue_, nlevelsvalue_, clevelsvalue_, rfl, wkind, wname, wfrm, wat_, rvalue⟩ := HeapOp_open h
  obtain ⟨Aitemsvalue_', nitemsvalue_', citemsvalue_', Apartsvalue_', npartsvalue_', cpartsvalue_', Anamesvalue_', nnamesvalue_', cnamesvalue_', Aclsvalue_', nclsvalue_', cclsvalue_', Alevelsvalue_', nlevelsvalue_', clevelsvalue_', rfl, wkind', wname', wfrm', wat_', rvalue'⟩ := HeapOp_open h'
  have ikind : (x.kind != x.kind) = false := by simp
  have iname : (x.name == x.name) = true := by simp
  have ifrm : (x.frm == x.frm) = true := by simp
  have iat_ : (x.at_ != x.at_) = false := by simp
  have q0 := ((Below.refl w.heap.size w).alloc (Nat.le_refl _) (.cells #[.int .i64 x.kind, sv x.name, sv x.frm, .int .i64 x.at_, .int .i64 x.value.kind, .slice Aitemsvalue_ nitemsvalue_ citemsvalue_, .slice Apartsvalue_ npartsvalue_ cpartsvalue_, .slice Anamesvalue_ nnamesvalue_ cnamesvalue_, .slice Aclsvalue_ nclsvalue_ cclsvalue_, .slice Alevelsvalue_ nlevelsvalue_ clevelsvalue_, .int .i64 x.value.code, .int .i64 x.value.env] 36)).alloc (by simp only [wsize_alloc]; omega) (.cells #[.int .i64 x.kind, sv x.name, sv x.frm, .int .i64 x.at_, .int .i64 x.value.kind, .slice Aitemsvalue_' nitemsvalue_' citemsvalue_', .slice Apartsvalue_' npartsvalue_' cpartsvalue_', .slice Anamesvalue_' nnamesvalue_' cnamesvalue_', .slice Aclsvalue_' nclsvalue_' cclsvalue_', .slice Alevelsvalue_' nlevelsvalue_' clevelsvalue_', .int .i64 x.value.code, .int .i64 x.value.env] 36)
  go_enter Try.func11, Try.ntmps11
  go_wp2_with fail
  refine (eqVector_any x.value _ _ _ (rep_in rvalue q0 q0.size) (rep_in rvalue' q0 q0.size)).mono ?_
  rintro e w1 ⟨rfl, b1⟩
  obtain ⟨hc1, _⟩ := bcell b1
  have z1 := b1.size
  (try simp only [wsize_alloc] at hc1 z1)
  have y1a : w.heap.size < w1.heap.size := by omega
  have y1b : w.heap.size + 1 < w1.heap.size := by omega
  have q1 := bth q0 b1
  go_wp2_with fail
  go_ret
  exact ⟨rfl, q1⟩
theorem eqHeapOp_any (x : Hop) : HeapOp_eqP x := eqHeapOp_of x
end Go.Proofs.Ytekcpadlmfaihaa
namespace Go.Proofs.Ytekcpadlmfaihaa
open Go.RowKit
theorem l4Is_any (d : Nat) (hd100 : (d : Int) ≤ 100) : isP d := by
  induction d with
  | zero => exact l4Is_of 0 hd100 (fun d' h => by omega)
  | succ d ih =>
    refine l4Is_of (d + 1) hd100 (fun d' h => ?_)
    have hdd : d' = d := by omega
    rw [hdd]
    exact ih (by omega)
set_option maxHeartbeats 2000000 in
theorem specIsVector_any (v : Vec) (cs : List Value) (w : World) (h : rep w w.heap.size v.toD cs) (hbig : bigV v) :
    Calls Try.prog 28 #[av cs] w fun e w' => e = .returned (.bool (isVec v)) ∧ Below w.heap.size w w' := by
  have hcb := hbig.cells
  obtain ⟨Ai, ni, ci, Ap, np, cp, An, nn, cn, Ac, nc, cc, Al, nl, cl, rfl, hv⟩ := vec_open h
  have q0 := (Below.refl w.heap.size w).alloc (Nat.le_refl _) (.cells (vc v Ai ni ci Ap np cp An nn cn Ac nc cc Al nl cl).toArray 34)
  go_enter Try.func28, Try.ntmps28
  go_wp2_with fail
  refine (l4Is_any 3 (by omega) v _ _ (rep_next h q0) hbig).mono ?_
  rintro e w1 ⟨rfl, hb1⟩
  have q1 := bth q0 hb1
  obtain ⟨hc1, _⟩ := bcell hb1
  simp only [wsize_alloc] at hc1
  cases hp : okD 3 v with
  | false =>
    go_wp2_with fail
    go_ret
    exact ⟨ret_bool (by rw [isVec, hp]; rfl), q1⟩
  | true =>
  go_wp2_with fail
  refine (l4Cells_any v _ _ (rep_next (rep_next h q0) hb1) hbig).mono ?_
  rintro e w2 ⟨rfl, hb2⟩
  have HR := Lib.hid (show isVec v = decide (cellsV v ≤ 200) by rw [isVec, hp]; rfl)
  go_wp2_with fail
  go_ret
  exact ⟨ret_bool (by rw [HR.out, decide_eq_decide]; omega), bth q1 hb2⟩
def hopK (x : Hop) : Bool :=
  if x.kind = 0 then x.frm.isEmpty && decide (x.at_ = 0)
  else if x.kind = 2 then x.frm.isEmpty && decide (1 ≤ x.at_ ∧ x.at_ ≤ 40) && atomK x.value.kind && decide (x.value.items.length = 1)
  else if x.kind = 1 ∨ x.kind = 3 then isNm x.frm && decide (x.at_ = 0 ∧ x.value.kind = 0) else false
def isHop (x : Hop) : Bool := isNm x.name && isVec x.value && !hasF x.value && hopK x
set_option maxRecDepth 100000 in
set_option maxHeartbeats 4000000 in
theorem implIsHeapOp_any (x : Hop) (cs : List Value) (w : World) (h : rep w w.heap.size x.toD cs) (hbig : bigV x.value) :
    Calls Try.prog 10 #[av cs] w fun e w' => e = .returned (.bool (isHop x)) ∧ Below w.heap.size w w' := by
  obtain ⟨Ai, ni, ci, Ap, np, cp, An, nn, cn, Ac, nc, cc, Al, nl, cl, rfl, wk, wn, wf, wa, hrv⟩ := HeapOp_open h
  obtain ⟨Ai', ni', ci', Ap', np', cp', An', nn', cn', Ac', nc', cc', Al', nl', cl', hcs, hv⟩ := vec_open hrv
  injection hcs with _ hcs; injection hcs with e1 hcs; injection hcs with e2 hcs; injection hcs with e3 hcs; injection hcs with e4 hcs; injection hcs with e5 hcs
  injection e1 with e11 e12 e13; subst e11 e12 e13
  have HL1 := Lib.hid hv.it.len
  have hkb := Blk.new_ w 36 #[.int .i64 x.kind, sv x.name, sv x.frm, .int .i64 x.at_, .int .i64 x.value.kind, .slice Ai ni ci, .slice Ap np cp, .slice An nn cn, .slice Ac nc cc, .slice Al nl cl, .int .i64 x.value.code, .int .i64 x.value.env]
  have q0 := (Below.refl w.heap.size w).alloc (Nat.le_refl _) (.cells #[.int .i64 x.kind, sv x.name, sv x.frm, .int .i64 x.at_, .int .i64 x.value.kind, .slice Ai ni ci, .slice Ap np cp, .slice An nn cn, .slice Ac nc cc, .slice Al nl cl, .int .i64 x.value.code, .int .i64 x.value.env] 36)
  have HI := Lib.hid (show isHop x = (isNm x.name && isVec x.value && !hasF x.value && hopK x) from rfl)
  clear e2 e3 e4 e5 hcs
  go_enter Try.func10, Try.ntmps10
  go_wp2_with fail
  refine (implIsName_any x.name _ wn).mono ?_
  rintro e w1 ⟨rfl, rfl⟩
  cases hn : isNm x.name with
  | false =>
    go_wp2_with fail
    go_ret
    exact ⟨ret_bool (by rw [HI.out, hn]; rfl), q0⟩
  | true =>
  go_wp2_with fail
  refine (implIsVector_any x.value _ _ (rep_next hrv q0) hbig).mono ?_
  rintro e w2 ⟨rfl, hb2⟩
  have q2 := bth q0 hb2
  have kb2 := hkb.next hb2
  obtain ⟨hc2, _⟩ := bcell hb2
  simp only [wsize_alloc] at hc2
  cases hvv : isVec x.value with
  | false =>
    go_wp2_with fail
    go_ret
    exact ⟨ret_bool (by rw [HI.out, hn, hvv]; rfl), q2⟩
  | true =>
  go_wp2_with fail
  refine (hasFunction_any x.value _ _ (rep_next (rep_next hrv q0) hb2)).mono ?_
  rintro e w3 ⟨rfl, hb3⟩
  have q3 := bth q2 hb3
  have kb3 := kb2.next hb3
  have c0 := kb3.cell 0
  have c2 := kb3.cell 2
  have c3 := kb3.cell 3
  have c4 := kb3.cell 4
  have c5 := kb3.cell 5
  have c6 := kb3.cell 6
  have c7 := kb3.cell 7
  have c8 := kb3.cell 8
  have c9 := kb3.cell 9
  have c10 := kb3.cell 10
  have c11 := kb3.cell 11
  simp only [List.getElem?_cons_zero, List.getElem?_cons_succ] at c0 c2 c3 c4 c5 c6 c7 c8 c9 c10 c11
  clear hc2
  cases hff : hasF x.value with
  | true =>
    go_wp2_with fail
    go_ret
    exact ⟨ret_bool (by rw [HI.out, hn, hvv, hff]; rfl), q3⟩
  | false =>
  have HR := Lib.hid (show isHop x = hopK x by rw [HI.out, hn, hvv, hff]; rfl)
  by_cases k0 : x.kind = 0
  · have t0 : (x.kind == 0) = true := by simpa using k0
    have HK := Lib.hid (show isHop x = (x.frm.isEmpty && decide (x.at_ = 0)) by rw [HR.out, hopK, if_pos k0])
    clear k0
    cases hfe : x.frm.isEmpty with
    | false =>
      go_wp2_with fail
      go_ret
      exact ⟨ret_bool (by rw [HK.out, hfe]; rfl), q3⟩
    | true =>
      go_wp2_with fail
      go_ret
      exact ⟨ret_bool (by rw [HK.out, hfe, Bool.true_and, Bool.eq_iff_iff]; simp), q3⟩
  have t0 : (x.kind == 0) = false := by simpa using k0
  by_cases k2 : x.kind = 2
  · have t2 : (x.kind == 2) = true := by simpa using k2
    have HK := Lib.hid (show isHop x = (x.frm.isEmpty && decide (1 ≤ x.at_ ∧ x.at_ ≤ 40) && atomK x.value.kind && decide (ni = 1)) by rw [HR.out, hopK, if_neg k0, if_pos k2, HL1.out])
    clear k0 k2
    cases hfe : x.frm.isEmpty with
    | false =>
      go_wp2_with fail
      go_ret
      exact ⟨ret_bool (by rw [HK.out, hfe]; rfl), q3⟩
    | true =>
    by_cases ha : 1 ≤ x.at_ ∧ x.at_ ≤ 40
    case neg =>
      have HB := Lib.hid (show isHop x = false by rw [HK.out, decide_eq_false ha]; simp)
      have HA := Lib.hid ha
      clear ha
      go_wp2_with fail
      all_goals first | (go_ret; exact ⟨ret_bool HB.out.symm, q3⟩) | (exfalso; apply HA.out; omega)
    have a1 : decide (1 ≤ x.at_) = true := decide_eq_true ha.1
    have a2 : decide (x.at_ ≤ 40) = true := decide_eq_true ha.2
    have HK2 := Lib.hid (show isHop x = (atomK x.value.kind && decide (ni = 1)) by rw [HK.out, hfe, decide_eq_true ha]; rfl)
    go_wp2_with fail
    refine (isAtomic_any x.value _ _ (rep_in hrv q3 q3.size)).mono ?_
    rintro e w4 ⟨rfl, hb4⟩
    have c45 := (kb3.next hb4).cell 5
    simp only [List.getElem?_cons_zero, List.getElem?_cons_succ] at c45
    cases hat : atomK x.value.kind with
    | false =>
      go_wp2_with fail
      go_ret
      exact ⟨ret_bool (by rw [HK2.out, hat]; rfl), bth q3 hb4⟩
    | true =>
      go_wp2_with fail
      go_ret
      exact ⟨ret_bool (by rw [HK2.out, hat, Bool.true_and, Bool.eq_iff_iff]; simp; omega), bth q3 hb4⟩
  have t2 : (x.kind == 2) = false := by simpa using k2
  by_cases k13 : x.kind = 1 ∨ x.kind = 3
  · have HK := Lib.hid (show isHop x = (isNm x.frm && decide (x.at_ = 0 ∧ x.value.kind = 0)) by rw [HR.out, hopK, if_neg k0, if_neg k2, if_pos k13])
    clear k0 k2
    rcases k13 with k1 | k1
    case' inl => have t1 : (x.kind == 1) = true := by simpa using k1
    case' inr =>
      have t1 : (x.kind == 1) = false := by simp; omega
      have t3 : (x.kind == 3) = true := by simpa using k1
    all_goals
      clear k1
      go_wp2_with fail
      refine (implIsName_any x.frm _ wf).mono ?_
      rintro e w4 ⟨rfl, rfl⟩
      cases hnf : isNm x.frm
      case false =>
        go_wp2_with fail
        go_ret
        exact ⟨ret_bool (by rw [HK.out, hnf]; rfl), q3⟩
      go_wp2_with fail
      all_goals (go_ret; refine ⟨ret_bool ?_, q3⟩; rw [HK.out, hnf, Bool.true_and, Bool.eq_iff_iff]; simp [*])
  · have t1 : (x.kind == 1) = false := by simp; omega
    have t3 : (x.kind == 3) = false := by simp; omega
    have HK := Lib.hid (show isHop x = false by rw [HR.out, hopK, if_neg k0, if_neg k2, if_neg k13])
    clear k0 k2 k13
    go_wp2_with fail
    go_ret
    exact ⟨ret_bool HK.out.symm, q3⟩
set_option maxRecDepth 100000 in
set_option maxHeartbeats 4000000 in
theorem specIsHeapOp_any (x : Hop) (cs : List Value) (w : World) (h : rep w w.heap.size x.toD cs) (hbig : bigV x.value) :
    Calls Try.prog 8 #[av cs] w fun e w' => e = .returned (.bool (isHop x)) ∧ Below w.heap.size w w' := by
  obtain ⟨Ai, ni, ci, Ap, np, cp, An, nn, cn, Ac, nc, cc, Al, nl, cl, rfl, wk, wn, wf, wa, hrv⟩ := HeapOp_open h
  obtain ⟨Ai', ni', ci', Ap', np', cp', An', nn', cn', Ac', nc', cc', Al', nl', cl', hcs, hv⟩ := vec_open hrv
  injection hcs with _ hcs; injection hcs with e1 hcs; injection hcs with e2 hcs; injection hcs with e3 hcs; injection hcs with e4 hcs; injection hcs with e5 hcs
  injection e1 with e11 e12 e13; subst e11 e12 e13
  have HL1 := Lib.hid hv.it.len
  have hkb := Blk.new_ w 36 #[.int .i64 x.kind, sv x.name, sv x.frm, .int .i64 x.at_, .int .i64 x.value.kind, .slice Ai ni ci, .slice Ap np cp, .slice An nn cn, .slice Ac nc cc, .slice Al nl cl, .int .i64 x.value.code, .int .i64 x.value.env]
  have q0 := (Below.refl w.heap.size w).alloc (Nat.le_refl _) (.cells #[.int .i64 x.kind, sv x.name, sv x.frm, .int .i64 x.at_, .int .i64 x.value.kind, .slice Ai ni ci, .slice Ap np cp, .slice An nn cn, .slice Ac nc cc, .slice Al nl cl, .int .i64 x.value.code, .int .i64 x.value.env] 36)
  have HI := Lib.hid (show isHop x = (isNm x.name && isVec x.value && !hasF x.value && hopK x) from rfl)
  clear e2 e3 e4 e5 hcs
  go_enter Try.func8, Try.ntmps8
  go_wp2_with fail
  refine (l1In_any _ _ _ _).mono ?_
  rintro e w1 ⟨rfl, rfl⟩
  cases hk : decide (0 ≤ x.kind ∧ x.kind ≤ 3) with
  | false =>
    have HB := Lib.hid (show isHop x = false by
      have := of_decide_eq_false hk
      rw [HI.out, hopK, if_neg (by omega), if_neg (by omega), if_neg (by omega)]; simp)
    go_wp2_with fail
    go_ret
    exact ⟨ret_bool HB.out.symm, q0⟩
  | true =>
  have hk' := of_decide_eq_true hk
  clear hk
  go_wp2_with fail
  refine (specIsName_any x.name _ wn).mono ?_
  rintro e w1 ⟨rfl, rfl⟩
  cases hn : isNm x.name with
  | false =>
    go_wp2_with fail
    go_ret
    exact ⟨ret_bool (by rw [HI.out, hn]; rfl), q0⟩
  | true =>
  go_wp2_with fail
  refine (specIsVector_any x.value _ _ (rep_next hrv q0) hbig).mono ?_
  rintro e w2 ⟨rfl, hb2⟩
  have q2 := bth q0 hb2
  have kb2 := hkb.next hb2
  obtain ⟨hc2, _⟩ := bcell hb2
  simp only [wsize_alloc] at hc2
  cases hvv : isVec x.value with
  | false =>
    go_wp2_with fail
    go_ret
    exact ⟨ret_bool (by rw [HI.out, hn, hvv]; rfl), q2⟩
  | true =>
  go_wp2_with fail
  refine (l30HasFunction_any x.value _ _ (rep_next (rep_next hrv q0) hb2)).mono ?_
  rintro e w3 ⟨rfl, hb3⟩
  have q3 := bth q2 hb3
  have kb3 := kb2.next hb3
  have c0 := kb3.cell 0
  have c2 := kb3.cell 2
  have c3 := kb3.cell 3
  have c4 := kb3.cell 4
  have c5 := kb3.cell 5
  simp only [List.getElem?_cons_zero, List.getElem?_cons_succ] at c0 c2 c3 c4 c5
  clear hc2
  cases hff : hasF x.value with
  | true =>
    go_wp2_with fail
    go_ret
    exact ⟨ret_bool (by rw [HI.out, hn, hvv, hff]; rfl), q3⟩
  | false =>
  have HR := Lib.hid (show isHop x = hopK x by rw [HI.out, hn, hvv, hff]; rfl)
  by_cases k0 : x.kind = 0
  · have t0 : (x.kind == 0) = true := by simpa using k0
    have HK := Lib.hid (show isHop x = (x.frm.isEmpty && decide (x.at_ = 0)) by rw [HR.out, hopK, if_pos k0])
    clear k0
    cases hfe : x.frm.isEmpty with
    | false =>
      go_wp2_with fail
      go_ret
      exact ⟨ret_bool (by rw [HK.out, hfe]; rfl), q3⟩
    | true =>
      go_wp2_with fail
      go_ret
      exact ⟨ret_bool (by rw [HK.out, hfe, Bool.true_and, Bool.eq_iff_iff]; simp), q3⟩
  have t0 : (x.kind == 0) = false := by simpa using k0
  by_cases k2 : x.kind = 2
  · have t2 : (x.kind == 2) = true := by simpa using k2
    have HK := Lib.hid (show isHop x = (x.frm.isEmpty && decide (1 ≤ x.at_ ∧ x.at_ ≤ 40) && atomK x.value.kind && decide (ni = 1)) by rw [HR.out, hopK, if_neg k0, if_pos k2, HL1.out])
    clear k0 k2
    cases hfe : x.frm.isEmpty with
    | false =>
      go_wp2_with fail
      go_ret
      exact ⟨ret_bool (by rw [HK.out, hfe]; rfl), q3⟩
    | true =>
    go_wp2_with fail
    refine (l1In_any _ _ _ _).mono ?_
    rintro e w4 ⟨rfl, rfl⟩
    cases ha : decide (1 ≤ x.at_ ∧ x.at_ ≤ 40) with
    | false =>
      go_wp2_with fail
      go_ret
      exact ⟨ret_bool (by rw [HK.out, ha]; simp), q3⟩
    | true =>
    go_wp2_with fail
    refine (l1In_any _ _ _ _).mono ?_
    rintro e w4 ⟨rfl, rfl⟩
    cases hat : decide (1 ≤ x.value.kind ∧ x.value.kind ≤ 3) with
    | false =>
      go_wp2_with fail
      go_ret
      exact ⟨ret_bool (by rw [HK.out, atomK, hat]; simp), q3⟩
    | true =>
      go_wp2_with fail
      go_ret
      exact ⟨ret_bool (by rw [HK.out, atomK, hat, ha, hfe, Bool.true_and, Bool.true_and, Bool.true_and, Bool.eq_iff_iff]; simp; omega), q3⟩
  have t2 : (x.kind == 2) = false := by simpa using k2
  have HK := Lib.hid (show isHop x = (isNm x.frm && decide (x.at_ = 0 ∧ x.value.kind = 0)) by rw [HR.out, hopK, if_neg k0, if_neg k2, if_pos (by omega)])
  clear k0 k2
  go_wp2_with fail
  refine (specIsName_any x.frm _ wf).mono ?_
  rintro e w4 ⟨rfl, rfl⟩
  cases hnf : isNm x.frm with
  | false =>
    go_wp2_with fail
    go_ret
    exact ⟨ret_bool (by rw [HK.out, hnf]; rfl), q3⟩
  | true =>
  go_wp2_with fail
  all_goals (go_ret; refine ⟨ret_bool ?_, q3⟩; rw [HK.out, hnf, Bool.true_and, Bool.eq_iff_iff]; simp [*])
end Go.Proofs.Ytekcpadlmfaihaa
