/- The struct HeapOp as data; what its cells are; the law's own functions sz, to, eq over it. Operations on a heap: what IsHeapOp of the program and of the reference return. Vectors of texts: what TextVector of the reference returns for a few short texts. Vectors as texts, plainly. -/
import Derived.Test.YtekcpadlmfaihaaFnExactFormatHeapOpJad
import Derived.Test.YtekcpadlmfaihaaFnExactFormatHeapOpJaj
import Derived.Test.YtekcpadlmfaihaaFnExactFormatHeapOpJah
namespace Go.Proofs.Ytekcpadlmfaihaa
open Go.RowKit
structure Hop where
  kind : Int
  name : Str
  frm : Str
  at_ : Int
  value : Vec
def Hop.toD (x : Hop) : D := .st [.i .i64 x.kind, .s x.name, .s x.frm, .i .i64 x.at_, x.value.toD]
theorem HeapOp_toD (x : Hop) : x.toD = .st [.i .i64 x.kind, .s x.name, .s x.frm, .i .i64 x.at_, x.value.toD] := by first | rfl | exact toD_eq x
theorem HeapOp_open {w : World} {B : Nat} {x : Hop} {cs : List Value} (h : rep w B x.toD cs) : ∃ (Aitemsvalue_ : Option Addr) (nitemsvalue_ : Nat) (citemsvalue_ : Nat) (Apartsvalue_ : Option Addr) (npartsvalue_ : Nat) (cpartsvalue_ : Nat) (Anamesvalue_ : Option Addr) (nnamesvalue_ : Nat) (cnamesvalue_ : Nat) (Aclsvalue_ : Option Addr) (nclsvalue_ : Nat) (cclsvalue_ : Nat) (Alevelsvalue_ : Option Addr) (nlevelsvalue_ : Nat) (clevelsvalue_ : Nat), cs = [.int .i64 x.kind, sv x.name, sv x.frm, .int .i64 x.at_, .int .i64 x.value.kind, .slice Aitemsvalue_ nitemsvalue_ citemsvalue_, .slice Apartsvalue_ npartsvalue_ cpartsvalue_, .slice Anamesvalue_ nnamesvalue_ cnamesvalue_, .slice Aclsvalue_ nclsvalue_ cclsvalue_, .slice Alevelsvalue_ nlevelsvalue_ clevelsvalue_, .int .i64 x.value.code, .int .i64 x.value.env] ∧ (Lit.int .i64 x.kind).wf = true ∧ x.name.length ≤ maxLen ∧ x.frm.length ≤ maxLen ∧ (Lit.int .i64 x.at_).wf = true ∧ rep w B x.value.toD [.int .i64 x.value.kind, .slice Aitemsvalue_ nitemsvalue_ citemsvalue_, .slice Apartsvalue_ npartsvalue_ cpartsvalue_, .slice Anamesvalue_ nnamesvalue_ cnamesvalue_, .slice Aclsvalue_ nclsvalue_ cclsvalue_, .slice Alevelsvalue_ nlevelsvalue_ clevelsvalue_, .int .i64 x.value.code, .int .i64 x.value.env] := by
  rw [HeapOp_toD, rep] at h
  obtain ⟨css, rfl, h⟩ := h
  rw [repL] at h
  obtain ⟨c0, css, rfl, k0, h⟩ := h
  rw [repL] at h
  obtain ⟨c1, css, rfl, k1, h⟩ := h
  rw [repL] at h
  obtain ⟨c2, css, rfl, k2, h⟩ := h
  rw [repL] at h
  obtain ⟨c3, css, rfl, k3, h⟩ := h
  rw [repL] at h
  obtain ⟨c4, css, rfl, k4, h⟩ := h
  rw [repL] at h
  subst h
  rw [rep] at k0
  obtain ⟨rfl, k0⟩ := k0
  rw [rep] at k1
  obtain ⟨rfl, k1⟩ := k1
  rw [rep] at k2
  obtain ⟨rfl, k2⟩ := k2
  rw [rep] at k3
  obtain ⟨rfl, k3⟩ := k3
  obtain ⟨v4Aitemsvalue_, v4nitemsvalue_, v4citemsvalue_, v4Apartsvalue_, v4npartsvalue_, v4cpartsvalue_, v4Anamesvalue_, v4nnamesvalue_, v4cnamesvalue_, v4Aclsvalue_, v4nclsvalue_, v4cclsvalue_, v4Alevelsvalue_, v4nlevelsvalue_, v4clevelsvalue_, rfl, _⟩ := Vector_open k4
  exact ⟨v4Aitemsvalue_, v4nitemsvalue_, v4citemsvalue_, v4Apartsvalue_, v4npartsvalue_, v4cpartsvalue_, v4Anamesvalue_, v4nnamesvalue_, v4cnamesvalue_, v4Aclsvalue_, v4nclsvalue_, v4cclsvalue_, v4Alevelsvalue_, v4nlevelsvalue_, v4clevelsvalue_, rfl, k0, k1, k2, k3, k4⟩
theorem HeapOp_shut {w : World} {B : Nat} {x : Hop} {Aitemsvalue_ : Option Addr} {nitemsvalue_ : Nat} {citemsvalue_ : Nat} {Apartsvalue_ : Option Addr} {npartsvalue_ : Nat} {cpartsvalue_ : Nat} {Anamesvalue_ : Option Addr} {nnamesvalue_ : Nat} {cnamesvalue_ : Nat} {Aclsvalue_ : Option Addr} {nclsvalue_ : Nat} {cclsvalue_ : Nat} {Alevelsvalue_ : Option Addr} {nlevelsvalue_ : Nat} {clevelsvalue_ : Nat} (wkind : (Lit.int .i64 x.kind).wf = true) (wname : x.name.length ≤ maxLen) (wfrm : x.frm.length ≤ maxLen) (wat_ : (Lit.int .i64 x.at_).wf = true) (rvalue : rep w B x.value.toD [.int .i64 x.value.kind, .slice Aitemsvalue_ nitemsvalue_ citemsvalue_, .slice Apartsvalue_ npartsvalue_ cpartsvalue_, .slice Anamesvalue_ nnamesvalue_ cnamesvalue_, .slice Aclsvalue_ nclsvalue_ cclsvalue_, .slice Alevelsvalue_ nlevelsvalue_ clevelsvalue_, .int .i64 x.value.code, .int .i64 x.value.env]) : rep w B x.toD [.int .i64 x.kind, sv x.name, sv x.frm, .int .i64 x.at_, .int .i64 x.value.kind, .slice Aitemsvalue_ nitemsvalue_ citemsvalue_, .slice Apartsvalue_ npartsvalue_ cpartsvalue_, .slice Anamesvalue_ nnamesvalue_ cnamesvalue_, .slice Aclsvalue_ nclsvalue_ cclsvalue_, .slice Alevelsvalue_ nlevelsvalue_ clevelsvalue_, .int .i64 x.value.code, .int .i64 x.value.env] := by
  rw [HeapOp_toD, rep]
  exact ⟨[[.int .i64 x.kind], [sv x.name], [sv x.frm], [.int .i64 x.at_], [.int .i64 x.value.kind, .slice Aitemsvalue_ nitemsvalue_ citemsvalue_, .slice Apartsvalue_ npartsvalue_ cpartsvalue_, .slice Anamesvalue_ nnamesvalue_ cnamesvalue_, .slice Aclsvalue_ nclsvalue_ cclsvalue_, .slice Alevelsvalue_ nlevelsvalue_ clevelsvalue_, .int .i64 x.value.code, .int .i64 x.value.env]], rfl, repL_cons.2 ⟨by rw [rep]; exact ⟨rfl, wkind⟩, repL_cons.2 ⟨by rw [rep]; exact ⟨rfl, wname⟩, repL_cons.2 ⟨by rw [rep]; exact ⟨rfl, wfrm⟩, repL_cons.2 ⟨by rw [rep]; exact ⟨rfl, wat_⟩, repL_cons.2 ⟨rvalue, repL_nil⟩⟩⟩⟩⟩⟩
theorem HeapOp_own {w : World} {x : Hop} {Aitemsvalue_ : Option Addr} {nitemsvalue_ : Nat} {citemsvalue_ : Nat} {Apartsvalue_ : Option Addr} {npartsvalue_ : Nat} {cpartsvalue_ : Nat} {Anamesvalue_ : Option Addr} {nnamesvalue_ : Nat} {cnamesvalue_ : Nat} {Aclsvalue_ : Option Addr} {nclsvalue_ : Nat} {cclsvalue_ : Nat} {Alevelsvalue_ : Option Addr} {nlevelsvalue_ : Nat} {clevelsvalue_ : Nat} {Fvalue : List Nat} (wkind : (Lit.int .i64 x.kind).wf = true) (wname : x.name.length ≤ maxLen) (wfrm : x.frm.length ≤ maxLen) (wat_ : (Lit.int .i64 x.at_).wf = true) (rvalue : own Try.prog w (x.value.toD) 34 Fvalue [.int .i64 x.value.kind, .slice Aitemsvalue_ nitemsvalue_ citemsvalue_, .slice Apartsvalue_ npartsvalue_ cpartsvalue_, .slice Anamesvalue_ nnamesvalue_ cnamesvalue_, .slice Aclsvalue_ nclsvalue_ cclsvalue_, .slice Alevelsvalue_ nlevelsvalue_ clevelsvalue_, .int .i64 x.value.code, .int .i64 x.value.env]) : own Try.prog w x.toD 36 (Fvalue ++ []) [.int .i64 x.kind, sv x.name, sv x.frm, .int .i64 x.at_, .int .i64 x.value.kind, .slice Aitemsvalue_ nitemsvalue_ citemsvalue_, .slice Apartsvalue_ npartsvalue_ cpartsvalue_, .slice Anamesvalue_ nnamesvalue_ cnamesvalue_, .slice Aclsvalue_ nclsvalue_ cclsvalue_, .slice Alevelsvalue_ nlevelsvalue_ clevelsvalue_, .int .i64 x.value.code, .int .i64 x.value.env] := by
  rw [HeapOp_toD, own]
  exact ⟨_, [[.int .i64 x.kind], [sv x.name], [sv x.frm], [.int .i64 x.at_], [.int .i64 x.value.kind, .slice Aitemsvalue_ nitemsvalue_ citemsvalue_, .slice Apartsvalue_ npartsvalue_ cpartsvalue_, .slice Anamesvalue_ nnamesvalue_ cnamesvalue_, .slice Aclsvalue_ nclsvalue_ cclsvalue_, .slice Alevelsvalue_ nlevelsvalue_ clevelsvalue_, .int .i64 x.value.code, .int .i64 x.value.env]], Try.underlying36, rfl, (ownL_cons (F1 := []) (by rw [own]; exact ⟨rfl, rfl, wkind⟩) (ownL_cons (F1 := []) (by rw [own]; exact ⟨rfl, rfl, wname⟩) (ownL_cons (F1 := []) (by rw [own]; exact ⟨rfl, rfl, wfrm⟩) (ownL_cons (F1 := []) (by rw [own]; exact ⟨rfl, rfl, wat_⟩) (ownL_cons rvalue ownL_nil)))))⟩
theorem HeapOp_at {w : World} {B : Nat} {l : List Hop} {A : Option Addr} {n c k : Nat} (h : rep w B (.sl (l.map Hop.toD)) [.slice A n c]) (hk : k < n) :
    ∃ (b off : Nat) (x : Hop) (Aitemsvalue_ : Option Addr) (nitemsvalue_ : Nat) (citemsvalue_ : Nat) (Apartsvalue_ : Option Addr) (npartsvalue_ : Nat) (cpartsvalue_ : Nat) (Anamesvalue_ : Option Addr) (nnamesvalue_ : Nat) (cnamesvalue_ : Nat) (Aclsvalue_ : Option Addr) (nclsvalue_ : Nat) (cclsvalue_ : Nat) (Alevelsvalue_ : Option Addr) (nlevelsvalue_ : Nat) (clevelsvalue_ : Nat), A = some ⟨b, off, none⟩ ∧ b < B ∧ l[k]? = some x ∧ rep w B x.toD [.int .i64 x.kind, sv x.name, sv x.frm, .int .i64 x.at_, .int .i64 x.value.kind, .slice Aitemsvalue_ nitemsvalue_ citemsvalue_, .slice Apartsvalue_ npartsvalue_ cpartsvalue_, .slice Anamesvalue_ nnamesvalue_ cnamesvalue_, .slice Aclsvalue_ nclsvalue_ cclsvalue_, .slice Alevelsvalue_ nlevelsvalue_ clevelsvalue_, .int .i64 x.value.code, .int .i64 x.value.env] ∧ w.cell? ⟨b, off + k * 12, none⟩ = some (.int .i64 x.kind) ∧ w.cell? ⟨b, off + k * 12 + 1, none⟩ = some (sv x.name) ∧ w.cell? ⟨b, off + k * 12 + 2, none⟩ = some (sv x.frm) ∧ w.cell? ⟨b, off + k * 12 + 3, none⟩ = some (.int .i64 x.at_) ∧ w.cell? ⟨b, off + k * 12 + 4, none⟩ = some (.int .i64 x.value.kind) ∧ w.cell? ⟨b, off + k * 12 + 5, none⟩ = some (.slice Aitemsvalue_ nitemsvalue_ citemsvalue_) ∧ w.cell? ⟨b, off + k * 12 + 6, none⟩ = some (.slice Apartsvalue_ npartsvalue_ cpartsvalue_) ∧ w.cell? ⟨b, off + k * 12 + 7, none⟩ = some (.slice Anamesvalue_ nnamesvalue_ cnamesvalue_) ∧ w.cell? ⟨b, off + k * 12 + 8, none⟩ = some (.slice Aclsvalue_ nclsvalue_ cclsvalue_) ∧ w.cell? ⟨b, off + k * 12 + 9, none⟩ = some (.slice Alevelsvalue_ nlevelsvalue_ clevelsvalue_) ∧ w.cell? ⟨b, off + k * 12 + 10, none⟩ = some (.int .i64 x.value.code) ∧ w.cell? ⟨b, off + k * 12 + 11, none⟩ = some (.int .i64 x.value.env) := by
  obtain ⟨b, off, x, cs, e, hb, hx, hr, hc⟩ := sl_at h hk
  obtain ⟨Aitemsvalue_, nitemsvalue_, citemsvalue_, Apartsvalue_, npartsvalue_, cpartsvalue_, Anamesvalue_, nnamesvalue_, cnamesvalue_, Aclsvalue_, nclsvalue_, cclsvalue_, Alevelsvalue_, nlevelsvalue_, clevelsvalue_, rfl, _⟩ := HeapOp_open hr
  exact ⟨b, off, x, Aitemsvalue_, nitemsvalue_, citemsvalue_, Apartsvalue_, npartsvalue_, cpartsvalue_, Anamesvalue_, nnamesvalue_, cnamesvalue_, Aclsvalue_, nclsvalue_, cclsvalue_, Alevelsvalue_, nlevelsvalue_, clevelsvalue_, e, hb, hx, hr, hc 0 _ rfl, hc 1 _ rfl, hc 2 _ rfl, hc 3 _ rfl, hc 4 _ rfl, hc 5 _ rfl, hc 6 _ rfl, hc 7 _ rfl, hc 8 _ rfl, hc 9 _ rfl, hc 10 _ rfl, hc 11 _ rfl⟩
theorem HeapOp_sz (x : Hop) : szD x.toD = x.name.length + (x.frm.length + (szD (x.value.toD))) := by
  rw [HeapOp_toD]; simp only [szD, szDs]; omega
def HeapOp_szP (x : Hop) : Prop := ∀ (cs : List Value) (n : Int) (w : World), rep w w.heap.size x.toD cs → 0 ≤ n → n ≤ 1048576 → Calls Try.prog 7 #[.agg cs.toArray, .int .i64 n] w fun e w' => e = .returned (.int .i64 (lft (szD x.toD) n)) ∧ Below w.heap.size w w'
set_option maxHeartbeats 4000000 in
theorem szHeapOp_of (x : Hop) : HeapOp_szP x := by
  intro cs n w h h0 h1
  have hsz := HeapOp_sz x
  obtain ⟨Aitemsvalue_, nitemsvalue_, citemsvalue_, Apartsvalue_, npartsvalue_, cpartsvalue_, Anamesvalue_, nnamesvalue_, cnamesvalue_, Aclsvalue_, nclsvalue_, cclsvalue_, Alevelsvalue_, nlevelsvalue_, clevelsvalue_, rfl, wkind, wname, wfrm, wat_, rvalue⟩ := HeapOp_open h
  have q0 := (Below.refl w.heap.size w).alloc (Nat.le_refl _) (.cells #[.int .i64 x.kind, sv x.name, sv x.frm, .int .i64 x.at_, .int .i64 x.value.kind, .slice Aitemsvalue_ nitemsvalue_ citemsvalue_, .slice Apartsvalue_ npartsvalue_ cpartsvalue_, .slice Anamesvalue_ nnamesvalue_ cnamesvalue_, .slice Aclsvalue_ nclsvalue_ cclsvalue_, .slice Alevelsvalue_ nlevelsvalue_ clevelsvalue_, .int .i64 x.value.code, .int .i64 x.value.env] 28)
  have HSZ := Lib.hid hsz
  clear hsz
  have uname : x.name.length ≤ 9223372036854775807 := wname
  have ufrm : x.frm.length ≤ 9223372036854775807 := wfrm
  go_enter Try.func7, Try.ntmps7
  by_cases g0 : n < (x.name.length : Int)
  · have d0 : decide (n - (x.name.length : Int) < 0) = true := by simp; omega
    go_wp2_with fail
    go_ret
    exact ⟨ret_int (by rw [HSZ.out, lft, if_neg (by omega)]), q0⟩
  have d0 : decide (n - (x.name.length : Int) < 0) = false := by simp; omega
  by_cases g1 : (n - x.name.length) < (x.frm.length : Int)
  · have d1 : decide ((n - x.name.length) - (x.frm.length : Int) < 0) = true := by simp; omega
    go_wp2_with fail
    go_ret
    exact ⟨ret_int (by rw [HSZ.out, lft, if_neg (by omega)]), q0⟩
  have d1 : decide ((n - x.name.length) - (x.frm.length : Int) < 0) = false := by simp; omega
  go_wp2_with fail
  refine (szVector_any x.value _ _ _ (rep_in rvalue q0 q0.size) (by omega) (by omega)).mono ?_
  rintro e w1 ⟨rfl, b1⟩
  obtain ⟨hc1, _⟩ := bcell b1
  have z1 := b1.size
  (try simp only [wsize_alloc] at hc1 z1)
  have y1 : w.heap.size < w1.heap.size := by omega
  have q1 := bth q0 b1
  by_cases g2 : lft (szD (x.value.toD)) ((n - x.name.length) - x.frm.length) < 0
  · have g2' : ((n - x.name.length) - x.frm.length) < ((szD (x.value.toD) : Nat) : Int) := by unfold lft at g2; split at g2 <;> omega
    go_wp2_with fail
    go_ret
    exact ⟨ret_int (by rw [HSZ.out, lft, if_neg (by omega)]), q1⟩
  have g2' : ((szD (x.value.toD) : Nat) : Int) ≤ ((n - x.name.length) - x.frm.length) := by unfold lft at g2; split at g2 <;> omega
  have e2 : lft (szD (x.value.toD)) ((n - x.name.length) - x.frm.length) = ((n - x.name.length) - x.frm.length) - ((szD (x.value.toD) : Nat) : Int) := lft_of g2'
  obtain ⟨m2, hm2⟩ : ∃ m : Int, m = lft (szD (x.value.toD)) ((n - x.name.length) - x.frm.length) := ⟨_, rfl⟩
  rw [← hm2] at g2 e2 ⊢
  have E2 := Lib.hid e2
  have M2 := Lib.hid hm2
  have le2 : 0 ≤ m2 ∧ m2 ≤ ((n - x.name.length) - x.frm.length) := by omega
  clear e2 hm2
  skip
  go_wp2_with fail
  go_ret
  exact ⟨ret_int (by rw [HSZ.out, lft, if_pos (by have := E2.out;  omega)] <;> (have := E2.out;  omega)), q1⟩
theorem szHeapOp_any (x : Hop) : HeapOp_szP x := szHeapOp_of x
def HeapOp_toP (x : Hop) : Prop := ∀ (cs : List Value) (w : World), rep w w.heap.size x.toD cs → szD x.toD ≤ 1048576 → Calls Try.prog 9 #[.agg cs.toArray] w (NewSt x.toD 36 w)
set_option maxRecDepth 100000 in
set_option maxHeartbeats 8000000 in
theorem toHeapOp_of (x : Hop) : HeapOp_toP x := by
  intro cs w h hz
  have hsz := HeapOp_sz x
  rw [hsz] at hz
  clear hsz
  obtain ⟨Aitemsvalue_, nitemsvalue_, citemsvalue_, Apartsvalue_, npartsvalue_, cpartsvalue_, Anamesvalue_, nnamesvalue_, cnamesvalue_, Aclsvalue_, nclsvalue_, cclsvalue_, Alevelsvalue_, nlevelsvalue_, clevelsvalue_, rfl, wkind, wname, wfrm, wat_, rvalue⟩ := HeapOp_open h
  go_enter Try.func9, Try.ntmps9
  go_wp2_with fail
  refine (toVector_any x.value _ _ (rep_in rvalue (by repeat' (first | with_reducible exact (Below.refl w.heap.size w) | refine Below.setCell ?_ ?_ _ | refine Below.alloc ?_ ?_ _ | ((try simp only [wsize_alloc, wsize_set]); omega))) (by simp only [wsize_alloc, wsize_set]; omega)) (by omega)).mono ?_
  rintro e w1 ⟨k1, G1, rfl, o1, fr1, b1⟩
  obtain ⟨g1Aitemsvalue_, g1nitemsvalue_, g1citemsvalue_, g1Apartsvalue_, g1npartsvalue_, g1cpartsvalue_, g1Anamesvalue_, g1nnamesvalue_, g1cnamesvalue_, g1Aclsvalue_, g1nclsvalue_, g1cclsvalue_, g1Alevelsvalue_, g1nlevelsvalue_, g1clevelsvalue_, rfl, _⟩ := Vector_open (own_rep _ _ _ _ o1)
  obtain ⟨hc1, hf1⟩ := bcell b1
  have z1 := b1.size
  simp only [wsize_alloc, wsize_set] at hc1 hf1 z1 fr1
  have q1 : Below w.heap.size w w1 := Below.trans (by repeat' (first | with_reducible exact (Below.refl w.heap.size w) | refine Below.setCell ?_ ?_ _ | refine Below.alloc ?_ ?_ _ | ((try simp only [wsize_alloc, wsize_set]); omega))) (b1.mono (by simp only [wsize_alloc, wsize_set]; omega))
  have y1a : w.heap.size < w1.heap.size := by omega
  have y1b : w.heap.size + 1 < w1.heap.size := by omega
  have y1c : w.heap.size + 1 + 1 < w1.heap.size := by omega
  go_wp2_with fail
  skip
  refine bodyPost_ret (v := .agg #[.int .i64 x.kind, sv x.name, sv x.frm, .int .i64 x.at_, .int .i64 x.value.kind, .slice g1Aitemsvalue_ g1nitemsvalue_ g1citemsvalue_, .slice g1Apartsvalue_ g1npartsvalue_ g1cpartsvalue_, .slice g1Anamesvalue_ g1nnamesvalue_ g1cnamesvalue_, .slice g1Aclsvalue_ g1nclsvalue_ g1cclsvalue_, .slice g1Alevelsvalue_ g1nlevelsvalue_ g1clevelsvalue_, .int .i64 x.value.code, .int .i64 x.value.env]) (by simp [results, Try.results9, go_sem, hc1, y1a, y1b, y1c]) rfl ⟨_, G1 ++ [], rfl, ?_, ?_, ?_⟩
  · refine HeapOp_own wkind wname wfrm wat_ ?_
    · repeat' (first | with_reducible exact o1 | refine own_poke ?_ ?_ _ | (exact fr1.notin (by simp only []; omega)))
  · have k0 : Fresh w1.heap.size [] := Fresh.nil
    have j1 := Fresh.app fr1 (own_lt _ _ _ _ o1) k0 (by omega)
    exact j1.mono (by omega)
  · exact (by repeat' (first | with_reducible exact q1 | refine Below.setCell ?_ ?_ _ | refine Below.alloc ?_ ?_ _ | ((try simp only [wsize_alloc, wsize_set]); omega)))
theorem HeapOpInfo : (Try.prog.info? 36).map (fun i => (i.zero, i.size, i.bytes)) = some (some (.agg #[.int .i64 0, sv [], sv [], .int .i64 0, .int .i64 0, .slice none 0 0, .slice none 0 0, .slice none 0 0, .slice none 0 0, .slice none 0 0, .int .i64 0, .int .i64 0]), 12, 192) := by kernel_rfl
theorem toHeapOp_any (x : Hop) : HeapOp_toP x := toHeapOp_of x
def HeapOp_eqP (x : Hop) : Prop := ∀ (cs cs' : List Value) (w : World), rep w w.heap.size x.toD cs → rep w w.heap.size x.toD cs' → Calls Try.prog 11 #[.agg cs.toArray, .agg cs'.toArray] w fun e w' => e = .returned (.bool true) ∧ Below w.heap.size w w'
set_option maxHeartbeats 8000000 in
theorem eqHeapOp_of (x : Hop) : HeapOp_eqP x := by
  intro cs cs' w h h'
  obtain ⟨Aitemsvalue_, nitemsvalue_, citemsvalue_, Apartsvalue_, npartsvalue_, cpartsvalue_, Anamesvalue_, nnamesvalue_, cnamesvalue_, Aclsvalue_, nclsvalue_, cclsvalue_, Alevelsvalue_, nlevelsvalue_, clevelsvalue_, rfl, wkind, wname, wfrm, wat_, rvalue⟩ := HeapOp_open h
  obtain ⟨Aitemsvalue_', nitemsvalue_', citemsvalue_', Apartsvalue_', npartsvalue_', cpartsvalue_', Anamesvalue_', nnamesvalue_', cnamesvalue_', Aclsvalue_', nclsvalue_', cclsvalue_', Alevelsvalue_', nlevelsvalue_', clevelsvalue_', rfl, wkind', wname', wfrm', wat_', rvalue'⟩ := HeapOp_open h'
  have ikind : (x.kind != x.kind) = false := by simp
  have iname : (x.name == x.name) = true := by simp
  have ifrm : (x.frm == x.frm) = true := by simp
  have iat_ : (x.at_ != x.at_) = false := by simp
  have q0 := ((Below.refl w.heap.size w).alloc (Nat.le_refl _) (.cells #[.int .i64 x.kind, sv x.name, sv x.frm, .int .i64 x.at_, .int .i64 x.value.kind, .slice Aitemsvalue_ nitemsvalue_ citemsvalue_, .slice Apartsvalue_ npartsvalue_ cpartsvalue_, .slice Anamesvalue_ nnamesvalue_ cnamesvalue_, .slice Aclsvalue_ nclsvalue_ cclsvalue_, .slice Alevelsvalue_ nlevelsvalue_ clevelsvalue_, .int .i64 x.value.code, .int .i64 x.value.env] 36)).alloc (by simp only [wsize_alloc]; omega) (.cells #[.int .i64 x.kind, sv x.name, sv x.frm, .int .i64 x.at_, .int .i64 x.value.kind, .slice Aitemsvalue_' nitemsvalue_' citemsvalue_', .slice Apartsvalue_' npartsvalue_' cpartsvalue_', .slice Anamesvalue_' nnamesvalue_' cnamesvalue_', .slice Aclsvalue_' nclsvalue_' cclsvalue_', .slice Alevelsvalue_' nlevelsvalue_' clevelsvalue_', .int .i64 x.value.code, .int .i64 x.value.env] 36)
  go_enter Try.func11, Try.ntmps11
  go_wp2_with fail
  refine (eqVector_any x.value _ _ _ (rep_in rvalue q0 q0.size) (rep_in rvalue' q0 q0.size)).mono ?_
  rintro e w1 ⟨rfl, b1⟩
  obtain ⟨hc1, _⟩ := bcell b1
  have z1 := b1.size
  (try simp only [wsize_alloc] at hc1 z1)
  have y1a : w.heap.size < w1.heap.size := by omega
  have y1b : w.heap.size + 1 < w1.heap.size := by omega
  have q1 := bth q0 b1
  go_wp2_with fail
  go_ret
  exact ⟨rfl, q1⟩
theorem eqHeapOp_any (x : Hop) : HeapOp_eqP x := eqHeapOp_of x
end Go.Proofs.Ytekcpadlmfaihaa
namespace Go.Proofs.Ytekcpadlmfaihaa
open Go.RowKit
theorem l4Is_any (d : Nat) (hd100 : (d : Int) ≤ 100) : isP d := by
  induction d with
  | zero => exact l4Is_of 0 hd100 (fun d' h => by omega)
  | succ d ih =>
    refine l4Is_of (d + 1) hd100 (fun d' h => ?_)
    have hdd : d' = d := by omega
    rw [hdd]
    exact ih (by omega)
set_option maxHeartbeats 2000000 in
theorem specIsVector_any (v : Vec) (cs : List Value) (w : World) (h : rep w w.heap.size v.toD cs) (hbig : bigV v) :
    Calls Try.prog 28 #[av cs] w fun e w' => e = .returned (.bool (isVec v)) ∧ Below w.heap.size w w' := by
  have hcb := hbig.cells
  obtain ⟨Ai, ni, ci, Ap, np, cp, An, nn, cn, Ac, nc, cc, Al, nl, cl, rfl, hv⟩ := vec_open h
  have q0 := (Below.refl w.heap.size w).alloc (Nat.le_refl _) (.cells (vc v Ai ni ci Ap np cp An nn cn Ac nc cc Al nl cl).toArray 34)
  go_enter Try.func28, Try.ntmps28
  go_wp2_with fail
  refine (l4Is_any 3 (by omega) v _ _ (rep_next h q0) hbig).mono ?_
  rintro e w1 ⟨rfl, hb1⟩
  have q1 := bth q0 hb1
  obtain ⟨hc1, _⟩ := bcell hb1
  simp only [wsize_alloc] at hc1
  cases hp : okD 3 v with
  | false =>
    go_wp2_with fail
    go_ret
    exact ⟨ret_bool (by rw [isVec, hp]; rfl), q1⟩
  | true =>
  go_wp2_with fail
  refine (l4Cells_any v _ _ (rep_next (rep_next h q0) hb1) hbig).mono ?_
  rintro e w2 ⟨rfl, hb2⟩
  have HR := Lib.hid (show isVec v = decide (cellsV v ≤ 200) by rw [isVec, hp]; rfl)
  go_wp2_with fail
  go_ret
  exact ⟨ret_bool (by rw [HR.out, decide_eq_decide]; omega), bth q1 hb2⟩
def hopK (x : Hop) : Bool :=
  if x.kind = 0 then x.frm.isEmpty && decide (x.at_ = 0)
  else if x.kind = 2 then x.frm.isEmpty && decide (1 ≤ x.at_ ∧ x.at_ ≤ 40) && atomK x.value.kind && decide (x.value.items.length = 1)
  else if x.kind = 1 ∨ x.kind = 3 then isNm x.frm && decide (x.at_ = 0 ∧ x.value.kind = 0) else false
def isHop (x : Hop) : Bool := isNm x.name && isVec x.value && !hasF x.value && hopK x
set_option maxRecDepth 100000 in
set_option maxHeartbeats 4000000 in
theorem implIsHeapOp_any (x : Hop) (cs : List Value) (w : World) (h : rep w w.heap.size x.toD cs) (hbig : bigV x.value) :
    Calls Try.prog 10 #[av cs] w fun e w' => e = .returned (.bool (isHop x)) ∧ Below w.heap.size w w' := by
  obtain ⟨Ai, ni, ci, Ap, np, cp, An, nn, cn, Ac, nc, cc, Al, nl, cl, rfl, wk, wn, wf, wa, hrv⟩ := HeapOp_open h
  obtain ⟨Ai', ni', ci', Ap', np', cp', An', nn', cn', Ac', nc', cc', Al', nl', cl', hcs, hv⟩ := vec_open hrv
  injection hcs with _ hcs; injection hcs with e1 hcs; injection hcs with e2 hcs; injection hcs with e3 hcs; injection hcs with e4 hcs; injection hcs with e5 hcs
  injection e1 with e11 e12 e13; subst e11 e12 e13
  have HL1 := Lib.hid hv.it.len
  have hkb := Blk.new_ w 36 #[.int .i64 x.kind, sv x.name, sv x.frm, .int .i64 x.at_, .int .i64 x.value.kind, .slice Ai ni ci, .slice Ap np cp, .slice An nn cn, .slice Ac nc cc, .slice Al nl cl, .int .i64 x.value.code, .int .i64 x.value.env]
  have q0 := (Below.refl w.heap.size w).alloc (Nat.le_refl _) (.cells #[.int .i64 x.kind, sv x.name, sv x.frm, .int .i64 x.at_, .int .i64 x.value.kind, .slice Ai ni ci, .slice Ap np cp, .slice An nn cn, .slice Ac nc cc, .slice Al nl cl, .int .i64 x.value.code, .int .i64 x.value.env] 36)
  have HI := Lib.hid (show isHop x = (isNm x.name && isVec x.value && !hasF x.value && hopK x) from rfl)
  clear e2 e3 e4 e5 hcs
  go_enter Try.func10, Try.ntmps10
  go_wp2_with fail
  refine (implIsName_any x.name _ wn).mono ?_
  rintro e w1 ⟨rfl, rfl⟩
  cases hn : isNm x.name with
  | false =>
    go_wp2_with fail
    go_ret
    exact ⟨ret_bool (by rw [HI.out, hn]; rfl), q0⟩
  | true =>
  go_wp2_with fail
  refine (implIsVector_any x.value _ _ (rep_next hrv q0) hbig).mono ?_
  rintro e w2 ⟨rfl, hb2⟩
  have q2 := bth q0 hb2
  have kb2 := hkb.next hb2
  obtain ⟨hc2, _⟩ := bcell hb2
  simp only [wsize_alloc] at hc2
  cases hvv : isVec x.value with
  | false =>
    go_wp2_with fail
    go_ret
    exact ⟨ret_bool (by rw [HI.out, hn, hvv]; rfl), q2⟩
  | true =>
  go_wp2_with fail
  refine (hasFunction_any x.value _ _ (rep_next (rep_next hrv q0) hb2)).mono ?_
  rintro e w3 ⟨rfl, hb3⟩
  have q3 := bth q2 hb3
  have kb3 := kb2.next hb3
  have c0 := kb3.cell 0
  have c2 := kb3.cell 2
  have c3 := kb3.cell 3
  have c4 := kb3.cell 4
  have c5 := kb3.cell 5
  have c6 := kb3.cell 6
  have c7 := kb3.cell 7
  have c8 := kb3.cell 8
  have c9 := kb3.cell 9
  have c10 := kb3.cell 10
  have c11 := kb3.cell 11
  simp only [List.getElem?_cons_zero, List.getElem?_cons_succ] at c0 c2 c3 c4 c5 c6 c7 c8 c9 c10 c11
  clear hc2
  cases hff : hasF x.value with
  | true =>
    go_wp2_with fail
    go_ret
    exact ⟨ret_bool (by rw [HI.out, hn, hvv, hff]; rfl), q3⟩
  | false =>
  have HR := Lib.hid (show isHop x = hopK x by rw [HI.out, hn, hvv, hff]; rfl)
  by_cases k0 : x.kind = 0
  · have t0 : (x.kind == 0) = true := by simpa using k0
    have HK := Lib.hid (show isHop x = (x.frm.isEmpty && decide (x.at_ = 0)) by rw [HR.out, hopK, if_pos k0])
    clear k0
    cases hfe : x.frm.isEmpty with
    | false =>
      go_wp2_with fail
      go_ret
      exact ⟨ret_bool (by rw [HK.out, hfe]; rfl), q3⟩
    | true =>
      go_wp2_with fail
      go_ret
      exact ⟨ret_bool (by rw [HK.out, hfe, Bool.true_and, Bool.eq_iff_iff]; simp), q3⟩
  have t0 : (x.kind == 0) = false := by simpa using k0
  by_cases k2 : x.kind = 2
  · have t2 : (x.kind == 2) = true := by simpa using k2
    have HK := Lib.hid (show isHop x = (x.frm.isEmpty && decide (1 ≤ x.at_ ∧ x.at_ ≤ 40) && atomK x.value.kind && decide (ni = 1)) by rw [HR.out, hopK, if_neg k0, if_pos k2, HL1.out])
    clear k0 k2
    cases hfe : x.frm.isEmpty with
    | false =>
      go_wp2_with fail
      go_ret
      exact ⟨ret_bool (by rw [HK.out, hfe]; rfl), q3⟩
    | true =>
    by_cases ha : 1 ≤ x.at_ ∧ x.at_ ≤ 40
    case neg =>
      have HB := Lib.hid (show isHop x = false by rw [HK.out, decide_eq_false ha]; simp)
      have HA := Lib.hid ha
      clear ha
      go_wp2_with fail
      all_goals first | (go_ret; exact ⟨ret_bool HB.out.symm, q3⟩) | (exfalso; apply HA.out; omega)
    have a1 : decide (1 ≤ x.at_) = true := decide_eq_true ha.1
    have a2 : decide (x.at_ ≤ 40) = true := decide_eq_true ha.2
    have HK2 := Lib.hid (show isHop x = (atomK x.value.kind && decide (ni = 1)) by rw [HK.out, hfe, decide_eq_true ha]; rfl)
    go_wp2_with fail
    refine (isAtomic_any x.value _ _ (rep_in hrv q3 q3.size)).mono ?_
    rintro e w4 ⟨rfl, hb4⟩
    have c45 := (kb3.next hb4).cell 5
    simp only [List.getElem?_cons_zero, List.getElem?_cons_succ] at c45
    cases hat : atomK x.value.kind with
    | false =>
      go_wp2_with fail
      go_ret
      exact ⟨ret_bool (by rw [HK2.out, hat]; rfl), bth q3 hb4⟩
    | true =>
      go_wp2_with fail
      go_ret
      exact ⟨ret_bool (by rw [HK2.out, hat, Bool.true_and, Bool.eq_iff_iff]; simp; omega), bth q3 hb4⟩
  have t2 : (x.kind == 2) = false := by simpa using k2
  by_cases k13 : x.kind = 1 ∨ x.kind = 3
  · have HK := Lib.hid (show isHop x = (isNm x.frm && decide (x.at_ = 0 ∧ x.value.kind = 0)) by rw [HR.out, hopK, if_neg k0, if_neg k2, if_pos k13])
    clear k0 k2
    rcases k13 with k1 | k1
    case' inl => have t1 : (x.kind == 1) = true := by simpa using k1
    case' inr =>
      have t1 : (x.kind == 1) = false := by simp; omega
      have t3 : (x.kind == 3) = true := by simpa using k1
    all_goals
      clear k1
      go_wp2_with fail
      refine (implIsName_any x.frm _ wf).mono ?_
      rintro e w4 ⟨rfl, rfl⟩
      cases hnf : isNm x.frm
      case false =>
        go_wp2_with fail
        go_ret
        exact ⟨ret_bool (by rw [HK.out, hnf]; rfl), q3⟩
      go_wp2_with fail
      all_goals (go_ret; refine ⟨ret_bool ?_, q3⟩; rw [HK.out, hnf, Bool.true_and, Bool.eq_iff_iff]; simp [*])
  · have t1 : (x.kind == 1) = false := by simp; omega
    have t3 : (x.kind == 3) = false := by simp; omega
    have HK := Lib.hid (show isHop x = false by rw [HR.out, hopK, if_neg k0, if_neg k2, if_neg k13])
    clear k0 k2 k13
    go_wp2_with fail
    go_ret
    exact ⟨ret_bool HK.out.symm, q3⟩
set_option maxRecDepth 100000 in
set_option maxHeartbeats 4000000 in
theorem specIsHeapOp_any (x : Hop) (cs : List Value) (w : World) (h : rep w w.heap.size x.toD cs) (hbig : bigV x.value) :
    Calls Try.prog 8 #[av cs] w fun e w' => e = .returned (.bool (isHop x)) ∧ Below w.heap.size w w' := by
  obtain ⟨Ai, ni, ci, Ap, np, cp, An, nn, cn, Ac, nc, cc, Al, nl, cl, rfl, wk, wn, wf, wa, hrv⟩ := HeapOp_open h
  obtain ⟨Ai', ni', ci', Ap', np', cp', An', nn', cn', Ac', nc', cc', Al', nl', cl', hcs, hv⟩ := vec_open hrv
  injection hcs with _ hcs; injection hcs with e1 hcs; injection hcs with e2 hcs; injection hcs with e3 hcs; injection hcs with e4 hcs; injection hcs with e5 hcs
  injection e1 with e11 e12 e13; subst e11 e12 e13
  have HL1 := Lib.hid hv.it.len
  have hkb := Blk.new_ w 36 #[.int .i64 x.kind, sv x.name, sv x.frm, .int .i64 x.at_, .int .i64 x.value.kind, .slice Ai ni ci, .slice Ap np cp, .slice An nn cn, .slice Ac nc cc, .slice Al nl cl, .int .i64 x.value.code, .int .i64 x.value.env]
  have q0 := (Below.refl w.heap.size w).alloc (Nat.le_refl _) (.cells #[.int .i64 x.kind, sv x.name, sv x.frm, .int .i64 x.at_, .int .i64 x.value.kind, .slice Ai ni ci, .slice Ap np cp, .slice An nn cn, .slice Ac nc cc, .slice Al nl cl, .int .i64 x.value.code, .int .i64 x.value.env] 36)
  have HI := Lib.hid (show isHop x = (isNm x.name && isVec x.value && !hasF x.value && hopK x) from rfl)
  clear e2 e3 e4 e5 hcs
  go_enter Try.func8, Try.ntmps8
  go_wp2_with fail
  refine (l1In_any _ _ _ _).mono ?_
  rintro e w1 ⟨rfl, rfl⟩
  cases hk : decide (0 ≤ x.kind ∧ x.kind ≤ 3) with
  | false =>
    have HB := Lib.hid (show isHop x = false by
      have := of_decide_eq_false hk
      rw [HI.out, hopK, if_neg (by omega), if_neg (by omega), if_neg (by omega)]; simp)
    go_wp2_with fail
    go_ret
    exact ⟨ret_bool HB.out.symm, q0⟩
  | true =>
  have hk' := of_decide_eq_true hk
  clear hk
  go_wp2_with fail
  refine (specIsName_any x.name _ wn).mono ?_
  rintro e w1 ⟨rfl, rfl⟩
  cases hn : isNm x.name with
  | false =>
    go_wp2_with fail
    go_ret
    exact ⟨ret_bool (by rw [HI.out, hn]; rfl), q0⟩
  | true =>
  go_wp2_with fail
  refine (specIsVector_any x.value _ _ (rep_next hrv q0) hbig).mono ?_
  rintro e w2 ⟨rfl, hb2⟩
  have q2 := bth q0 hb2
  have kb2 := hkb.next hb2
  obtain ⟨hc2, _⟩ := bcell hb2
  simp only [wsize_alloc] at hc2
  cases hvv : isVec x.value with
  | false =>
    go_wp2_with fail
    go_ret
    exact ⟨ret_bool (by rw [HI.out, hn, hvv]; rfl), q2⟩
  | true =>
  go_wp2_with fail
  refine (l30HasFunction_any x.value _ _ (rep_next (rep_next hrv q0) hb2)).mono ?_
  rintro e w3 ⟨rfl, hb3⟩
  have q3 := bth q2 hb3
  have kb3 := kb2.next hb3
  have c0 := kb3.cell 0
  have c2 := kb3.cell 2
  have c3 := kb3.cell 3
  have c4 := kb3.cell 4
  have c5 := kb3.cell 5
  simp only [List.getElem?_cons_zero, List.getElem?_cons_succ] at c0 c2 c3 c4 c5
  clear hc2
  cases hff : hasF x.value with
  | true =>
    go_wp2_with fail
    go_ret
    exact ⟨ret_bool (by rw [HI.out, hn, hvv, hff]; rfl), q3⟩
  | false =>
  have HR := Lib.hid (show isHop x = hopK x by rw [HI.out, hn, hvv, hff]; rfl)
  by_cases k0 : x.kind = 0
  · have t0 : (x.kind == 0) = true := by simpa using k0
    have HK := Lib.hid (show isHop x = (x.frm.isEmpty && decide (x.at_ = 0)) by rw [HR.out, hopK, if_pos k0])
    clear k0
    cases hfe : x.frm.isEmpty with
    | false =>
      go_wp2_with fail
      go_ret
      exact ⟨ret_bool (by rw [HK.out, hfe]; rfl), q3⟩
    | true =>
      go_wp2_with fail
      go_ret
      exact ⟨ret_bool (by rw [HK.out, hfe, Bool.true_and, Bool.eq_iff_iff]; simp), q3⟩
  have t0 : (x.kind == 0) = false := by simpa using k0
  by_cases k2 : x.kind = 2
  · have t2 : (x.kind == 2) = true := by simpa using k2
    have HK := Lib.hid (show isHop x = (x.frm.isEmpty && decide (1 ≤ x.at_ ∧ x.at_ ≤ 40) && atomK x.value.kind && decide (ni = 1)) by rw [HR.out, hopK, if_neg k0, if_pos k2, HL1.out])
    clear k0 k2
    cases hfe : x.frm.isEmpty with
    | false =>
      go_wp2_with fail
      go_ret
      exact ⟨ret_bool (by rw [HK.out, hfe]; rfl), q3⟩
    | true =>
    go_wp2_with fail
    refine (l1In_any _ _ _ _).mono ?_
    rintro e w4 ⟨rfl, rfl⟩
    cases ha : decide (1 ≤ x.at_ ∧ x.at_ ≤ 40) with
    | false =>
      go_wp2_with fail
      go_ret
      exact ⟨ret_bool (by rw [HK.out, ha]; simp), q3⟩
    | true =>
    go_wp2_with fail
    refine (l1In_any _ _ _ _).mono ?_
    rintro e w4 ⟨rfl, rfl⟩
    cases hat : decide (1 ≤ x.value.kind ∧ x.value.kind ≤ 3) with
    | false =>
      go_wp2_with fail
      go_ret
      exact ⟨ret_bool (by rw [HK.out, atomK, hat]; simp), q3⟩
    | true =>
      go_wp2_with fail
      go_ret
      exact ⟨ret_bool (by rw [HK.out, atomK, hat, ha, hfe, Bool.true_and, Bool.true_and, Bool.true_and, Bool.eq_iff_iff]; simp; omega), q3⟩
  have t2 : (x.kind == 2) = false := by simpa using k2
  have HK := Lib.hid (show isHop x = (isNm x.frm && decide (x.at_ = 0 ∧ x.value.kind = 0)) by rw [HR.out, hopK, if_neg k0, if_neg k2, if_pos (by omega)])
  clear k0 k2
  go_wp2_with fail
  refine (specIsName_any x.frm _ wf).mono ?_
  rintro e w4 ⟨rfl, rfl⟩
  cases hnf : isNm x.frm with
  | false =>
    go_wp2_with fail
    go_ret
    exact ⟨ret_bool (by rw [HK.out, hnf]; rfl), q3⟩
  | true =>
  go_wp2_with fail
  all_goals (go_ret; refine ⟨ret_bool ?_, q3⟩; rw [HK.out, hnf, Bool.true_and, Bool.eq_iff_iff]; simp [*])
end Go.Proofs.Ytekcpadlmfaihaa
namespace Go.Proofs.Ytekcpadlmfaihaa
open Go.RowKit
theorem txtV_len (l : List Str) : lenV (txtV l) = l.length := by simp [lenV, txtV]
theorem txtV_cells (l : List Str) : cellsV (txtV l) = l.length := by
  rw [cellsV_eq, txtV_len]; rfl
theorem txtV_ok {l : List Str} (hn : l.length ≤ 40) (hl : ∀ x ∈ l, x.length ≤ 60) : isVec (txtV l) = true := by
  have h1 : shapeOK (txtV l) = true := by
    unfold shapeOK shA shN shC
    rw [txtV_len]
    have hi : (txtV l).items.all (shI (txtV l)) = true := by
      rw [List.all_eq_true]
      intro x hx
      obtain ⟨s, hs, rfl⟩ := List.mem_map.1 hx
      have := hl s hs
      simp [shI, itL, atomK, itemOK, txtV, tIt, this]
    rw [hi]
    simp [txtV, shP, labV, labF, hn]
  unfold isVec
  rw [okD, h1, txtV_cells]
  simp [txtV]; omega
theorem szDs_bd {l : List D} {B : Nat} (h : ∀ d ∈ l, szD d ≤ B) : szDs l ≤ l.length * B := by
  induction l with
  | nil => simp [szDs]
  | cons x t ih =>
    rw [szDs]
    have a := h x List.mem_cons_self
    have b := ih fun d hd => h d (List.mem_cons_of_mem _ hd)
    rw [List.length_cons, Nat.add_mul]
    omega
theorem txtV_big {l : List Str} (hn : l.length ≤ 40) (hl : ∀ x ∈ l, x.length ≤ 60) : bigV (txtV l) := by
  unfold bigV
  rw [Vector_sz]
  simp only [txtV, List.map_nil, szD, szDs, List.length_map, List.length_nil, List.map_map]
  have : szDs (l.map (Item.toD ∘ tIt)) ≤ (l.map (Item.toD ∘ tIt)).length * 1000 := szDs_bd (fun d hd => by
    obtain ⟨s, hs, rfl⟩ := List.mem_map.1 hd
    have := hl s hs
    simp only [Function.comp, Item.toD, tIt, szD, szDs]
    omega)
  rw [List.length_map] at this
  have h2 := Nat.mul_le_mul_right 1000 hn
  omega
set_option maxRecDepth 100000 in
set_option maxHeartbeats 4000000 in
theorem specTextVector_any (l : List Str) (A : Option Addr) (n c : Nat) (w : World) (hr : Reads encS 1 w w.heap.size A n l) (hn : (n : Int) ≤ 40) (hl : ∀ x ∈ l, x.length ≤ 60) :
    Calls Try.prog 110 #[.slice A n c] w (NewSt (txtV l).toD 34 w) := by
  have HLen := Lib.hid hr.len
  have q0 := ((Below.refl w.heap.size w).alloc (Nat.le_refl _) (.cells zv8.toArray 34)).alloc (by simp only [wsize_alloc]; omega) (.cells #[.int .i64 3, .slice none 0 0, .slice none 0 0, .slice none 0 0, .slice none 0 0, .slice none 0 0, .int .i64 0, .int .i64 0] 34)
  have k0 : Blk (w.alloc (.cells zv8.toArray 34)) w.heap.size 34 zv8 := Blk.new'
  have k1 : Blk ((w.alloc (.cells zv8.toArray 34)).alloc (.cells #[.int .i64 3, .slice none 0 0, .slice none 0 0, .slice none 0 0, .slice none 0 0, .slice none 0 0, .int .i64 0, .int .i64 0] 34)) (w.heap.size + 1) 34 [.int .i64 3, .slice none 0 0, .slice none 0 0, .slice none 0 0, .slice none 0 0, .slice none 0 0, .int .i64 0, .int .i64 0] := by
    have := Blk.new' (w := w.alloc (.cells zv8.toArray 34)) (t := 34) (l := [.int .i64 3, .slice none 0 0, .slice none 0 0, .slice none 0 0, .slice none 0 0, .slice none 0 0, .int .i64 0, .int .i64 0])
    simp only [wsize_alloc] at this
    exact this
  have HL := Lib.hid hl
  clear hl
  go_enter Try.func110, Try.ntmps110
  go_wp2_with fail
  go_loopw [4] (fun i wr => tvL l w n i wr) (fun i _ => n - (intOf i).toNat)
  case atStart => exact ⟨0, none, 0, [], by omega, rfl, k1, k0.al, by rw [List.take_zero]; exact own_nil Try.underlying31, Fresh.nil, q0⟩
  case round =>
    clear k0 k1 q0
    obtain ⟨k, Ao, co, FP, hk, rfl, kg, kz, oP, fr, bb⟩ := hrel
    have z0 := kg.lt
    by_cases hlt : k < n
    · obtain ⟨b, off, x, rfl, hb, hx, hc⟩ := (hr.below bb).at_ hlt
      have h0 := hc 0 _ rfl
      simp only [Nat.mul_one, Nat.add_zero] at h0
      have hx60 := HL.out x (List.mem_of_getElem? hx)
      have hxi : ¬ (60 : Int) < x.length := by omega
      have HX := Lib.hid (take_snoc' hx)
      clear hc hx
      have eg := kg.cell 1
      simp only [List.getElem?_cons_zero, List.getElem?_cons_succ] at eg
      have zf := kg.frozen 1
      have lP := own_lo oP
      go_upto_region 5 with fail
      go_region_law (first
        | (go_simp; go_at_call 124; refine (l4Text_any x _).mono ?_; rintro e w1 ⟨rfl, hb1⟩; obtain ⟨hc1, hf1⟩ := bcell hb1; have z1 := hb1.size; (try simp only [wsize_drew, wsize_alloc, wsize_set] at hc1 hf1 z1); have yg : w.heap.size + 1 < w1.heap.size := by omega)
        | (refine step_appD (A := Ao) (n := k) (c := co) (b := w1.heap.size) (m := 1) (xs := (l.take k).map fun s => (tIt s).toD) (F := FP) (d := (tIt x).toD) (F' := []) (te := 101) (cs := [.int .i64 0, .int .i64 1, sv x]) tyItem ?_ ?_ (.tmp 18) (.tmp 24) ?_ ?_ ?_ ?_ ?_ ?_ ?_ ?_ ?_ ?_ ?_; (kernel_rfl); (rfl); (rfl); (rfl); (focus (repeat' (first | with_reducible assumption | with_reducible refine own_dw ?_ | with_reducible refine own_al ?_ | with_reducible refine own_pk ?_ ?_ | with_reducible exact notin_nil | with_reducible refine notin_app ?_ ?_ | (with_reducible refine Fresh.notin (by with_reducible assumption) ?_; ((try simp only [wsize_drew, wsize_alloc, wsize_set]); omega)) | (with_reducible refine Lo.notin (by with_reducible assumption) ?_; ((try simp only [wsize_drew, wsize_alloc, wsize_set]); omega)) | with_reducible refine own_below ?_ (by with_reducible assumption)))); (rfl); (focus (repeat' (first | with_reducible assumption | with_reducible exact Blk.new' | with_reducible exact Blk.newd | with_reducible apply Blk.set8 | (with_reducible refine Blk.pk ?_ ?_; ((try simp only [wsize_drew, wsize_alloc, wsize_set]); omega)) | with_reducible refine Blk.dw ?_ | with_reducible refine Blk.al ?_ | with_reducible refine Blk.next ?_ (by with_reducible assumption)))); (exact own_tIt hx60); (rfl); (rw [List.append_nil]; exact fr.1); (unfold maxLen; omega); (omega); intro gg cc w2 FP2 oP2 ap2 md2; have kg2 := Blk.mod (t := 34) (cs := [.int .i64 3, .slice Ao k co, .slice none 0 0, .slice none 0 0, .slice none 0 0, .slice none 0 0, .int .i64 0, .int .i64 0]) (g := w.heap.size + 1) (by (repeat' (first | with_reducible assumption | with_reducible exact Blk.new' | with_reducible exact Blk.newd | with_reducible apply Blk.set8 | (with_reducible refine Blk.pk ?_ ?_; ((try simp only [wsize_drew, wsize_alloc, wsize_set]); omega)) | with_reducible refine Blk.dw ?_ | with_reducible refine Blk.al ?_ | with_reducible refine Blk.next ?_ (by with_reducible assumption)))) md2 (fr.notin (by omega)); have eg2 := kg2.cell 1; (simp only [List.getElem?_cons_zero, List.getElem?_cons_succ] at eg2); have zf2 := kg2.frozen 1))
      all_goals
        go_wp2_with fail
        go_roundw
        case rel =>
          have z2 := md2.size
          simp only [wsize_drew, wsize_alloc, wsize_set] at z2
          have ng : w.heap.size + 1 ∉ FP2 := ap2.notin (C := w.heap.size + 2) (fr.notin (by omega)) (by simp) (by omega) (by ((try simp only [wsize_drew, wsize_alloc, wsize_set]); omega))
          refine ⟨k + 1, some ⟨gg, 0, none⟩, cc, FP2, by omega, by go_num, kg2.set_ 1 _, ?_, ?_, ?_, ?_⟩
          · have := Blk.mod (t := 34) (cs := zv8) (g := w.heap.size) (by (repeat' (first | with_reducible assumption | with_reducible exact Blk.new' | with_reducible exact Blk.newd | with_reducible apply Blk.set8 | (with_reducible refine Blk.pk ?_ ?_; ((try simp only [wsize_drew, wsize_alloc, wsize_set]); omega)) | with_reducible refine Blk.dw ?_ | with_reducible refine Blk.al ?_ | with_reducible refine Blk.next ?_ (by with_reducible assumption)))) md2 (fr.notin (by omega))
            exact this.pk (by simp only; omega)
          · rw [HX.out, List.map_append, List.map_cons, List.map_nil]
            (repeat' (first | with_reducible assumption | with_reducible refine own_dw ?_ | with_reducible refine own_al ?_ | with_reducible refine own_pk ?_ ?_ | with_reducible exact notin_nil | with_reducible refine notin_app ?_ ?_ | (with_reducible refine Fresh.notin (by with_reducible assumption) ?_; ((try simp only [wsize_drew, wsize_alloc, wsize_set]); omega)) | (with_reducible refine Lo.notin (by with_reducible assumption) ?_; ((try simp only [wsize_drew, wsize_alloc, wsize_set]); omega)) | with_reducible refine own_below ?_ (by with_reducible assumption)))
          · refine ⟨ap2.1, fun y hy => ?_⟩
            rcases ap2.2 y hy with h1 | h1 | h1
            · exact fr.2 y h1
            · simp at h1
            · rw [h1]; ((try simp only [wsize_drew, wsize_alloc, wsize_set]); omega)
          · have B2 := bel_mod (B := w.heap.size) (a := w) (by (repeat' (first | with_reducible assumption | with_reducible exact Below.refl _ _ | with_reducible refine bel_dw ?_ | with_reducible refine bel_al ?_ ?_ | with_reducible refine bel_set ?_ ?_ | with_reducible refine bel_call ?_ (by with_reducible assumption) ?_ | ((try simp only [wsize_drew, wsize_alloc, wsize_set]); omega)))) md2 (fun y hy => by have := fr.2 y hy; omega) (by ((try simp only [wsize_drew, wsize_alloc, wsize_set]); omega))
            (repeat' (first | with_reducible assumption | with_reducible exact Below.refl _ _ | with_reducible refine bel_dw ?_ | with_reducible refine bel_al ?_ ?_ | with_reducible refine bel_set ?_ ?_ | with_reducible refine bel_call ?_ (by with_reducible assumption) ?_ | ((try simp only [wsize_drew, wsize_alloc, wsize_set]); omega)))
        case measure => simp [intOf]; omega
    · obtain rfl : k = n := by omega
      have hni : (k : Int) ≤ 40 := hn
      have oP0 := oP
      rw [List.take_of_length_le (by rw [HLen.out]; omega)] at oP
      have e9 : (txtV l).items.map Item.toD = l.map fun s => (tIt s).toD := by simp [txtV, Function.comp_def]
      rw [← e9] at oP
      have oV : own Try.prog wr (txtV l).toD 34 (FP ++ ([] ++ ([] ++ ([] ++ ([] ++ []))))) [.int .i64 3, .slice Ao k co, .slice none 0 0, .slice none 0 0, .slice none 0 0, .slice none 0 0, .int .i64 0, .int .i64 0] := Vector_own (x := txtV l) wf3 oP (own_nil Try.underlying32) (own_nil Try.underlying24) (own_nil Try.underlying24) (own_nil Try.underlying24) wf0 wf0
      have HV := Lib.hid (txtV_ok (l := l) (by rw [HLen.out]; omega) HL.out)
      have hbig := txtV_big (l := l) (by rw [HLen.out]; omega) HL.out
      clear e9 oP0
      obtain ⟨e0, e1, e2, e3, e4, e5, e6, e7⟩ := kg.c8
      go_wp2_with fail
      refine (specIsVector_any (txtV l) [.int .i64 3, .slice Ao k co, .slice none 0 0, .slice none 0 0, .slice none 0 0, .slice none 0 0, .int .i64 0, .int .i64 0] _ (own_rep _ _ _ _ oV) hbig).mono ?_
      rw [HV.out]
      rintro e w1 ⟨rfl, hb1⟩
      clear e0 e1 e2 e3 e4 e5 e6 e7
      have kg1 := kg.next hb1
      have kz1 := kz.next hb1
      have oV1 := own_below oV hb1
      have bb1 := bel_call bb hb1 (by omega)
      have z1 := hb1.size
      obtain ⟨r0, r1, r2, r3, r4, r5, r6, r7⟩ := kz1.c8
      have hR1 : w.heap.size < w1.heap.size := by omega
      obtain ⟨e0, e1, e2, e3, e4, e5, e6, e7⟩ := kg1.c8
      have zr := fun i => kz1.frozen i
      have zr0 := zr 0; have zr1 := zr 1; have zr2 := zr 2; have zr3 := zr 3; have zr4 := zr 4; have zr5 := zr 5; have zr6 := zr 6; have zr7 := zr 7
      clear zr
      go_wp2_with fail
      refine bodyPost_ret (v := .agg #[.int .i64 3, .slice Ao k co, .slice none 0 0, .slice none 0 0, .slice none 0 0, .slice none 0 0, .int .i64 0, .int .i64 0]) (by simp [results, Try.results110, go_sem, r0, r1, r2, r3, r4, r5, r6, r7, hR1]) rfl ⟨_, FP ++ ([] ++ ([] ++ ([] ++ ([] ++ [])))), rfl, ?_, ?_, ?_⟩
      · have fn : w.heap.size ∉ FP ++ ([] ++ ([] ++ ([] ++ ([] ++ [])))) := by simpa using fr.notin (by omega)
        repeat' (first | with_reducible assumption | with_reducible refine own_pk ?_ ?_)
      · simpa using fr.mono (by omega)
      · (repeat' (first | with_reducible assumption | with_reducible exact Below.refl _ _ | with_reducible refine bel_dw ?_ | with_reducible refine bel_al ?_ ?_ | with_reducible refine bel_set ?_ ?_ | with_reducible refine bel_call ?_ (by with_reducible assumption) ?_ | ((try simp only [wsize_drew, wsize_alloc, wsize_set]); omega)))
end Go.Proofs.Ytekcpadlmfaihaa
namespace Go.Proofs.Ytekcpadlmfaihaa
open Go.RowKit
def itT (kind : Int) (names : List Str) (items : List Item) : List Str := items.mapIdx fun k x => lbl (nam names k) ++ shw kind x
def zeroT (kind : Int) : Str := if kind = 1 then [108, 111, 103, 105, 99, 97, 108, 40, 48, 41] else if kind = 2 then [110, 117, 109, 101, 114, 105, 99, 40, 48, 41] else [99, 104, 97, 114, 97, 99, 116, 101, 114, 40, 48, 41]
def opT (kind : Int) : Str := if kind = 4 then [108, 105, 115, 116, 40] else [99, 40]
def plB (kind : Int) (items : List Item) (names : List Str) (ps : List Str) : Str :=
  if kind = 0 then [78, 85, 76, 76] else if kind = 5 then [60, 102, 117, 110, 99, 116, 105, 111, 110, 62]
  else if atomK kind = true ∧ items.length = 0 then zeroT kind
  else if atomK kind = true ∧ items.length = 1 ∧ names.length = 0 then shw kind ((items[0]?).getD ⟨0, 0, []⟩)
  else opT kind ++ (jn (itT kind names items ++ ps) ++ [41])
def txP (l : List Str) : Str := plB 3 (l.map tIt) [] []
def lvT (l : List Str) : Str := if l.length = 0 then [] else [44, 32, 108, 101, 118, 101, 108, 115, 32, 61, 32] ++ txP l
def clT (l : List Str) : Str := if l.length = 0 then [] else [44, 32, 99, 108, 97, 115, 115, 32, 61, 32] ++ txP l
def wrS (out : Str) (levels cls : List Str) : Str :=
  if levels.length = 0 ∧ cls.length = 0 then out else [115, 116, 114, 117, 99, 116, 117, 114, 101, 40] ++ (((out ++ lvT levels) ++ clT cls) ++ [41])
mutual
def fmtF : Vec → Str
  | ⟨kind, items, parts, names, cls, levels, _, _⟩ => wrS (plB kind items names (fmtL names 0 parts)) levels cls
def fmtL : List Str → Nat → List Vec → List Str
  | _, _, [] => []
  | names, k, p :: t => (lbl (nam names k) ++ fmtF p) :: fmtL names (k + 1) t
end
def fmtP (v : Vec) : Str := plB v.kind v.items v.names (fmtL v.names 0 v.parts)
theorem fmtF_eq (v : Vec) : fmtF v = wrS (fmtP v) v.levels v.cls := by cases v; rw [fmtF]; rfl
theorem fmtL_len (names : List Str) (k : Nat) (l : List Vec) : (fmtL names k l).length = l.length := by
  induction l generalizing k with
  | nil => rw [fmtL]; rfl
  | cons a t ih => rw [fmtL, List.length_cons, ih, List.length_cons]
theorem fmtL_at {names : List Str} {k i : Nat} {l : List Vec} {p : Vec} (h : l[i]? = some p) : (fmtL names k l)[i]? = some (lbl (nam names (k + i)) ++ fmtF p) := by
  induction l generalizing k i with
  | nil => simp at h
  | cons a t ih =>
    rw [fmtL]
    cases i with
    | zero => simp at h; subst h; simp
    | succ i => simp at h; rw [List.getElem?_cons_succ, ih h, Nat.add_right_comm, Nat.add_assoc]
theorem itT_len (kind : Int) (names : List Str) (items : List Item) : (itT kind names items).length = items.length := by simp [itT]
theorem itT_at {kind : Int} {names : List Str} {items : List Item} {i : Nat} {x : Item} (h : items[i]? = some x) : (itT kind names items)[i]? = some (lbl (nam names i) ++ shw kind x) := by
  simp [itT, h]
/-- All pieces of a vector. -/
def pcs (v : Vec) : List Str := itT v.kind v.names v.items ++ fmtL v.names 0 v.parts
theorem pcs_len (v : Vec) : (pcs v).length = v.items.length + v.parts.length := by rw [pcs, List.length_append, itT_len, fmtL_len]
theorem pcs_item {v : Vec} {i : Nat} {x : Item} (h : v.items[i]? = some x) : (pcs v)[i]? = some (lbl (nam v.names i) ++ shw v.kind x) := by
  have hl := (List.getElem?_eq_some_iff.1 h).1
  rw [pcs, List.getElem?_append_left (by rw [itT_len]; exact hl)]
  exact itT_at h
theorem pcs_part {v : Vec} {i : Nat} {p : Vec} (h : v.parts[i]? = some p) (h0 : v.items = []) : (pcs v)[i]? = some (lbl (nam v.names i) ++ fmtF p) := by
  have : itT v.kind v.names v.items = [] := by rw [h0]; rfl
  rw [pcs, this, List.nil_append, fmtL_at h, Nat.zero_add]
theorem lbl_nil : lbl [] = [] := by simp [lbl]
theorem nam_nil {l : List Str} (h : l.length = 0) (k : Nat) : nam l k = [] := by
  have := List.length_eq_zero_iff.1 h; subst this; rfl
/-! What a right vector is made of. -/
structure FV (v : Vec) : Prop where
  kind : 0 ≤ v.kind ∧ v.kind ≤ 5
  len : v.items.length + v.parts.length ≤ 40
  np : 0 < v.parts.length → v.kind = 4
  ni : 0 < v.items.length → atomK v.kind = true
  names : ∀ x ∈ v.names, x.length ≤ 60
  nn : v.names.length = 0 ∨ v.names.length = lenV v
  it : ∀ x ∈ v.items, itemOK v.kind x = true
  cls : v.cls.length ≤ 3 ∧ ∀ x ∈ v.cls, x.length ≤ 60
  lev : v.levels.length ≤ 20 ∧ ∀ x ∈ v.levels, x.length ≤ 60
  n5 : v.kind = 5 → v.items.length = 0 ∧ v.parts.length = 0 ∧ v.names.length = 0
theorem labF_le {a l : List Str} (h : labF a l = true) : ∀ x ∈ l, x.length ≤ 60 := by
  induction l generalizing a with
  | nil => simp
  | cons y t ih =>
    rw [labF] at h
    simp only [Bool.and_eq_true, decide_eq_true_eq] at h
    intro x hx
    rcases List.mem_cons.1 hx with rfl | hx
    · exact h.1.1.2
    · exact ih h.2 x hx
theorem labV_le {l : List Str} {m : Nat} (h : labV l m = true) : l.length ≤ m ∧ ∀ x ∈ l, x.length ≤ 60 := by
  simp only [labV, Bool.and_eq_true, decide_eq_true_eq] at h
  exact ⟨h.1, labF_le h.2⟩
theorem FV.of {v : Vec} (h : shapeOK v = true) : FV v := by
  simp only [shapeOK, Bool.and_eq_true] at h
  obtain ⟨⟨⟨hA, hN⟩, hC⟩, hI⟩ := h
  simp only [shA, Bool.and_eq_true, decide_eq_true_eq] at hA
  obtain ⟨⟨⟨k0, k5, hl⟩, hc⟩, hlv⟩ := hA
  have hC2 : shP v.kind v.code v.env v.items.length v.parts.length v.names.length v.cls.length v.levels.length := of_decide_eq_true hC
  obtain ⟨c1, c2, c3, c4, c5⟩ := hC2
  simp only [shN, Bool.and_eq_true, Bool.or_eq_true, decide_eq_true_eq, List.all_eq_true] at hN
  rw [List.all_eq_true] at hI
  have hnp5 : v.kind = 5 → v.parts.length = 0 := fun h5 => by
    rcases Nat.eq_zero_or_pos v.parts.length with h | h
    · exact h
    · have := c2 h; omega
  have hlen : v.items.length + v.parts.length ≤ 40 := by
    by_cases h5 : v.kind = 5
    · have := c4 h5; have := hnp5 h5; omega
    · rw [lenV, if_neg h5] at hl; exact hl
  have hit : ∀ x ∈ v.items, atomK v.kind = true ∧ itemOK v.kind x = true := fun x hx => by
    have := hI x hx
    simp only [shI, itL, Bool.and_eq_true] at this
    exact ⟨this.1, this.2.1⟩
  refine ⟨⟨k0, k5⟩, hlen, c2, fun h0 => ?_, hN.2, ?_, fun x hx => (hit x hx).2, labV_le hc, labV_le hlv, fun h5 => ⟨(c4 h5).1, hnp5 h5, (c4 h5).2.1⟩⟩
  · exact (hit _ (List.getElem_mem h0)).1
  · rcases hN.1 with h | h
    · exact .inl h
    · exact .inr h.1
theorem okD_shape {d : Nat} {v : Vec} (h : okD d v = true) : shapeOK v = true := by
  cases d <;> (rw [okD] at h; simp only [Bool.and_eq_true] at h; exact h.1)
theorem okD_part {d : Nat} {v p : Vec} (h : okD d v = true) (hp : p ∈ v.parts) : ∃ d', d = d' + 1 ∧ okD d' p = true := by
  cases d with
  | zero =>
    rw [okD] at h
    simp only [Bool.and_eq_true, List.isEmpty_iff] at h
    rw [h.2] at hp; simp at hp
  | succ d =>
    rw [okD] at h
    simp only [Bool.and_eq_true, List.all_eq_true] at h
    exact ⟨d, rfl, h.2 p hp⟩
/-! Lengths. -/
theorem lbl_len (s : Str) : (lbl s).length ≤ 4 * s.length + 5 := by
  unfold lbl
  have h1 := quo_len s
  have h2 := fmtN_len s
  split
  · simp
  · split <;> simp only [List.length_append, List.length_cons, List.length_nil] <;> omega
theorem nam_len {l : List Str} (h : ∀ x ∈ l, x.length ≤ 60) (k : Nat) : (nam l k).length ≤ 60 := by
  unfold nam
  cases hk : l[k]? with
  | none => simp
  | some x => exact h x (List.mem_of_getElem? hk)
theorem fmtNum_len (x : Item) : (fmtNum x).length ≤ 2100000000 := by
  unfold fmtNum
  split
  · simp
  · split
    · next hn =>
      have hb := isNum_bd hn
      have h1 := fmtI_le x.num
      have h2 := fmtI_le x.den
      split
      · omega
      · simp only [List.length_append, List.length_cons, List.length_nil]; omega
    · simp
theorem item_text {kind : Int} {x : Item} (h : itemOK kind x = true) (hk : atomK kind = true) : x.text.length ≤ 60 := by
  unfold itemOK at h
  simp only [Bool.or_eq_true] at h
  rcases h with h | h
  · simp [isMiss] at h; rw [h]; simp
  · split at h
    · simp at h; simp [h.1.1]
    · split at h
      · simp [isNum] at h; simp [h.1.1]
      · split at h
        · simp at h; omega
        · cases h
theorem shw_len {kind : Int} {x : Item} (h : x.text.length ≤ 60) : (shw kind x).length ≤ 2100000000 := by
  have h1 := fmtNum_len x
  have h2 := quo_len x.text
  unfold shw
  split
  · split
    · simp
    · split <;> simp
  · split
    · split
      · simp
      · exact h1
    · split
      · simp
      · omega
def lim (d : Nat) : Nat := 1000000000000 * 41 ^ d
theorem lim_0 : lim 0 = 1000000000000 := by decide
theorem lim_succ (d : Nat) : lim (d + 1) = 41 * lim d := by unfold lim; rw [Nat.pow_succ]; omega
theorem lim_ge (d : Nat) : 1000000000000 ≤ lim d := by
  induction d with
  | zero => rw [lim_0]; omega
  | succ d ih => rw [lim_succ]; omega
theorem lim_3 {d : Nat} (h : d ≤ 3) : lim d ≤ 68921000000000000 := by
  have h0 := lim_0
  have h1 : lim 1 = 41 * lim 0 := lim_succ 0
  have h2 : lim 2 = 41 * lim 1 := lim_succ 1
  have h3 : lim 3 = 41 * lim 2 := lim_succ 2
  have : d = 0 ∨ d = 1 ∨ d = 2 ∨ d = 3 := by omega
  rcases this with rfl | rfl | rfl | rfl <;> omega
theorem shw_t (s : Str) : shw 3 (tIt s) = quo s := by simp [shw, tIt, isMiss]
theorem txP_len {l : List Str} (hn : l.length ≤ 20) (hl : ∀ x ∈ l, x.length ≤ 60) : (txP l).length ≤ 100000 := by
  unfold txP plB
  rw [if_neg (by omega), if_neg (by omega)]
  split
  · simp [zeroT]
  · split
    · next h =>
      cases l with
      | nil => simp at h
      | cons a t =>
        have := quo_len a
        have := hl a List.mem_cons_self
        simp only [List.map_cons, List.getElem?_cons_zero, Option.getD_some]
        rw [shw_t]
        omega
    · have hj := jn_len (itT 3 [] (l.map tIt) ++ []) 300 (fun x hx => by
        rw [List.append_nil] at hx
        obtain ⟨k, hk⟩ := List.mem_iff_getElem?.1 hx
        have hkl := (List.getElem?_eq_some_iff.1 hk).1
        rw [itT_len, List.length_map] at hkl
        have := itT_at (kind := 3) (names := []) (items := l.map tIt) (i := k) (x := tIt l[k]) (by simp [hkl])
        rw [this] at hk
        injection hk with hk
        subst hk
        rw [nam_nil rfl, lbl_nil, List.nil_append]
        have h1 := quo_len l[k]
        have h2 := hl l[k] (List.getElem_mem hkl)
        rw [shw_t]
        omega)
      rw [List.append_nil, itT_len, List.length_map] at hj
      have hm := Nat.mul_le_mul_right 302 hn
      simp only [List.length_append, List.length_cons, List.length_nil, opT]
      rw [List.append_nil, if_neg (by omega)]
      simp only [List.length_cons, List.length_nil]
      omega
theorem pcs_le {d : Nat} (ih : ∀ d' p, d = d' + 1 → okD d' p = true → (fmtF p).length ≤ lim d') {v : Vec} (h : okD d v = true) : ∀ x ∈ pcs v, x.length ≤ (if d = 0 then 2100000300 else lim (d - 1) + 300) := by
  have hf := FV.of (okD_shape h)
  intro x hx
  rcases List.mem_append.1 hx with hx | hx
  · obtain ⟨k, hk⟩ := List.mem_iff_getElem?.1 hx
    have hkl := (List.getElem?_eq_some_iff.1 hk).1
    rw [itT_len] at hkl
    have h1 := itT_at (kind := v.kind) (names := v.names) (items := v.items) (i := k) (x := v.items[k]) (by simp)
    rw [h1] at hk
    injection hk with hk
    subst hk
    have h2 := lbl_len (nam v.names k)
    have h3 := nam_len hf.names k
    have h4 := shw_len (kind := v.kind) (item_text (hf.it v.items[k] (List.getElem_mem hkl)) (hf.ni (by omega)))
    rw [List.length_append]
    have := lim_ge (d - 1)
    split <;> omega
  · obtain ⟨k, hk⟩ := List.mem_iff_getElem?.1 hx
    have hkl := (List.getElem?_eq_some_iff.1 hk).1
    rw [fmtL_len] at hkl
    have h1 := fmtL_at (names := v.names) (k := 0) (l := v.parts) (i := k) (p := v.parts[k]) (by simp)
    rw [h1] at hk
    injection hk with hk
    subst hk
    obtain ⟨d', rfl, hd'⟩ := okD_part h (List.getElem_mem hkl)
    have h2 := lbl_len (nam v.names (0 + k))
    have h3 := nam_len hf.names (0 + k)
    have h4 := ih d' _ rfl hd'
    rw [List.length_append, if_neg (by omega), Nat.add_sub_cancel]
    omega
theorem fmtP_len {d : Nat} (ih : ∀ d' p, d = d' + 1 → okD d' p = true → (fmtF p).length ≤ lim d') {v : Vec} (h : okD d v = true) : (fmtP v).length + 500000 ≤ lim d := by
  have hf := FV.of (okD_shape h)
  have hg := lim_ge d
  unfold fmtP plB
  split
  · simp; omega
  · split
    · simp; omega
    · split
      · unfold zeroT; split
        · simp; omega
        · split <;> (simp; omega)
      · split
        · next h1 =>
          have hi : 0 < v.items.length := by omega
          have : (v.items[0]?).getD ⟨0, 0, []⟩ = v.items[0] := by simp [hi]
          rw [this]
          have := shw_len (kind := v.kind) (item_text (hf.it v.items[0] (List.getElem_mem hi)) h1.1)
          omega
        · have hj := jn_len (pcs v) _ (pcs_le ih h)
          rw [pcs_len] at hj
          have hm := Nat.mul_le_mul_right ((if d = 0 then 2100000300 else lim (d - 1) + 300) + 2) hf.len
          have ho : (opT v.kind).length ≤ 5 := by unfold opT; split <;> simp
          show (opT v.kind ++ (jn (pcs v) ++ [41])).length + 500000 ≤ lim d
          simp only [List.length_append, List.length_cons, List.length_nil]
          cases d with
          | zero => rw [if_pos rfl] at hj hm; rw [lim_0] at *; omega
          | succ d =>
            rw [if_neg (by omega), Nat.add_sub_cancel] at hj hm
            have := lim_ge d
            rw [lim_succ] at *
            omega
theorem fmtF_len (d : Nat) : ∀ v, okD d v = true → (fmtF v).length ≤ lim d := by
  induction d with
  | zero =>
    intro v h
    have hf := FV.of (okD_shape h)
    have h1 := fmtP_len (d := 0) (fun d' p he => by omega) h
    have h2 := txP_len (l := v.levels) hf.lev.1 hf.lev.2
    have h3 := txP_len (l := v.cls) (by have := hf.cls.1; omega) hf.cls.2
    rw [fmtF_eq]
    unfold wrS lvT clT
    split
    · omega
    · simp only [List.length_append, List.length_cons, List.length_nil]
      split <;> split <;> simp only [List.length_append, List.length_cons, List.length_nil] <;> omega
  | succ d ih =>
    intro v h
    have hf := FV.of (okD_shape h)
    have h1 := fmtP_len (d := d + 1) (fun d' p he hp => by
      have : d' = d := by omega
      subst this
      exact ih p hp) h
    have h2 := txP_len (l := v.levels) hf.lev.1 hf.lev.2
    have h3 := txP_len (l := v.cls) (by have := hf.cls.1; omega) hf.cls.2
    rw [fmtF_eq]
    unfold wrS lvT clT
    split
    · omega
    · simp only [List.length_append, List.length_cons, List.length_nil]
      split <;> split <;> simp only [List.length_append, List.length_cons, List.length_nil] <;> omega
end Go.Proofs.Ytekcpadlmfaihaa
