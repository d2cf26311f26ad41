/- Heaps that are right: what impl.IsHeap returns. -/
import Derived.Test.YtekcpadlmfaihaaJO
import Derived.Test.YtekcpadlmfaihaaJR
import Derived.Test.YtekcpadlmfaihaaJH
set_option linter.unusedSimpArgs false
set_option linter.unusedVariables false
namespace Go.Proofs.Ytekcpadlmfaihaa
open Go.RowKit
theorem Reads.pre {α : Type} {enc : α → List Value} {s : Nat} {w : World} {B n : Nat} {A : Option Addr} {l : List α} (h : Reads enc s w B A n l) {k : Nat} (hk : k ≤ n) : Reads enc s w B A k (l.take k) := by
  refine ⟨by rw [List.length_take, h.len]; omega, fun h0 => ?_⟩
  obtain ⟨b, off, e, hb, hc⟩ := h.2 (by omega)
  refine ⟨b, off, e, hb, fun i x j u hx hu => hc i x j u ?_ hu⟩
  rw [List.getElem?_take] at hx
  split at hx
  · exact hx
  · cases hx
theorem Blk.c10 {w : World} {g : Nat} {t : TypeId} {a b c d e f h i j k : Value} (q : Blk w g t [a, b, c, d, e, f, h, i, j, k]) : w.cell? ⟨g, 0, none⟩ = some a ∧ w.cell? ⟨g, 1, none⟩ = some b ∧ w.cell? ⟨g, 2, none⟩ = some c ∧ w.cell? ⟨g, 3, none⟩ = some d ∧ w.cell? ⟨g, 4, none⟩ = some e ∧ w.cell? ⟨g, 5, none⟩ = some f ∧ w.cell? ⟨g, 6, none⟩ = some h ∧ w.cell? ⟨g, 7, none⟩ = some i ∧ w.cell? ⟨g, 8, none⟩ = some j ∧ w.cell? ⟨g, 9, none⟩ = some k :=
  ⟨q.cell 0, q.cell 1, q.cell 2, q.cell 3, q.cell 4, q.cell 5, q.cell 6, q.cell 7, q.cell 8, q.cell 9⟩
theorem heapOK_no {h : Hp} (hn : decide (h.names.length = h.slots.length) = false ∨ decide (0 ≤ h.copies) = false ∨ (refs h).all (inR h) = false ∨ allFrom (celOK (cnts h.cells.length (refs h))) h.cells = false ∨ allFrom (fun i s => namOK h i s ((h.slots[i]?).getD 0)) h.names = false) : heapOK h = false := by
  unfold heapOK
  rcases hn with e | e | e | e | e <;> simp [e]
theorem allFrom_no {α : Type} {f : Nat → α → Bool} {l : List α} {i : Nat} {x : α} (hx : l[i]? = some x) (hf : f i x = false) : allFrom f l = false := by
  cases ha : allFrom f l with
  | false => rfl
  | true => rw [allFrom_iff.1 ha i x hx] at hf; cases hf
theorem allFrom_yes {α : Type} {f : Nat → α → Bool} {l : List α} (h : ∀ i x, i < l.length → l[i]? = some x → f i x = true) : allFrom f l = true :=
  allFrom_iff.2 fun i x hx => h i x (List.getElem?_eq_some_iff.1 hx).1 hx
theorem ok_snoc {f : Nat → Cel → Bool} {l : List Cel} {p : Nat} {x : Cel} (h : ∀ i y, i < p → l[i]? = some y → f i y = true) (hx : l[p]? = some x) (hf : f p x = true) : ∀ i y, i < p + 1 → l[i]? = some y → f i y = true := fun i y hi hy => by
  rcases Nat.lt_or_ge i p with h1 | h1
  · exact h i y h1 hy
  · obtain rfl : i = p := by omega
    rw [hx] at hy; injection hy with hy; subst hy; exact hf
/-- Whether a text is among others (spelt so that the walk leaves it as it is). -/
def hasB (l : List Str) (s : Str) : Bool := l.contains s
theorem hasText_b (A : Option Addr) (len cap : Nat) (l : List Str) (key : Str) (w : World) (hr : Reads encS 1 w w.heap.size A len l) (hlen : len ≤ maxLen) :
    Calls Try.prog 47 #[.slice A len cap, sv key] w fun e w' => e = .returned (.bool (hasB l key)) ∧ w = w' := hasText_any A len cap l key w hr hlen
theorem nm_snoc {f : Nat → Str → Bool} {l : List Str} {p : Nat} {x : Str} (h : ∀ i y, i < p → l[i]? = some y → f i y = true) (hx : l[p]? = some x) (hf : f p x = true) : ∀ i y, i < p + 1 → l[i]? = some y → f i y = true := fun i y hi hy => by
  rcases Nat.lt_or_ge i p with h1 | h1
  · exact h i y h1 hy
  · obtain rfl : i = p := by omega
    rw [hx] at hy; injection hy with hy; subst hy; exact hf
theorem heapOK_yes {h : Hp} (h1 : h.names.length = h.slots.length) (h2 : 0 ≤ h.copies) (h3 : (refs h).all (inR h) = true) (h4 : allFrom (celOK (cnts h.cells.length (refs h))) h.cells = true) (h5 : allFrom (fun i s => namOK h i s ((h.slots[i]?).getD 0)) h.names = true) : heapOK h = true := by
  unfold heapOK
  rw [h3, h4, h5]
  simp [h1, h2]
theorem asm_big {h : Hp} (hz : szD h.toD ≤ 1048576) {k : Int} (hd : depD h 3 k = true) : bigV (asm h 3 k) := by
  have := asm_sz hz 3 k hd
  unfold bigV
  have e : 41 ^ (3 + 1) = 2825761 := by decide
  omega
set_option maxRecDepth 100000 in
set_option maxHeartbeats 16000000 in
theorem implIsHeap_any (h : Hp) (hz : szD h.toD ≤ 1048576) (cs : List Value) (w : World) (hr : rep w w.heap.size h.toD cs) : Calls Try.prog 15 #[av cs] w fun e w' => e = .returned (.bool (heapOK h)) ∧ Below w.heap.size w w' := by
  have hrl := refs_le h
  have hhs := Heap_sz h
  simp only [szD, List.length_map] at hhs
  have hcl : h.cells.length ≤ 1048576 := by omega
  have hCC := fun w0 hr0 => cellCounts_any h hz hcl (by omega) cs w0 hr0
  obtain ⟨A, n, c, Am, nm, cm, As, ns, ca, rfl, rc, rn, rs, wc⟩ := Heap_open hr
  have hl := (rep_sl_len rc).1
  rw [List.length_map] at hl
  obtain ⟨As', ns', ca', he, _, hsm, hs, _⟩ := (repI _ _ _ _).1 rs
  injection he with he; injection he with f1 f2 f3; subst f1 f2 f3
  obtain ⟨Am', nm', cm', he, hmc, hmm, hm, hmx⟩ := (repS _ _ _ _).1 rn
  injection he with he; injection he with f1 f2 f3; subst f1 f2 f3
  have q0 := (Below.refl w.heap.size w).alloc (Nat.le_refl _) (.cells #[.slice A n c, .slice Am nm cm, .slice As ns ca, .int .i64 h.copies] 48)
  have kh : Blk (w.alloc (.cells #[.slice A n c, .slice Am nm cm, .slice As ns ca, .int .i64 h.copies] 48)) w.heap.size 48 [.slice A n c, .slice Am nm cm, .slice As ns ca, .int .i64 h.copies] := Blk.new' (l := [.slice A n c, .slice Am nm cm, .slice As ns ca, .int .i64 h.copies])
  have hl1 := hm.len
  have hl2 := hs.len
  simp only [hl] at hCC
  by_cases hnn : nm = ns
  rotate_left
  · have HZ := Lib.hid (heapOK_no (h := h) (.inl (by simp; omega)))
    have b1 : ((nm : Int) != (ns : Int)) = true := by simp; omega
    clear hnn hl hl1 hl2 hrl hhs
    go_enter Try.func15, Try.ntmps15
    go_wp2_with fail
    go_ret
    exact ⟨ret_bool HZ.out.symm, q0⟩
  have b1 : ((nm : Int) != (ns : Int)) = false := by simp; omega
  by_cases hcp : h.copies < 0
  · have HZ := Lib.hid (heapOK_no (h := h) (.inr (.inl (by simp; omega))))
    clear hnn hl hl1 hl2 hrl hhs
    go_enter Try.func15, Try.ntmps15
    go_wp2_with fail
    go_ret
    exact ⟨ret_bool HZ.out.symm, q0⟩
  have HL := Lib.hid hl
  have HL1 := Lib.hid hl1
  have HL2 := Lib.hid hl2
  have HR := Lib.hid hr
  have HNN := Lib.hid hnn
  have HMX := Lib.hid hmx
  have hn : n ≤ 1048576 := by omega
  have hnb : nm ≤ 1048576 := by omega
  clear hnn hl hl1 hl2 hrl hhs hmx
  go_enter Try.func15, Try.ntmps15
  go_wp2_with fail
  refine (hCC _ (rep_in hr q0 q0.size)).mono ?_
  clear hr
  rintro e w1 (⟨hno, rfl, hb1⟩ | ⟨hall, g, c0, rfl, oC, hb1⟩)
  · have HZ := Lib.hid (heapOK_no (h := h) (.inr (.inr (.inl hno))))
    clear hno
    go_wp2_with fail
    go_ret
    exact ⟨ret_bool HZ.out.symm, bth q0 hb1⟩
  have q1 := bth q0 hb1
  have kh := kh.next hb1
  replace oC := oC.mono (base' := w.heap.size) (by simp only [wsize_alloc]; omega)
  have HAL := Lib.hid hall
  have hgw : g < w1.heap.size := oC.lt.2
  have hgB : w.heap.size ≤ g := oC.lt.1
  clear hall
  obtain ⟨g0, g1, g2, g3⟩ := kh.c4
  go_wp2_with fail
  clear g0 g1 g2 g3
  go_loopw [31] (fun v wr => ∃ p : Nat, p ≤ n ∧ v = .int .i64 p ∧ (∀ i x, i < p → h.cells[i]? = some x → celOK (cnts n (refs h)) i x = true) ∧ Own encI 1 3 wr w.heap.size (some ⟨g, 0, none⟩) n c0 (cnts n (refs h)) ∧ Blk wr w.heap.size 48 [.slice A n c, .slice Am nm cm, .slice As ns ca, .int .i64 h.copies] ∧ Below w.heap.size w wr) (fun v _ => n - (intOf v).toNat)
  case atStart => exact ⟨0, by omega, rfl, fun i x hi => by omega, oC, kh, q1⟩
  case round =>
    clear oC kh q1 hgw
    obtain ⟨p, hp, rfl, hok, oC, kh, bb⟩ := hrel
    obtain ⟨g0, g1, g2, g3⟩ := kh.c4
    have HOK := Lib.hid hok
    have hgw : g < wr.heap.size := oC.lt.2
    have yh := kh.lt
    have z0 := bb.size
    clear hok
    by_cases hlp : p < n
    · obtain ⟨b, off, x, Ai, ni, ci, Ap, np, cp, An, nn, cn, Ac, nc, cc, Al, nl, cl, Aq, nq, cq, rfl, hbl, hx, hrx, e0, e1, e2, e3, e4, e5, e6, e7, e8, e9⟩ := Cell_at (rep_below rc bb) hlp
      obtain ⟨_, _, _, _, _, _, _, _, _, _, _, _, _, _, _, _, _, _, hcs, _, rv, rq⟩ := Cell_open hrx
      simp only [List.cons.injEq, Value.slice.injEq, true_and, and_true] at hcs
      obtain ⟨⟨rfl, rfl, rfl⟩, ⟨rfl, rfl, rfl⟩, ⟨rfl, rfl, rfl⟩, ⟨rfl, rfl, rfl⟩, ⟨rfl, rfl, rfl⟩, rfl, rfl, rfl⟩ := hcs
      have hpl := (rep_sl_len rq).1
      rw [List.length_map] at hpl
      obtain ⟨_, _, _, _, _, _, _, _, _, _, _, _, _, _, _, hcs, _, _, rpv, _⟩ := Vector_open rv
      simp only [List.cons.injEq, Value.slice.injEq, true_and, and_true] at hcs
      obtain ⟨⟨rfl, rfl, rfl⟩, ⟨rfl, rfl, rfl⟩, ⟨rfl, rfl, rfl⟩, ⟨rfl, rfl, rfl⟩, ⟨rfl, rfl, rfl⟩, rfl, rfl⟩ := hcs
      have hvl := (rep_sl_len rpv).1
      rw [List.length_map] at hvl
      obtain ⟨_, _, v, ev1, _, hv, hcv⟩ := (Own.reads (w := wr) encI_len oC).atI hlp
      injection ev1 with ev1; injection ev1 with ev1 ev2; subst ev1 ev2
      rw [Nat.zero_add] at hcv
      have yb : b < wr.heap.size := by omega
      have ip : (p : Int) < (n : Int) := by omega
      have ip0 : (0 : Int) ≤ (p : Int) := by omega
      have hcel : celOK (cnts n (refs h)) p x = (decide (v = x.count) && decide (np = 0) && (decide (x.count ≠ 0) || (decide (nq = 0) && isZ x.value))) := by
        unfold celOK; rw [hv, hvl, hpl]; simp
      have HCEL := Lib.hid hcel
      have HX := Lib.hid hx
      have bb2 := bel_al (o := .cells #[.int .i64 x.count, .int .i64 x.value.kind, .slice Ai ni ci, .slice Ap np cp, .slice An nn cn, .slice Ac nc cc, .slice Al nl cl, .int .i64 x.value.code, .int .i64 x.value.env, .slice Aq nq cq] 71) bb z0
      have HBAD : Hid (celOK (cnts n (refs h)) p x = false → heapOK h = false) := Lib.hid fun hb => heapOK_no (.inr (.inr (.inr (.inl (allFrom_no HX.out (by rw [HL.out]; exact hb))))))
      clear hv hcel hx hpl hvl rpv rq
      have kb : Blk (wr.alloc (.cells #[.int .i64 x.count, .int .i64 x.value.kind, .slice Ai ni ci, .slice Ap np cp, .slice An nn cn, .slice Ac nc cc, .slice Al nl cl, .int .i64 x.value.code, .int .i64 x.value.env, .slice Aq nq cq] 71)) wr.heap.size 71 [.int .i64 x.count, .int .i64 x.value.kind, .slice Ai ni ci, .slice Ap np cp, .slice An nn cn, .slice Ac nc cc, .slice Al nl cl, .int .i64 x.value.code, .int .i64 x.value.env, .slice Aq nq cq] := Blk.new' (l := [.int .i64 x.count, .int .i64 x.value.kind, .slice Ai ni ci, .slice Ap np cp, .slice An nn cn, .slice Ac nc cc, .slice Al nl cl, .int .i64 x.value.code, .int .i64 x.value.env, .slice Aq nq cq])
      have SL : ∀ W, Below (wr.alloc (.cells #[.int .i64 x.count, .int .i64 x.value.kind, .slice Ai ni ci, .slice Ap np cp, .slice An nn cn, .slice Ac nc cc, .slice Al nl cl, .int .i64 x.value.code, .int .i64 x.value.env, .slice Aq nq cq] 71)).heap.size (wr.alloc (.cells #[.int .i64 x.count, .int .i64 x.value.kind, .slice Ai ni ci, .slice Ap np cp, .slice An nn cn, .slice Ac nc cc, .slice Al nl cl, .int .i64 x.value.code, .int .i64 x.value.env, .slice Aq nq cq] 71)) W → (fun W => W.cell? ⟨wr.heap.size, 0, none⟩ = some (.int .i64 x.count) ∧ W.cell? ⟨wr.heap.size, 1, none⟩ = some (.int .i64 x.value.kind) ∧ W.cell? ⟨wr.heap.size, 2, none⟩ = some (.slice Ai ni ci) ∧ W.cell? ⟨wr.heap.size, 3, none⟩ = some (.slice Ap np cp) ∧ W.cell? ⟨wr.heap.size, 4, none⟩ = some (.slice An nn cn) ∧ W.cell? ⟨wr.heap.size, 5, none⟩ = some (.slice Ac nc cc) ∧ W.cell? ⟨wr.heap.size, 6, none⟩ = some (.slice Al nl cl) ∧ W.cell? ⟨wr.heap.size, 7, none⟩ = some (.int .i64 x.value.code) ∧ W.cell? ⟨wr.heap.size, 8, none⟩ = some (.int .i64 x.value.env) ∧ W.cell? ⟨wr.heap.size, 9, none⟩ = some (.slice Aq nq cq) ∧ W.cell? ⟨g, p, none⟩ = some (.int .i64 v)) W := fun W hW => by
        obtain ⟨a0, a1, a2, a3, a4, a5, a6, a7, a8, a9⟩ := (kb.next hW).c10
        refine ⟨a0, a1, a2, a3, a4, a5, a6, a7, a8, a9, (hW.cell (p := ⟨g, p, none⟩) (by simp only [wsize_alloc]; exact Nat.lt_succ_of_lt hgw)).trans ?_⟩
        exact (((Below.refl wr.heap.size wr).alloc (Nat.le_refl _) _).cell (p := ⟨g, p, none⟩) hgw).trans hcv
      have S0 := SL _ (Below.refl _ _).drew
      simp only at S0
      have HSL := Lib.hid SL
      clear SL kb
      by_cases hc1 : v = x.count
      rotate_left
      · have t1 : (x.count != v) = true := by simp; omega
        have t1b : (x.count == v) = false := by simp; omega
        have t1c : decide (x.count = v) = false := by simp; omega
        have HZ := Lib.hid (HBAD.out (by rw [HCEL.out]; simp [hc1]))
        clear hc1
        go_wp2_with fail
        refine wp_region_noPanic ?_
        refine wp_region_held_drew (S := (fun W => W.cell? ⟨wr.heap.size, 0, none⟩ = some (.int .i64 x.count) ∧ W.cell? ⟨wr.heap.size, 1, none⟩ = some (.int .i64 x.value.kind) ∧ W.cell? ⟨wr.heap.size, 2, none⟩ = some (.slice Ai ni ci) ∧ W.cell? ⟨wr.heap.size, 3, none⟩ = some (.slice Ap np cp) ∧ W.cell? ⟨wr.heap.size, 4, none⟩ = some (.slice An nn cn) ∧ W.cell? ⟨wr.heap.size, 5, none⟩ = some (.slice Ac nc cc) ∧ W.cell? ⟨wr.heap.size, 6, none⟩ = some (.slice Al nl cl) ∧ W.cell? ⟨wr.heap.size, 7, none⟩ = some (.int .i64 x.value.code) ∧ W.cell? ⟨wr.heap.size, 8, none⟩ = some (.int .i64 x.value.env) ∧ W.cell? ⟨wr.heap.size, 9, none⟩ = some (.slice Aq nq cq) ∧ W.cell? ⟨g, p, none⟩ = some (.int .i64 v))) (by kernel_rfl) S0 (fun hH => ?_)
        refine tk_yes (i := 0) (v := ?_) rfl rfl (by kernel_rfl) (by kernel_rfl) (by kernel_rfl) (fun _ _ _ _ h => h) (by kernel_rfl) ?_ (by assumption) ?_; rotate_left; (intro wq hSw; (try dsimp only at hSw); go_simp; (try with_reducible rfl)); (try simp only [List.setIfInBounds_toArray, List.set_cons_zero, List.set_cons_succ])
        refine tk_yes (i := 1) (v := ?_) rfl rfl (by kernel_rfl) (by kernel_rfl) (by kernel_rfl) (fun _ _ _ _ h => h) (by kernel_rfl) ?_ (by assumption) ?_; rotate_left; (intro wq hSw; (try dsimp only at hSw); go_simp; (try with_reducible rfl)); (try simp only [List.setIfInBounds_toArray, List.set_cons_zero, List.set_cons_succ])
        refine tk_yes (i := 2) (v := ?_) rfl rfl (by kernel_rfl) (by kernel_rfl) (by kernel_rfl) (fun _ _ _ _ h => h) (by kernel_rfl) ?_ (by assumption) ?_; rotate_left; (intro wq hSw; (try dsimp only at hSw); go_simp; (try with_reducible rfl)); (try simp only [List.setIfInBounds_toArray, List.set_cons_zero, List.set_cons_succ])
        refine tk_yes (i := 3) (v := ?_) rfl rfl (by kernel_rfl) (by kernel_rfl) (by kernel_rfl) (fun _ _ _ _ h => h) (by kernel_rfl) ?_ (by assumption) ?_; rotate_left; (intro wq hSw; (try dsimp only at hSw); go_simp; (try with_reducible rfl)); (try simp only [List.setIfInBounds_toArray, List.set_cons_zero, List.set_cons_succ])
        refine tk_yes (i := 4) (v := ?_) rfl rfl (by kernel_rfl) (by kernel_rfl) (by kernel_rfl) (fun _ _ _ _ h => h) (by kernel_rfl) ?_ (by assumption) ?_; rotate_left; (intro wq hSw; (try dsimp only at hSw); go_simp; (try with_reducible rfl)); (try simp only [List.setIfInBounds_toArray, List.set_cons_zero, List.set_cons_succ])
        refine tk_yes (i := 5) (v := ?_) rfl rfl (by kernel_rfl) (by kernel_rfl) (by kernel_rfl) (fun _ _ _ _ h => h) (by kernel_rfl) ?_ (by assumption) ?_; rotate_left; (intro wq hSw; (try dsimp only at hSw); go_simp; (try with_reducible rfl)); (try simp only [List.setIfInBounds_toArray, List.set_cons_zero, List.set_cons_succ])
        refine tk_yes (i := 6) (v := ?_) rfl rfl (by kernel_rfl) (by kernel_rfl) (by kernel_rfl) (fun _ _ _ _ h => h) (by kernel_rfl) ?_ (by assumption) ?_; rotate_left; (intro wq hSw; (try dsimp only at hSw); go_simp; (try with_reducible rfl)); (try simp only [List.setIfInBounds_toArray, List.set_cons_zero, List.set_cons_succ])
        refine tk_yes (i := 7) (v := ?_) rfl rfl (by kernel_rfl) (by kernel_rfl) (by kernel_rfl) (fun _ _ _ _ h => h) (by kernel_rfl) ?_ (by assumption) ?_; rotate_left; (intro wq hSw; (try dsimp only at hSw); go_simp; (try with_reducible rfl)); (try simp only [List.setIfInBounds_toArray, List.set_cons_zero, List.set_cons_succ])
        refine tk_no (i := 8) rfl rfl (by kernel_rfl) (by kernel_rfl) (by kernel_rfl) (fun _ _ _ _ h => h) (by kernel_rfl) (by assumption) ?_; (try simp only [List.setIfInBounds_toArray, List.set_cons_zero, List.set_cons_succ])
        refine tk_no (i := 9) rfl rfl (by kernel_rfl) (by kernel_rfl) (by kernel_rfl) (fun _ _ _ _ h => h) (by kernel_rfl) (by assumption) ?_; (try simp only [List.setIfInBounds_toArray, List.set_cons_zero, List.set_cons_succ])
        refine tk_no (i := 10) rfl rfl (by kernel_rfl) (by kernel_rfl) (by kernel_rfl) (fun _ _ _ _ h => h) (by kernel_rfl) (by assumption) ?_; (try simp only [List.setIfInBounds_toArray, List.set_cons_zero, List.set_cons_succ])
        refine tk_no (i := 11) rfl rfl (by kernel_rfl) (by kernel_rfl) (by kernel_rfl) (fun _ _ _ _ h => h) (by kernel_rfl) (by assumption) ?_; (try simp only [List.setIfInBounds_toArray, List.set_cons_zero, List.set_cons_succ])
        refine tk_no (i := 12) rfl rfl (by kernel_rfl) (by kernel_rfl) (by kernel_rfl) (fun _ _ _ _ h => h) (by kernel_rfl) (by assumption) ?_; (try simp only [List.setIfInBounds_toArray, List.set_cons_zero, List.set_cons_succ])
        refine tk_yes (i := 13) (v := ?_) rfl rfl (by kernel_rfl) (by kernel_rfl) (by kernel_rfl) (fun _ _ _ _ h => h) (by kernel_rfl) ?_ (by assumption) ?_; rotate_left; (intro wq hSw; (try dsimp only at hSw); go_simp; (try with_reducible rfl)); (try simp only [List.setIfInBounds_toArray, List.set_cons_zero, List.set_cons_succ])
        refine tk_yes (i := 14) (v := ?_) rfl rfl (by kernel_rfl) (by kernel_rfl) (by kernel_rfl) (fun _ _ _ _ h => h) (by kernel_rfl) ?_ (by assumption) ?_; rotate_left; (intro wq hSw; (try dsimp only at hSw); go_simp; (try with_reducible rfl)); (try simp only [List.setIfInBounds_toArray, List.set_cons_zero, List.set_cons_succ])
        refine tk_no (i := 15) rfl rfl (by kernel_rfl) (by kernel_rfl) (by kernel_rfl) (fun _ _ _ _ h => h) (by kernel_rfl) (by assumption) ?_; (try simp only [List.setIfInBounds_toArray, List.set_cons_zero, List.set_cons_succ])
        refine tk_no (i := 16) rfl rfl (by kernel_rfl) (by kernel_rfl) (by kernel_rfl) (fun _ _ _ _ h => h) (by kernel_rfl) (by assumption) ?_; (try simp only [List.setIfInBounds_toArray, List.set_cons_zero, List.set_cons_succ])
        refine tk_no (i := 17) rfl rfl (by kernel_rfl) (by kernel_rfl) (by kernel_rfl) (fun _ _ _ _ h => h) (by kernel_rfl) (by assumption) ?_; (try simp only [List.setIfInBounds_toArray, List.set_cons_zero, List.set_cons_succ])
        refine tk_no (i := 18) rfl rfl (by kernel_rfl) (by kernel_rfl) (by kernel_rfl) (fun _ _ _ _ h => h) (by kernel_rfl) (by assumption) ?_; (try simp only [List.setIfInBounds_toArray, List.set_cons_zero, List.set_cons_succ])
        refine tk_no (i := 19) rfl rfl (by kernel_rfl) (by kernel_rfl) (by kernel_rfl) (fun _ _ _ _ h => h) (by kernel_rfl) (by assumption) ?_; (try simp only [List.setIfInBounds_toArray, List.set_cons_zero, List.set_cons_succ])
        refine tk_no (i := 20) rfl rfl (by kernel_rfl) (by kernel_rfl) (by kernel_rfl) (fun _ _ _ _ h => h) (by kernel_rfl) (by assumption) ?_; (try simp only [List.setIfInBounds_toArray, List.set_cons_zero, List.set_cons_succ])
        refine tk_no (i := 21) rfl rfl (by kernel_rfl) (by kernel_rfl) (by kernel_rfl) (fun _ _ _ _ h => h) (by kernel_rfl) (by assumption) ?_; (try simp only [List.setIfInBounds_toArray, List.set_cons_zero, List.set_cons_succ])
        refine tk_no (i := 22) rfl rfl (by kernel_rfl) (by kernel_rfl) (by kernel_rfl) (fun _ _ _ _ h => h) (by kernel_rfl) (by assumption) ?_; (try simp only [List.setIfInBounds_toArray, List.set_cons_zero, List.set_cons_succ])
        refine tk_no (i := 23) rfl rfl (by kernel_rfl) (by kernel_rfl) (by kernel_rfl) (fun _ _ _ _ h => h) (by kernel_rfl) (by assumption) ?_; (try simp only [List.setIfInBounds_toArray, List.set_cons_zero, List.set_cons_succ])
        refine tk_no (i := 24) rfl rfl (by kernel_rfl) (by kernel_rfl) (by kernel_rfl) (fun _ _ _ _ h => h) (by kernel_rfl) (by assumption) ?_; (try simp only [List.setIfInBounds_toArray, List.set_cons_zero, List.set_cons_succ])
        refine tk_no (i := 25) rfl rfl (by kernel_rfl) (by kernel_rfl) (by kernel_rfl) (fun _ _ _ _ h => h) (by kernel_rfl) (by assumption) ?_; (try simp only [List.setIfInBounds_toArray, List.set_cons_zero, List.set_cons_succ])
        refine tk_no (i := 26) rfl rfl (by kernel_rfl) (by kernel_rfl) (by kernel_rfl) (fun _ _ _ _ h => h) (by kernel_rfl) (by assumption) ?_; (try simp only [List.setIfInBounds_toArray, List.set_cons_zero, List.set_cons_succ])
        refine tk_no (i := 27) rfl rfl (by kernel_rfl) (by kernel_rfl) (by kernel_rfl) (fun _ _ _ _ h => h) (by kernel_rfl) (by assumption) ?_; (try simp only [List.setIfInBounds_toArray, List.set_cons_zero, List.set_cons_succ])
        refine tk_no (i := 28) rfl rfl (by kernel_rfl) (by kernel_rfl) (by kernel_rfl) (fun _ _ _ _ h => h) (by kernel_rfl) (by assumption) ?_; (try simp only [List.setIfInBounds_toArray, List.set_cons_zero, List.set_cons_succ])
        refine tk_no (i := 29) rfl rfl (by kernel_rfl) (by kernel_rfl) (by kernel_rfl) (fun _ _ _ _ h => h) (by kernel_rfl) (by assumption) ?_; (try simp only [List.setIfInBounds_toArray, List.set_cons_zero, List.set_cons_succ])
        refine tk_yes (i := 30) (v := ?_) rfl rfl (by kernel_rfl) (by kernel_rfl) (by kernel_rfl) (fun _ _ _ _ h => h) (by kernel_rfl) ?_ (by assumption) ?_; rotate_left; (intro wq hSw; (try dsimp only at hSw); go_simp; (try with_reducible rfl)); (try simp only [List.setIfInBounds_toArray, List.set_cons_zero, List.set_cons_succ])
        refine wpAnyH_done (by kernel_rfl) ?_ _
        refine NoPanic.normal ?_
        go_wp2_with fail
        go_ret
        exact ⟨ret_bool HZ.out.symm, bb2.drew⟩
      subst hc1
      have t1 : (x.count != x.count) = false := by simp
      by_cases hc2 : np = 0
      rotate_left
      · have t2 : decide ((0 : Int) < (np : Int)) = true := by simp; omega
        have t2n : decide (0 < np) = true := by simp; omega
        have HZ := Lib.hid (HBAD.out (by rw [HCEL.out]; simp [hc2]))
        clear hc2
        go_wp2_with fail
        refine wp_region_noPanic ?_
        refine wp_region_held_drew (S := (fun W => W.cell? ⟨wr.heap.size, 0, none⟩ = some (.int .i64 x.count) ∧ W.cell? ⟨wr.heap.size, 1, none⟩ = some (.int .i64 x.value.kind) ∧ W.cell? ⟨wr.heap.size, 2, none⟩ = some (.slice Ai ni ci) ∧ W.cell? ⟨wr.heap.size, 3, none⟩ = some (.slice Ap np cp) ∧ W.cell? ⟨wr.heap.size, 4, none⟩ = some (.slice An nn cn) ∧ W.cell? ⟨wr.heap.size, 5, none⟩ = some (.slice Ac nc cc) ∧ W.cell? ⟨wr.heap.size, 6, none⟩ = some (.slice Al nl cl) ∧ W.cell? ⟨wr.heap.size, 7, none⟩ = some (.int .i64 x.value.code) ∧ W.cell? ⟨wr.heap.size, 8, none⟩ = some (.int .i64 x.value.env) ∧ W.cell? ⟨wr.heap.size, 9, none⟩ = some (.slice Aq nq cq) ∧ W.cell? ⟨g, p, none⟩ = some (.int .i64 x.count))) (by kernel_rfl) S0 (fun hH => ?_)
        refine tk_yes (i := 0) (v := ?_) rfl rfl (by kernel_rfl) (by kernel_rfl) (by kernel_rfl) (fun _ _ _ _ h => h) (by kernel_rfl) ?_ (by assumption) ?_; rotate_left; (intro wq hSw; (try dsimp only at hSw); go_simp; (try with_reducible rfl)); (try simp only [List.setIfInBounds_toArray, List.set_cons_zero, List.set_cons_succ])
        refine tk_yes (i := 1) (v := ?_) rfl rfl (by kernel_rfl) (by kernel_rfl) (by kernel_rfl) (fun _ _ _ _ h => h) (by kernel_rfl) ?_ (by assumption) ?_; rotate_left; (intro wq hSw; (try dsimp only at hSw); go_simp; (try with_reducible rfl)); (try simp only [List.setIfInBounds_toArray, List.set_cons_zero, List.set_cons_succ])
        refine tk_yes (i := 2) (v := ?_) rfl rfl (by kernel_rfl) (by kernel_rfl) (by kernel_rfl) (fun _ _ _ _ h => h) (by kernel_rfl) ?_ (by assumption) ?_; rotate_left; (intro wq hSw; (try dsimp only at hSw); go_simp; (try with_reducible rfl)); (try simp only [List.setIfInBounds_toArray, List.set_cons_zero, List.set_cons_succ])
        refine tk_yes (i := 3) (v := ?_) rfl rfl (by kernel_rfl) (by kernel_rfl) (by kernel_rfl) (fun _ _ _ _ h => h) (by kernel_rfl) ?_ (by assumption) ?_; rotate_left; (intro wq hSw; (try dsimp only at hSw); go_simp; (try with_reducible rfl)); (try simp only [List.setIfInBounds_toArray, List.set_cons_zero, List.set_cons_succ])
        refine tk_yes (i := 4) (v := ?_) rfl rfl (by kernel_rfl) (by kernel_rfl) (by kernel_rfl) (fun _ _ _ _ h => h) (by kernel_rfl) ?_ (by assumption) ?_; rotate_left; (intro wq hSw; (try dsimp only at hSw); go_simp; (try with_reducible rfl)); (try simp only [List.setIfInBounds_toArray, List.set_cons_zero, List.set_cons_succ])
        refine tk_yes (i := 5) (v := ?_) rfl rfl (by kernel_rfl) (by kernel_rfl) (by kernel_rfl) (fun _ _ _ _ h => h) (by kernel_rfl) ?_ (by assumption) ?_; rotate_left; (intro wq hSw; (try dsimp only at hSw); go_simp; (try with_reducible rfl)); (try simp only [List.setIfInBounds_toArray, List.set_cons_zero, List.set_cons_succ])
        refine tk_yes (i := 6) (v := ?_) rfl rfl (by kernel_rfl) (by kernel_rfl) (by kernel_rfl) (fun _ _ _ _ h => h) (by kernel_rfl) ?_ (by assumption) ?_; rotate_left; (intro wq hSw; (try dsimp only at hSw); go_simp; (try with_reducible rfl)); (try simp only [List.setIfInBounds_toArray, List.set_cons_zero, List.set_cons_succ])
        refine tk_yes (i := 7) (v := ?_) rfl rfl (by kernel_rfl) (by kernel_rfl) (by kernel_rfl) (fun _ _ _ _ h => h) (by kernel_rfl) ?_ (by assumption) ?_; rotate_left; (intro wq hSw; (try dsimp only at hSw); go_simp; (try with_reducible rfl)); (try simp only [List.setIfInBounds_toArray, List.set_cons_zero, List.set_cons_succ])
        refine tk_yes (i := 8) (v := ?_) rfl rfl (by kernel_rfl) (by kernel_rfl) (by kernel_rfl) (fun _ _ _ _ h => h) (by kernel_rfl) ?_ (by assumption) ?_; rotate_left; (intro wq hSw; (try dsimp only at hSw); go_simp; (try with_reducible rfl)); (try simp only [List.setIfInBounds_toArray, List.set_cons_zero, List.set_cons_succ])
        refine tk_yes (i := 9) (v := ?_) rfl rfl (by kernel_rfl) (by kernel_rfl) (by kernel_rfl) (fun _ _ _ _ h => h) (by kernel_rfl) ?_ (by assumption) ?_; rotate_left; (intro wq hSw; (try dsimp only at hSw); go_simp; (try with_reducible rfl)); (try simp only [List.setIfInBounds_toArray, List.set_cons_zero, List.set_cons_succ])
        refine tk_yes (i := 10) (v := ?_) rfl rfl (by kernel_rfl) (by kernel_rfl) (by kernel_rfl) (fun _ _ _ _ h => h) (by kernel_rfl) ?_ (by assumption) ?_; rotate_left; (intro wq hSw; (try dsimp only at hSw); go_simp; (try with_reducible rfl)); (try simp only [List.setIfInBounds_toArray, List.set_cons_zero, List.set_cons_succ])
        refine tk_yes (i := 11) (v := ?_) rfl rfl (by kernel_rfl) (by kernel_rfl) (by kernel_rfl) (fun _ _ _ _ h => h) (by kernel_rfl) ?_ (by assumption) ?_; rotate_left; (intro wq hSw; (try dsimp only at hSw); go_simp; (try with_reducible rfl)); (try simp only [List.setIfInBounds_toArray, List.set_cons_zero, List.set_cons_succ])
        refine tk_yes (i := 12) (v := ?_) rfl rfl (by kernel_rfl) (by kernel_rfl) (by kernel_rfl) (fun _ _ _ _ h => h) (by kernel_rfl) ?_ (by assumption) ?_; rotate_left; (intro wq hSw; (try dsimp only at hSw); go_simp; (try with_reducible rfl)); (try simp only [List.setIfInBounds_toArray, List.set_cons_zero, List.set_cons_succ])
        refine tk_yes (i := 13) (v := ?_) rfl rfl (by kernel_rfl) (by kernel_rfl) (by kernel_rfl) (fun _ _ _ _ h => h) (by kernel_rfl) ?_ (by assumption) ?_; rotate_left; (intro wq hSw; (try dsimp only at hSw); go_simp; (try with_reducible rfl)); (try simp only [List.setIfInBounds_toArray, List.set_cons_zero, List.set_cons_succ])
        refine tk_yes (i := 14) (v := ?_) rfl rfl (by kernel_rfl) (by kernel_rfl) (by kernel_rfl) (fun _ _ _ _ h => h) (by kernel_rfl) ?_ (by assumption) ?_; rotate_left; (intro wq hSw; (try dsimp only at hSw); go_simp; (try with_reducible rfl)); (try simp only [List.setIfInBounds_toArray, List.set_cons_zero, List.set_cons_succ])
        refine tk_no (i := 15) rfl rfl (by kernel_rfl) (by kernel_rfl) (by kernel_rfl) (fun _ _ _ _ h => h) (by kernel_rfl) (by assumption) ?_; (try simp only [List.setIfInBounds_toArray, List.set_cons_zero, List.set_cons_succ])
        refine tk_no (i := 16) rfl rfl (by kernel_rfl) (by kernel_rfl) (by kernel_rfl) (fun _ _ _ _ h => h) (by kernel_rfl) (by assumption) ?_; (try simp only [List.setIfInBounds_toArray, List.set_cons_zero, List.set_cons_succ])
        refine tk_no (i := 17) rfl rfl (by kernel_rfl) (by kernel_rfl) (by kernel_rfl) (fun _ _ _ _ h => h) (by kernel_rfl) (by assumption) ?_; (try simp only [List.setIfInBounds_toArray, List.set_cons_zero, List.set_cons_succ])
        refine tk_no (i := 18) rfl rfl (by kernel_rfl) (by kernel_rfl) (by kernel_rfl) (fun _ _ _ _ h => h) (by kernel_rfl) (by assumption) ?_; (try simp only [List.setIfInBounds_toArray, List.set_cons_zero, List.set_cons_succ])
        refine tk_no (i := 19) rfl rfl (by kernel_rfl) (by kernel_rfl) (by kernel_rfl) (fun _ _ _ _ h => h) (by kernel_rfl) (by assumption) ?_; (try simp only [List.setIfInBounds_toArray, List.set_cons_zero, List.set_cons_succ])
        refine tk_no (i := 20) rfl rfl (by kernel_rfl) (by kernel_rfl) (by kernel_rfl) (fun _ _ _ _ h => h) (by kernel_rfl) (by assumption) ?_; (try simp only [List.setIfInBounds_toArray, List.set_cons_zero, List.set_cons_succ])
        refine tk_no (i := 21) rfl rfl (by kernel_rfl) (by kernel_rfl) (by kernel_rfl) (fun _ _ _ _ h => h) (by kernel_rfl) (by assumption) ?_; (try simp only [List.setIfInBounds_toArray, List.set_cons_zero, List.set_cons_succ])
        refine tk_no (i := 22) rfl rfl (by kernel_rfl) (by kernel_rfl) (by kernel_rfl) (fun _ _ _ _ h => h) (by kernel_rfl) (by assumption) ?_; (try simp only [List.setIfInBounds_toArray, List.set_cons_zero, List.set_cons_succ])
        refine tk_no (i := 23) rfl rfl (by kernel_rfl) (by kernel_rfl) (by kernel_rfl) (fun _ _ _ _ h => h) (by kernel_rfl) (by assumption) ?_; (try simp only [List.setIfInBounds_toArray, List.set_cons_zero, List.set_cons_succ])
        refine tk_no (i := 24) rfl rfl (by kernel_rfl) (by kernel_rfl) (by kernel_rfl) (fun _ _ _ _ h => h) (by kernel_rfl) (by assumption) ?_; (try simp only [List.setIfInBounds_toArray, List.set_cons_zero, List.set_cons_succ])
        refine tk_no (i := 25) rfl rfl (by kernel_rfl) (by kernel_rfl) (by kernel_rfl) (fun _ _ _ _ h => h) (by kernel_rfl) (by assumption) ?_; (try simp only [List.setIfInBounds_toArray, List.set_cons_zero, List.set_cons_succ])
        refine tk_no (i := 26) rfl rfl (by kernel_rfl) (by kernel_rfl) (by kernel_rfl) (fun _ _ _ _ h => h) (by kernel_rfl) (by assumption) ?_; (try simp only [List.setIfInBounds_toArray, List.set_cons_zero, List.set_cons_succ])
        refine tk_no (i := 27) rfl rfl (by kernel_rfl) (by kernel_rfl) (by kernel_rfl) (fun _ _ _ _ h => h) (by kernel_rfl) (by assumption) ?_; (try simp only [List.setIfInBounds_toArray, List.set_cons_zero, List.set_cons_succ])
        refine tk_no (i := 28) rfl rfl (by kernel_rfl) (by kernel_rfl) (by kernel_rfl) (fun _ _ _ _ h => h) (by kernel_rfl) (by assumption) ?_; (try simp only [List.setIfInBounds_toArray, List.set_cons_zero, List.set_cons_succ])
        refine tk_no (i := 29) rfl rfl (by kernel_rfl) (by kernel_rfl) (by kernel_rfl) (fun _ _ _ _ h => h) (by kernel_rfl) (by assumption) ?_; (try simp only [List.setIfInBounds_toArray, List.set_cons_zero, List.set_cons_succ])
        refine tk_yes (i := 30) (v := ?_) rfl rfl (by kernel_rfl) (by kernel_rfl) (by kernel_rfl) (fun _ _ _ _ h => h) (by kernel_rfl) ?_ (by assumption) ?_; rotate_left; (intro wq hSw; (try dsimp only at hSw); go_simp; (try with_reducible rfl)); (try simp only [List.setIfInBounds_toArray, List.set_cons_zero, List.set_cons_succ])
        refine wpAnyH_done (by kernel_rfl) ?_ _
        refine NoPanic.normal ?_
        go_wp2_with fail
        go_ret
        exact ⟨ret_bool HZ.out.symm, bb2.drew⟩
      have t2 : decide ((0 : Int) < (np : Int)) = false := by simp; omega
      have t2n : decide (0 < np) = false := by simp; omega
      have HC2 := Lib.hid hc2
      clear hc2
      by_cases hc3 : x.count = 0
      rotate_left
      · have t3 : (x.count == 0) = false := by simpa using hc3
        have HY := Lib.hid (show celOK (cnts n (refs h)) p x = true by rw [HCEL.out]; simp [hc3, HC2.out])
        clear hc3
        go_wp2_with fail
        refine wp_region_noPanic ?_
        refine wp_region_held_drew (S := (fun W => W.cell? ⟨wr.heap.size, 0, none⟩ = some (.int .i64 x.count) ∧ W.cell? ⟨wr.heap.size, 1, none⟩ = some (.int .i64 x.value.kind) ∧ W.cell? ⟨wr.heap.size, 2, none⟩ = some (.slice Ai ni ci) ∧ W.cell? ⟨wr.heap.size, 3, none⟩ = some (.slice Ap np cp) ∧ W.cell? ⟨wr.heap.size, 4, none⟩ = some (.slice An nn cn) ∧ W.cell? ⟨wr.heap.size, 5, none⟩ = some (.slice Ac nc cc) ∧ W.cell? ⟨wr.heap.size, 6, none⟩ = some (.slice Al nl cl) ∧ W.cell? ⟨wr.heap.size, 7, none⟩ = some (.int .i64 x.value.code) ∧ W.cell? ⟨wr.heap.size, 8, none⟩ = some (.int .i64 x.value.env) ∧ W.cell? ⟨wr.heap.size, 9, none⟩ = some (.slice Aq nq cq) ∧ W.cell? ⟨g, p, none⟩ = some (.int .i64 x.count))) (by kernel_rfl) S0 (fun hH => ?_)
        refine tk_yes (i := 0) (v := ?_) rfl rfl (by kernel_rfl) (by kernel_rfl) (by kernel_rfl) (fun _ _ _ _ h => h) (by kernel_rfl) ?_ (by assumption) ?_; rotate_left; (intro wq hSw; (try dsimp only at hSw); go_simp; (try with_reducible rfl)); (try simp only [List.setIfInBounds_toArray, List.set_cons_zero, List.set_cons_succ])
        refine tk_yes (i := 1) (v := ?_) rfl rfl (by kernel_rfl) (by kernel_rfl) (by kernel_rfl) (fun _ _ _ _ h => h) (by kernel_rfl) ?_ (by assumption) ?_; rotate_left; (intro wq hSw; (try dsimp only at hSw); go_simp; (try with_reducible rfl)); (try simp only [List.setIfInBounds_toArray, List.set_cons_zero, List.set_cons_succ])
        refine tk_yes (i := 2) (v := ?_) rfl rfl (by kernel_rfl) (by kernel_rfl) (by kernel_rfl) (fun _ _ _ _ h => h) (by kernel_rfl) ?_ (by assumption) ?_; rotate_left; (intro wq hSw; (try dsimp only at hSw); go_simp; (try with_reducible rfl)); (try simp only [List.setIfInBounds_toArray, List.set_cons_zero, List.set_cons_succ])
        refine tk_yes (i := 3) (v := ?_) rfl rfl (by kernel_rfl) (by kernel_rfl) (by kernel_rfl) (fun _ _ _ _ h => h) (by kernel_rfl) ?_ (by assumption) ?_; rotate_left; (intro wq hSw; (try dsimp only at hSw); go_simp; (try with_reducible rfl)); (try simp only [List.setIfInBounds_toArray, List.set_cons_zero, List.set_cons_succ])
        refine tk_yes (i := 4) (v := ?_) rfl rfl (by kernel_rfl) (by kernel_rfl) (by kernel_rfl) (fun _ _ _ _ h => h) (by kernel_rfl) ?_ (by assumption) ?_; rotate_left; (intro wq hSw; (try dsimp only at hSw); go_simp; (try with_reducible rfl)); (try simp only [List.setIfInBounds_toArray, List.set_cons_zero, List.set_cons_succ])
        refine tk_yes (i := 5) (v := ?_) rfl rfl (by kernel_rfl) (by kernel_rfl) (by kernel_rfl) (fun _ _ _ _ h => h) (by kernel_rfl) ?_ (by assumption) ?_; rotate_left; (intro wq hSw; (try dsimp only at hSw); go_simp; (try with_reducible rfl)); (try simp only [List.setIfInBounds_toArray, List.set_cons_zero, List.set_cons_succ])
        refine tk_yes (i := 6) (v := ?_) rfl rfl (by kernel_rfl) (by kernel_rfl) (by kernel_rfl) (fun _ _ _ _ h => h) (by kernel_rfl) ?_ (by assumption) ?_; rotate_left; (intro wq hSw; (try dsimp only at hSw); go_simp; (try with_reducible rfl)); (try simp only [List.setIfInBounds_toArray, List.set_cons_zero, List.set_cons_succ])
        refine tk_yes (i := 7) (v := ?_) rfl rfl (by kernel_rfl) (by kernel_rfl) (by kernel_rfl) (fun _ _ _ _ h => h) (by kernel_rfl) ?_ (by assumption) ?_; rotate_left; (intro wq hSw; (try dsimp only at hSw); go_simp; (try with_reducible rfl)); (try simp only [List.setIfInBounds_toArray, List.set_cons_zero, List.set_cons_succ])
        refine tk_yes (i := 8) (v := ?_) rfl rfl (by kernel_rfl) (by kernel_rfl) (by kernel_rfl) (fun _ _ _ _ h => h) (by kernel_rfl) ?_ (by assumption) ?_; rotate_left; (intro wq hSw; (try dsimp only at hSw); go_simp; (try with_reducible rfl)); (try simp only [List.setIfInBounds_toArray, List.set_cons_zero, List.set_cons_succ])
        refine tk_yes (i := 9) (v := ?_) rfl rfl (by kernel_rfl) (by kernel_rfl) (by kernel_rfl) (fun _ _ _ _ h => h) (by kernel_rfl) ?_ (by assumption) ?_; rotate_left; (intro wq hSw; (try dsimp only at hSw); go_simp; (try with_reducible rfl)); (try simp only [List.setIfInBounds_toArray, List.set_cons_zero, List.set_cons_succ])
        refine tk_yes (i := 10) (v := ?_) rfl rfl (by kernel_rfl) (by kernel_rfl) (by kernel_rfl) (fun _ _ _ _ h => h) (by kernel_rfl) ?_ (by assumption) ?_; rotate_left; (intro wq hSw; (try dsimp only at hSw); go_simp; (try with_reducible rfl)); (try simp only [List.setIfInBounds_toArray, List.set_cons_zero, List.set_cons_succ])
        refine tk_yes (i := 11) (v := ?_) rfl rfl (by kernel_rfl) (by kernel_rfl) (by kernel_rfl) (fun _ _ _ _ h => h) (by kernel_rfl) ?_ (by assumption) ?_; rotate_left; (intro wq hSw; (try dsimp only at hSw); go_simp; (try with_reducible rfl)); (try simp only [List.setIfInBounds_toArray, List.set_cons_zero, List.set_cons_succ])
        refine tk_yes (i := 12) (v := ?_) rfl rfl (by kernel_rfl) (by kernel_rfl) (by kernel_rfl) (fun _ _ _ _ h => h) (by kernel_rfl) ?_ (by assumption) ?_; rotate_left; (intro wq hSw; (try dsimp only at hSw); go_simp; (try with_reducible rfl)); (try simp only [List.setIfInBounds_toArray, List.set_cons_zero, List.set_cons_succ])
        refine tk_yes (i := 13) (v := ?_) rfl rfl (by kernel_rfl) (by kernel_rfl) (by kernel_rfl) (fun _ _ _ _ h => h) (by kernel_rfl) ?_ (by assumption) ?_; rotate_left; (intro wq hSw; (try dsimp only at hSw); go_simp; (try with_reducible rfl)); (try simp only [List.setIfInBounds_toArray, List.set_cons_zero, List.set_cons_succ])
        refine tk_yes (i := 14) (v := ?_) rfl rfl (by kernel_rfl) (by kernel_rfl) (by kernel_rfl) (fun _ _ _ _ h => h) (by kernel_rfl) ?_ (by assumption) ?_; rotate_left; (intro wq hSw; (try dsimp only at hSw); go_simp; (try with_reducible rfl)); (try simp only [List.setIfInBounds_toArray, List.set_cons_zero, List.set_cons_succ])
        refine tk_yes (i := 15) (v := ?_) rfl rfl (by kernel_rfl) (by kernel_rfl) (by kernel_rfl) (fun _ _ _ _ h => h) (by kernel_rfl) ?_ (by assumption) ?_; rotate_left; (intro wq hSw; (try dsimp only at hSw); go_simp; (try with_reducible rfl)); (try simp only [List.setIfInBounds_toArray, List.set_cons_zero, List.set_cons_succ])
        refine tk_yes (i := 16) (v := ?_) rfl rfl (by kernel_rfl) (by kernel_rfl) (by kernel_rfl) (fun _ _ _ _ h => h) (by kernel_rfl) ?_ (by assumption) ?_; rotate_left; (intro wq hSw; (try dsimp only at hSw); go_simp; (try with_reducible rfl)); (try simp only [List.setIfInBounds_toArray, List.set_cons_zero, List.set_cons_succ])
        refine tk_yes (i := 17) (v := ?_) rfl rfl (by kernel_rfl) (by kernel_rfl) (by kernel_rfl) (fun _ _ _ _ h => h) (by kernel_rfl) ?_ (by assumption) ?_; rotate_left; (intro wq hSw; (try dsimp only at hSw); go_simp; (try with_reducible rfl)); (try simp only [List.setIfInBounds_toArray, List.set_cons_zero, List.set_cons_succ])
        refine tk_yes (i := 18) (v := ?_) rfl rfl (by kernel_rfl) (by kernel_rfl) (by kernel_rfl) (fun _ _ _ _ h => h) (by kernel_rfl) ?_ (by assumption) ?_; rotate_left; (intro wq hSw; (try dsimp only at hSw); go_simp; (try with_reducible rfl)); (try simp only [List.setIfInBounds_toArray, List.set_cons_zero, List.set_cons_succ])
        refine tk_no (i := 19) rfl rfl (by kernel_rfl) (by kernel_rfl) (by kernel_rfl) (fun _ _ _ _ h => h) (by kernel_rfl) (by assumption) ?_; (try simp only [List.setIfInBounds_toArray, List.set_cons_zero, List.set_cons_succ])
        refine tk_no (i := 20) rfl rfl (by kernel_rfl) (by kernel_rfl) (by kernel_rfl) (fun _ _ _ _ h => h) (by kernel_rfl) (by assumption) ?_; (try simp only [List.setIfInBounds_toArray, List.set_cons_zero, List.set_cons_succ])
        refine tk_no (i := 21) rfl rfl (by kernel_rfl) (by kernel_rfl) (by kernel_rfl) (fun _ _ _ _ h => h) (by kernel_rfl) (by assumption) ?_; (try simp only [List.setIfInBounds_toArray, List.set_cons_zero, List.set_cons_succ])
        refine tk_no (i := 22) rfl rfl (by kernel_rfl) (by kernel_rfl) (by kernel_rfl) (fun _ _ _ _ h => h) (by kernel_rfl) (by assumption) ?_; (try simp only [List.setIfInBounds_toArray, List.set_cons_zero, List.set_cons_succ])
        refine tk_no (i := 23) rfl rfl (by kernel_rfl) (by kernel_rfl) (by kernel_rfl) (fun _ _ _ _ h => h) (by kernel_rfl) (by assumption) ?_; (try simp only [List.setIfInBounds_toArray, List.set_cons_zero, List.set_cons_succ])
        refine tk_no (i := 24) rfl rfl (by kernel_rfl) (by kernel_rfl) (by kernel_rfl) (fun _ _ _ _ h => h) (by kernel_rfl) (by assumption) ?_; (try simp only [List.setIfInBounds_toArray, List.set_cons_zero, List.set_cons_succ])
        refine tk_no (i := 25) rfl rfl (by kernel_rfl) (by kernel_rfl) (by kernel_rfl) (fun _ _ _ _ h => h) (by kernel_rfl) (by assumption) ?_; (try simp only [List.setIfInBounds_toArray, List.set_cons_zero, List.set_cons_succ])
        refine tk_no (i := 26) rfl rfl (by kernel_rfl) (by kernel_rfl) (by kernel_rfl) (fun _ _ _ _ h => h) (by kernel_rfl) (by assumption) ?_; (try simp only [List.setIfInBounds_toArray, List.set_cons_zero, List.set_cons_succ])
        refine tk_no (i := 27) rfl rfl (by kernel_rfl) (by kernel_rfl) (by kernel_rfl) (fun _ _ _ _ h => h) (by kernel_rfl) (by assumption) ?_; (try simp only [List.setIfInBounds_toArray, List.set_cons_zero, List.set_cons_succ])
        refine tk_no (i := 28) rfl rfl (by kernel_rfl) (by kernel_rfl) (by kernel_rfl) (fun _ _ _ _ h => h) (by kernel_rfl) (by assumption) ?_; (try simp only [List.setIfInBounds_toArray, List.set_cons_zero, List.set_cons_succ])
        refine tk_yes (i := 29) (v := ?_) rfl rfl (by kernel_rfl) (by kernel_rfl) (by kernel_rfl) (fun _ _ _ _ h => h) (by kernel_rfl) ?_ (by assumption) ?_; rotate_left; (intro wq hSw; (try dsimp only at hSw); go_simp; (try with_reducible rfl)); (try simp only [List.setIfInBounds_toArray, List.set_cons_zero, List.set_cons_succ])
        refine tk_yes (i := 30) (v := ?_) rfl rfl (by kernel_rfl) (by kernel_rfl) (by kernel_rfl) (fun _ _ _ _ h => h) (by kernel_rfl) ?_ (by assumption) ?_; rotate_left; (intro wq hSw; (try dsimp only at hSw); go_simp; (try with_reducible rfl)); (try simp only [List.setIfInBounds_toArray, List.set_cons_zero, List.set_cons_succ])
        refine wpAnyH_done (by kernel_rfl) ?_ _
        refine NoPanic.normal ?_
        go_wp2_with fail
        go_roundw
        case rel => exact ⟨p + 1, by omega, by go_num, ok_snoc HOK.out HX.out HY.out, oC.al.dw, kh.al.dw, bb2.drew⟩
        case measure => simp [intOf]; omega
      have t3 : (x.count == 0) = true := by simpa using hc3
      have HC3 := Lib.hid hc3
      clear hc3
      by_cases hc4 : nq = 0
      rotate_left
      · have t4 : decide ((0 : Int) < (nq : Int)) = true := by simp; omega
        have t4n : decide (0 < nq) = true := by simp; omega
        have HZ := Lib.hid (HBAD.out (by rw [HCEL.out]; simp [hc4, HC3.out]))
        clear hc4
        go_wp2_with fail
        refine wp_region_noPanic ?_
        refine wp_region_held_drew (S := (fun W => W.cell? ⟨wr.heap.size, 0, none⟩ = some (.int .i64 x.count) ∧ W.cell? ⟨wr.heap.size, 1, none⟩ = some (.int .i64 x.value.kind) ∧ W.cell? ⟨wr.heap.size, 2, none⟩ = some (.slice Ai ni ci) ∧ W.cell? ⟨wr.heap.size, 3, none⟩ = some (.slice Ap np cp) ∧ W.cell? ⟨wr.heap.size, 4, none⟩ = some (.slice An nn cn) ∧ W.cell? ⟨wr.heap.size, 5, none⟩ = some (.slice Ac nc cc) ∧ W.cell? ⟨wr.heap.size, 6, none⟩ = some (.slice Al nl cl) ∧ W.cell? ⟨wr.heap.size, 7, none⟩ = some (.int .i64 x.value.code) ∧ W.cell? ⟨wr.heap.size, 8, none⟩ = some (.int .i64 x.value.env) ∧ W.cell? ⟨wr.heap.size, 9, none⟩ = some (.slice Aq nq cq) ∧ W.cell? ⟨g, p, none⟩ = some (.int .i64 x.count))) (by kernel_rfl) S0 (fun hH => ?_)
        refine tk_yes (i := 0) (v := ?_) rfl rfl (by kernel_rfl) (by kernel_rfl) (by kernel_rfl) (fun _ _ _ _ h => h) (by kernel_rfl) ?_ (by assumption) ?_; rotate_left; (intro wq hSw; (try dsimp only at hSw); go_simp; (try with_reducible rfl)); (try simp only [List.setIfInBounds_toArray, List.set_cons_zero, List.set_cons_succ])
        refine tk_yes (i := 1) (v := ?_) rfl rfl (by kernel_rfl) (by kernel_rfl) (by kernel_rfl) (fun _ _ _ _ h => h) (by kernel_rfl) ?_ (by assumption) ?_; rotate_left; (intro wq hSw; (try dsimp only at hSw); go_simp; (try with_reducible rfl)); (try simp only [List.setIfInBounds_toArray, List.set_cons_zero, List.set_cons_succ])
        refine tk_yes (i := 2) (v := ?_) rfl rfl (by kernel_rfl) (by kernel_rfl) (by kernel_rfl) (fun _ _ _ _ h => h) (by kernel_rfl) ?_ (by assumption) ?_; rotate_left; (intro wq hSw; (try dsimp only at hSw); go_simp; (try with_reducible rfl)); (try simp only [List.setIfInBounds_toArray, List.set_cons_zero, List.set_cons_succ])
        refine tk_yes (i := 3) (v := ?_) rfl rfl (by kernel_rfl) (by kernel_rfl) (by kernel_rfl) (fun _ _ _ _ h => h) (by kernel_rfl) ?_ (by assumption) ?_; rotate_left; (intro wq hSw; (try dsimp only at hSw); go_simp; (try with_reducible rfl)); (try simp only [List.setIfInBounds_toArray, List.set_cons_zero, List.set_cons_succ])
        refine tk_yes (i := 4) (v := ?_) rfl rfl (by kernel_rfl) (by kernel_rfl) (by kernel_rfl) (fun _ _ _ _ h => h) (by kernel_rfl) ?_ (by assumption) ?_; rotate_left; (intro wq hSw; (try dsimp only at hSw); go_simp; (try with_reducible rfl)); (try simp only [List.setIfInBounds_toArray, List.set_cons_zero, List.set_cons_succ])
        refine tk_yes (i := 5) (v := ?_) rfl rfl (by kernel_rfl) (by kernel_rfl) (by kernel_rfl) (fun _ _ _ _ h => h) (by kernel_rfl) ?_ (by assumption) ?_; rotate_left; (intro wq hSw; (try dsimp only at hSw); go_simp; (try with_reducible rfl)); (try simp only [List.setIfInBounds_toArray, List.set_cons_zero, List.set_cons_succ])
        refine tk_yes (i := 6) (v := ?_) rfl rfl (by kernel_rfl) (by kernel_rfl) (by kernel_rfl) (fun _ _ _ _ h => h) (by kernel_rfl) ?_ (by assumption) ?_; rotate_left; (intro wq hSw; (try dsimp only at hSw); go_simp; (try with_reducible rfl)); (try simp only [List.setIfInBounds_toArray, List.set_cons_zero, List.set_cons_succ])
        refine tk_yes (i := 7) (v := ?_) rfl rfl (by kernel_rfl) (by kernel_rfl) (by kernel_rfl) (fun _ _ _ _ h => h) (by kernel_rfl) ?_ (by assumption) ?_; rotate_left; (intro wq hSw; (try dsimp only at hSw); go_simp; (try with_reducible rfl)); (try simp only [List.setIfInBounds_toArray, List.set_cons_zero, List.set_cons_succ])
        refine tk_yes (i := 8) (v := ?_) rfl rfl (by kernel_rfl) (by kernel_rfl) (by kernel_rfl) (fun _ _ _ _ h => h) (by kernel_rfl) ?_ (by assumption) ?_; rotate_left; (intro wq hSw; (try dsimp only at hSw); go_simp; (try with_reducible rfl)); (try simp only [List.setIfInBounds_toArray, List.set_cons_zero, List.set_cons_succ])
        refine tk_yes (i := 9) (v := ?_) rfl rfl (by kernel_rfl) (by kernel_rfl) (by kernel_rfl) (fun _ _ _ _ h => h) (by kernel_rfl) ?_ (by assumption) ?_; rotate_left; (intro wq hSw; (try dsimp only at hSw); go_simp; (try with_reducible rfl)); (try simp only [List.setIfInBounds_toArray, List.set_cons_zero, List.set_cons_succ])
        refine tk_yes (i := 10) (v := ?_) rfl rfl (by kernel_rfl) (by kernel_rfl) (by kernel_rfl) (fun _ _ _ _ h => h) (by kernel_rfl) ?_ (by assumption) ?_; rotate_left; (intro wq hSw; (try dsimp only at hSw); go_simp; (try with_reducible rfl)); (try simp only [List.setIfInBounds_toArray, List.set_cons_zero, List.set_cons_succ])
        refine tk_yes (i := 11) (v := ?_) rfl rfl (by kernel_rfl) (by kernel_rfl) (by kernel_rfl) (fun _ _ _ _ h => h) (by kernel_rfl) ?_ (by assumption) ?_; rotate_left; (intro wq hSw; (try dsimp only at hSw); go_simp; (try with_reducible rfl)); (try simp only [List.setIfInBounds_toArray, List.set_cons_zero, List.set_cons_succ])
        refine tk_yes (i := 12) (v := ?_) rfl rfl (by kernel_rfl) (by kernel_rfl) (by kernel_rfl) (fun _ _ _ _ h => h) (by kernel_rfl) ?_ (by assumption) ?_; rotate_left; (intro wq hSw; (try dsimp only at hSw); go_simp; (try with_reducible rfl)); (try simp only [List.setIfInBounds_toArray, List.set_cons_zero, List.set_cons_succ])
        refine tk_yes (i := 13) (v := ?_) rfl rfl (by kernel_rfl) (by kernel_rfl) (by kernel_rfl) (fun _ _ _ _ h => h) (by kernel_rfl) ?_ (by assumption) ?_; rotate_left; (intro wq hSw; (try dsimp only at hSw); go_simp; (try with_reducible rfl)); (try simp only [List.setIfInBounds_toArray, List.set_cons_zero, List.set_cons_succ])
        refine tk_yes (i := 14) (v := ?_) rfl rfl (by kernel_rfl) (by kernel_rfl) (by kernel_rfl) (fun _ _ _ _ h => h) (by kernel_rfl) ?_ (by assumption) ?_; rotate_left; (intro wq hSw; (try dsimp only at hSw); go_simp; (try with_reducible rfl)); (try simp only [List.setIfInBounds_toArray, List.set_cons_zero, List.set_cons_succ])
        refine tk_yes (i := 15) (v := ?_) rfl rfl (by kernel_rfl) (by kernel_rfl) (by kernel_rfl) (fun _ _ _ _ h => h) (by kernel_rfl) ?_ (by assumption) ?_; rotate_left; (intro wq hSw; (try dsimp only at hSw); go_simp; (try with_reducible rfl)); (try simp only [List.setIfInBounds_toArray, List.set_cons_zero, List.set_cons_succ])
        refine tk_yes (i := 16) (v := ?_) rfl rfl (by kernel_rfl) (by kernel_rfl) (by kernel_rfl) (fun _ _ _ _ h => h) (by kernel_rfl) ?_ (by assumption) ?_; rotate_left; (intro wq hSw; (try dsimp only at hSw); go_simp; (try with_reducible rfl)); (try simp only [List.setIfInBounds_toArray, List.set_cons_zero, List.set_cons_succ])
        refine tk_yes (i := 17) (v := ?_) rfl rfl (by kernel_rfl) (by kernel_rfl) (by kernel_rfl) (fun _ _ _ _ h => h) (by kernel_rfl) ?_ (by assumption) ?_; rotate_left; (intro wq hSw; (try dsimp only at hSw); go_simp; (try with_reducible rfl)); (try simp only [List.setIfInBounds_toArray, List.set_cons_zero, List.set_cons_succ])
        refine tk_yes (i := 18) (v := ?_) rfl rfl (by kernel_rfl) (by kernel_rfl) (by kernel_rfl) (fun _ _ _ _ h => h) (by kernel_rfl) ?_ (by assumption) ?_; rotate_left; (intro wq hSw; (try dsimp only at hSw); go_simp; (try with_reducible rfl)); (try simp only [List.setIfInBounds_toArray, List.set_cons_zero, List.set_cons_succ])
        refine tk_yes (i := 19) (v := ?_) rfl rfl (by kernel_rfl) (by kernel_rfl) (by kernel_rfl) (fun _ _ _ _ h => h) (by kernel_rfl) ?_ (by assumption) ?_; rotate_left; (intro wq hSw; (try dsimp only at hSw); go_simp; (try with_reducible rfl)); (try simp only [List.setIfInBounds_toArray, List.set_cons_zero, List.set_cons_succ])
        refine tk_yes (i := 20) (v := ?_) rfl rfl (by kernel_rfl) (by kernel_rfl) (by kernel_rfl) (fun _ _ _ _ h => h) (by kernel_rfl) ?_ (by assumption) ?_; rotate_left; (intro wq hSw; (try dsimp only at hSw); go_simp; (try with_reducible rfl)); (try simp only [List.setIfInBounds_toArray, List.set_cons_zero, List.set_cons_succ])
        refine tk_yes (i := 21) (v := ?_) rfl rfl (by kernel_rfl) (by kernel_rfl) (by kernel_rfl) (fun _ _ _ _ h => h) (by kernel_rfl) ?_ (by assumption) ?_; rotate_left; (intro wq hSw; (try dsimp only at hSw); go_simp; (try with_reducible rfl)); (try simp only [List.setIfInBounds_toArray, List.set_cons_zero, List.set_cons_succ])
        refine tk_yes (i := 22) (v := ?_) rfl rfl (by kernel_rfl) (by kernel_rfl) (by kernel_rfl) (fun _ _ _ _ h => h) (by kernel_rfl) ?_ (by assumption) ?_; rotate_left; (intro wq hSw; (try dsimp only at hSw); go_simp; (try with_reducible rfl)); (try simp only [List.setIfInBounds_toArray, List.set_cons_zero, List.set_cons_succ])
        refine tk_yes (i := 23) (v := ?_) rfl rfl (by kernel_rfl) (by kernel_rfl) (by kernel_rfl) (fun _ _ _ _ h => h) (by kernel_rfl) ?_ (by assumption) ?_; rotate_left; (intro wq hSw; (try dsimp only at hSw); go_simp; (try with_reducible rfl)); (try simp only [List.setIfInBounds_toArray, List.set_cons_zero, List.set_cons_succ])
        refine tk_no (i := 24) rfl rfl (by kernel_rfl) (by kernel_rfl) (by kernel_rfl) (fun _ _ _ _ h => h) (by kernel_rfl) (by assumption) ?_; (try simp only [List.setIfInBounds_toArray, List.set_cons_zero, List.set_cons_succ])
        refine tk_no (i := 25) rfl rfl (by kernel_rfl) (by kernel_rfl) (by kernel_rfl) (fun _ _ _ _ h => h) (by kernel_rfl) (by assumption) ?_; (try simp only [List.setIfInBounds_toArray, List.set_cons_zero, List.set_cons_succ])
        refine tk_no (i := 26) rfl rfl (by kernel_rfl) (by kernel_rfl) (by kernel_rfl) (fun _ _ _ _ h => h) (by kernel_rfl) (by assumption) ?_; (try simp only [List.setIfInBounds_toArray, List.set_cons_zero, List.set_cons_succ])
        refine tk_no (i := 27) rfl rfl (by kernel_rfl) (by kernel_rfl) (by kernel_rfl) (fun _ _ _ _ h => h) (by kernel_rfl) (by assumption) ?_; (try simp only [List.setIfInBounds_toArray, List.set_cons_zero, List.set_cons_succ])
        refine tk_yes (i := 28) (v := ?_) rfl rfl (by kernel_rfl) (by kernel_rfl) (by kernel_rfl) (fun _ _ _ _ h => h) (by kernel_rfl) ?_ (by assumption) ?_; rotate_left; (intro wq hSw; (try dsimp only at hSw); go_simp; (try with_reducible rfl)); (try simp only [List.setIfInBounds_toArray, List.set_cons_zero, List.set_cons_succ])
        refine tk_yes (i := 29) (v := ?_) rfl rfl (by kernel_rfl) (by kernel_rfl) (by kernel_rfl) (fun _ _ _ _ h => h) (by kernel_rfl) ?_ (by assumption) ?_; rotate_left; (intro wq hSw; (try dsimp only at hSw); go_simp; (try with_reducible rfl)); (try simp only [List.setIfInBounds_toArray, List.set_cons_zero, List.set_cons_succ])
        refine tk_yes (i := 30) (v := ?_) rfl rfl (by kernel_rfl) (by kernel_rfl) (by kernel_rfl) (fun _ _ _ _ h => h) (by kernel_rfl) ?_ (by assumption) ?_; rotate_left; (intro wq hSw; (try dsimp only at hSw); go_simp; (try with_reducible rfl)); (try simp only [List.setIfInBounds_toArray, List.set_cons_zero, List.set_cons_succ])
        refine wpAnyH_done (by kernel_rfl) ?_ _
        refine NoPanic.normal ?_
        go_wp2_with fail
        go_ret
        exact ⟨ret_bool HZ.out.symm, bb2.drew⟩
      have t4 : decide ((0 : Int) < (nq : Int)) = false := by simp; omega
      have t4n : decide (0 < nq) = false := by simp; omega
      have HC4 := Lib.hid hc4
      clear hc4
      have rv2 := rep_dw (rep_al (w := wr) (o := .cells #[.int .i64 x.count, .int .i64 x.value.kind, .slice Ai ni ci, .slice Ap np cp, .slice An nn cn, .slice Ac nc cc, .slice Al nl cl, .int .i64 x.value.code, .int .i64 x.value.env, .slice Aq nq cq] 71) (rep_more rv z0))
      go_wp2_with fail
      refine wp_region_noPanic ?_
      refine wp_region_held_drew (S := (fun W => W.cell? ⟨wr.heap.size, 0, none⟩ = some (.int .i64 x.count) ∧ W.cell? ⟨wr.heap.size, 1, none⟩ = some (.int .i64 x.value.kind) ∧ W.cell? ⟨wr.heap.size, 2, none⟩ = some (.slice Ai ni ci) ∧ W.cell? ⟨wr.heap.size, 3, none⟩ = some (.slice Ap np cp) ∧ W.cell? ⟨wr.heap.size, 4, none⟩ = some (.slice An nn cn) ∧ W.cell? ⟨wr.heap.size, 5, none⟩ = some (.slice Ac nc cc) ∧ W.cell? ⟨wr.heap.size, 6, none⟩ = some (.slice Al nl cl) ∧ W.cell? ⟨wr.heap.size, 7, none⟩ = some (.int .i64 x.value.code) ∧ W.cell? ⟨wr.heap.size, 8, none⟩ = some (.int .i64 x.value.env) ∧ W.cell? ⟨wr.heap.size, 9, none⟩ = some (.slice Aq nq cq) ∧ W.cell? ⟨g, p, none⟩ = some (.int .i64 x.count))) (by kernel_rfl) S0 (fun hH => ?_)
      refine tk_yes (i := 0) (v := ?_) rfl rfl (by kernel_rfl) (by kernel_rfl) (by kernel_rfl) (fun _ _ _ _ h => h) (by kernel_rfl) ?_ (by assumption) ?_; rotate_left; (intro wq hSw; (try dsimp only at hSw); go_simp; (try with_reducible rfl)); (try simp only [List.setIfInBounds_toArray, List.set_cons_zero, List.set_cons_succ])
      refine tk_yes (i := 1) (v := ?_) rfl rfl (by kernel_rfl) (by kernel_rfl) (by kernel_rfl) (fun _ _ _ _ h => h) (by kernel_rfl) ?_ (by assumption) ?_; rotate_left; (intro wq hSw; (try dsimp only at hSw); go_simp; (try with_reducible rfl)); (try simp only [List.setIfInBounds_toArray, List.set_cons_zero, List.set_cons_succ])
      refine tk_yes (i := 2) (v := ?_) rfl rfl (by kernel_rfl) (by kernel_rfl) (by kernel_rfl) (fun _ _ _ _ h => h) (by kernel_rfl) ?_ (by assumption) ?_; rotate_left; (intro wq hSw; (try dsimp only at hSw); go_simp; (try with_reducible rfl)); (try simp only [List.setIfInBounds_toArray, List.set_cons_zero, List.set_cons_succ])
      refine tk_yes (i := 3) (v := ?_) rfl rfl (by kernel_rfl) (by kernel_rfl) (by kernel_rfl) (fun _ _ _ _ h => h) (by kernel_rfl) ?_ (by assumption) ?_; rotate_left; (intro wq hSw; (try dsimp only at hSw); go_simp; (try with_reducible rfl)); (try simp only [List.setIfInBounds_toArray, List.set_cons_zero, List.set_cons_succ])
      refine tk_yes (i := 4) (v := ?_) rfl rfl (by kernel_rfl) (by kernel_rfl) (by kernel_rfl) (fun _ _ _ _ h => h) (by kernel_rfl) ?_ (by assumption) ?_; rotate_left; (intro wq hSw; (try dsimp only at hSw); go_simp; (try with_reducible rfl)); (try simp only [List.setIfInBounds_toArray, List.set_cons_zero, List.set_cons_succ])
      refine tk_yes (i := 5) (v := ?_) rfl rfl (by kernel_rfl) (by kernel_rfl) (by kernel_rfl) (fun _ _ _ _ h => h) (by kernel_rfl) ?_ (by assumption) ?_; rotate_left; (intro wq hSw; (try dsimp only at hSw); go_simp; (try with_reducible rfl)); (try simp only [List.setIfInBounds_toArray, List.set_cons_zero, List.set_cons_succ])
      refine tk_yes (i := 6) (v := ?_) rfl rfl (by kernel_rfl) (by kernel_rfl) (by kernel_rfl) (fun _ _ _ _ h => h) (by kernel_rfl) ?_ (by assumption) ?_; rotate_left; (intro wq hSw; (try dsimp only at hSw); go_simp; (try with_reducible rfl)); (try simp only [List.setIfInBounds_toArray, List.set_cons_zero, List.set_cons_succ])
      refine tk_yes (i := 7) (v := ?_) rfl rfl (by kernel_rfl) (by kernel_rfl) (by kernel_rfl) (fun _ _ _ _ h => h) (by kernel_rfl) ?_ (by assumption) ?_; rotate_left; (intro wq hSw; (try dsimp only at hSw); go_simp; (try with_reducible rfl)); (try simp only [List.setIfInBounds_toArray, List.set_cons_zero, List.set_cons_succ])
      refine tk_yes (i := 8) (v := ?_) rfl rfl (by kernel_rfl) (by kernel_rfl) (by kernel_rfl) (fun _ _ _ _ h => h) (by kernel_rfl) ?_ (by assumption) ?_; rotate_left; (intro wq hSw; (try dsimp only at hSw); go_simp; (try with_reducible rfl)); (try simp only [List.setIfInBounds_toArray, List.set_cons_zero, List.set_cons_succ])
      refine tk_yes (i := 9) (v := ?_) rfl rfl (by kernel_rfl) (by kernel_rfl) (by kernel_rfl) (fun _ _ _ _ h => h) (by kernel_rfl) ?_ (by assumption) ?_; rotate_left; (intro wq hSw; (try dsimp only at hSw); go_simp; (try with_reducible rfl)); (try simp only [List.setIfInBounds_toArray, List.set_cons_zero, List.set_cons_succ])
      refine tk_yes (i := 10) (v := ?_) rfl rfl (by kernel_rfl) (by kernel_rfl) (by kernel_rfl) (fun _ _ _ _ h => h) (by kernel_rfl) ?_ (by assumption) ?_; rotate_left; (intro wq hSw; (try dsimp only at hSw); go_simp; (try with_reducible rfl)); (try simp only [List.setIfInBounds_toArray, List.set_cons_zero, List.set_cons_succ])
      refine tk_yes (i := 11) (v := ?_) rfl rfl (by kernel_rfl) (by kernel_rfl) (by kernel_rfl) (fun _ _ _ _ h => h) (by kernel_rfl) ?_ (by assumption) ?_; rotate_left; (intro wq hSw; (try dsimp only at hSw); go_simp; (try with_reducible rfl)); (try simp only [List.setIfInBounds_toArray, List.set_cons_zero, List.set_cons_succ])
      refine tk_yes (i := 12) (v := ?_) rfl rfl (by kernel_rfl) (by kernel_rfl) (by kernel_rfl) (fun _ _ _ _ h => h) (by kernel_rfl) ?_ (by assumption) ?_; rotate_left; (intro wq hSw; (try dsimp only at hSw); go_simp; (try with_reducible rfl)); (try simp only [List.setIfInBounds_toArray, List.set_cons_zero, List.set_cons_succ])
      refine tk_yes (i := 13) (v := ?_) rfl rfl (by kernel_rfl) (by kernel_rfl) (by kernel_rfl) (fun _ _ _ _ h => h) (by kernel_rfl) ?_ (by assumption) ?_; rotate_left; (intro wq hSw; (try dsimp only at hSw); go_simp; (try with_reducible rfl)); (try simp only [List.setIfInBounds_toArray, List.set_cons_zero, List.set_cons_succ])
      refine tk_yes (i := 14) (v := ?_) rfl rfl (by kernel_rfl) (by kernel_rfl) (by kernel_rfl) (fun _ _ _ _ h => h) (by kernel_rfl) ?_ (by assumption) ?_; rotate_left; (intro wq hSw; (try dsimp only at hSw); go_simp; (try with_reducible rfl)); (try simp only [List.setIfInBounds_toArray, List.set_cons_zero, List.set_cons_succ])
      refine tk_yes (i := 15) (v := ?_) rfl rfl (by kernel_rfl) (by kernel_rfl) (by kernel_rfl) (fun _ _ _ _ h => h) (by kernel_rfl) ?_ (by assumption) ?_; rotate_left; (intro wq hSw; (try dsimp only at hSw); go_simp; (try with_reducible rfl)); (try simp only [List.setIfInBounds_toArray, List.set_cons_zero, List.set_cons_succ])
      refine tk_yes (i := 16) (v := ?_) rfl rfl (by kernel_rfl) (by kernel_rfl) (by kernel_rfl) (fun _ _ _ _ h => h) (by kernel_rfl) ?_ (by assumption) ?_; rotate_left; (intro wq hSw; (try dsimp only at hSw); go_simp; (try with_reducible rfl)); (try simp only [List.setIfInBounds_toArray, List.set_cons_zero, List.set_cons_succ])
      refine tk_yes (i := 17) (v := ?_) rfl rfl (by kernel_rfl) (by kernel_rfl) (by kernel_rfl) (fun _ _ _ _ h => h) (by kernel_rfl) ?_ (by assumption) ?_; rotate_left; (intro wq hSw; (try dsimp only at hSw); go_simp; (try with_reducible rfl)); (try simp only [List.setIfInBounds_toArray, List.set_cons_zero, List.set_cons_succ])
      refine tk_yes (i := 18) (v := ?_) rfl rfl (by kernel_rfl) (by kernel_rfl) (by kernel_rfl) (fun _ _ _ _ h => h) (by kernel_rfl) ?_ (by assumption) ?_; rotate_left; (intro wq hSw; (try dsimp only at hSw); go_simp; (try with_reducible rfl)); (try simp only [List.setIfInBounds_toArray, List.set_cons_zero, List.set_cons_succ])
      refine tk_yes (i := 19) (v := ?_) rfl rfl (by kernel_rfl) (by kernel_rfl) (by kernel_rfl) (fun _ _ _ _ h => h) (by kernel_rfl) ?_ (by assumption) ?_; rotate_left; (intro wq hSw; (try dsimp only at hSw); go_simp; (try with_reducible rfl)); (try simp only [List.setIfInBounds_toArray, List.set_cons_zero, List.set_cons_succ])
      refine tk_yes (i := 20) (v := ?_) rfl rfl (by kernel_rfl) (by kernel_rfl) (by kernel_rfl) (fun _ _ _ _ h => h) (by kernel_rfl) ?_ (by assumption) ?_; rotate_left; (intro wq hSw; (try dsimp only at hSw); go_simp; (try with_reducible rfl)); (try simp only [List.setIfInBounds_toArray, List.set_cons_zero, List.set_cons_succ])
      refine tk_yes (i := 21) (v := ?_) rfl rfl (by kernel_rfl) (by kernel_rfl) (by kernel_rfl) (fun _ _ _ _ h => h) (by kernel_rfl) ?_ (by assumption) ?_; rotate_left; (intro wq hSw; (try dsimp only at hSw); go_simp; (try with_reducible rfl)); (try simp only [List.setIfInBounds_toArray, List.set_cons_zero, List.set_cons_succ])
      refine tk_yes (i := 22) (v := ?_) rfl rfl (by kernel_rfl) (by kernel_rfl) (by kernel_rfl) (fun _ _ _ _ h => h) (by kernel_rfl) ?_ (by assumption) ?_; rotate_left; (intro wq hSw; (try dsimp only at hSw); go_simp; (try with_reducible rfl)); (try simp only [List.setIfInBounds_toArray, List.set_cons_zero, List.set_cons_succ])
      refine tk_yes (i := 23) (v := ?_) rfl rfl (by kernel_rfl) (by kernel_rfl) (by kernel_rfl) (fun _ _ _ _ h => h) (by kernel_rfl) ?_ (by assumption) ?_; rotate_left; (intro wq hSw; (try dsimp only at hSw); go_simp; (try with_reducible rfl)); (try simp only [List.setIfInBounds_toArray, List.set_cons_zero, List.set_cons_succ])
      refine tk_yes (i := 24) (v := ?_) rfl rfl (by kernel_rfl) (by kernel_rfl) (by kernel_rfl) (fun _ _ _ _ h => h) (by kernel_rfl) ?_ (by assumption) ?_; rotate_left; (intro wq hSw; (try dsimp only at hSw); go_simp; (try with_reducible rfl)); (try simp only [List.setIfInBounds_toArray, List.set_cons_zero, List.set_cons_succ])
      refine tk_yes (i := 25) (v := ?_) rfl rfl (by kernel_rfl) (by kernel_rfl) (by kernel_rfl) (fun _ _ _ _ h => h) (by kernel_rfl) ?_ (by assumption) ?_; rotate_left; (intro wq hSw; (try dsimp only at hSw); go_simp; (try with_reducible rfl)); (try simp only [List.setIfInBounds_toArray, List.set_cons_zero, List.set_cons_succ])
      refine wpAnyH_all (rs := [26]) (by kernel_rfl) (by simp) (fun i hi => ?_); obtain rfl : i = 26 := (by simpa using hi); refine wpOp_step (by rfl) (fun K hK => ?_)
      go_simp
      go_at_call 46
      refine (isZeroVector_any x.value _ _ rv2).mono ?_
      rintro e w3 ⟨rfl, hb3⟩
      have bb3 := ((Below.refl _ _).drew).trans hb3
      have S2 := HSL.out w3 bb3
      try simp only at S2
      refine hK _ _ ⟨S2, ?_⟩
      (try simp only [Act.put, List.setIfInBounds_toArray, List.set_cons_zero, List.set_cons_succ])
      have kh3 := (kh.al (o := .cells #[.int .i64 x.count, .int .i64 x.value.kind, .slice Ai ni ci, .slice Ap np cp, .slice An nn cn, .slice Ac nc cc, .slice Al nl cl, .int .i64 x.value.code, .int .i64 x.value.env, .slice Aq nq cq] 71)).next bb3
      have oC3 := (oC.al (o := .cells #[.int .i64 x.count, .int .i64 x.value.kind, .slice Ai ni ci, .slice Ap np cp, .slice An nn cn, .slice Ac nc cc, .slice Al nl cl, .int .i64 x.value.code, .int .i64 x.value.env, .slice Aq nq cq] 71)).below bb3
      have q3 := bel_call bb2 bb3 (by simp only [wsize_alloc]; omega)
      cases hiz : isZ x.value
      · have HZ := Lib.hid (HBAD.out (by rw [HCEL.out, hiz]; simp [HC3.out]))
        refine tk_yes (i := 27) (v := ?_) rfl rfl (by kernel_rfl) (by kernel_rfl) (by kernel_rfl) (fun _ _ _ _ h => h) (by kernel_rfl) ?_ (by assumption) ?_; rotate_left; (intro wq hSw; (try dsimp only at hSw); go_simp; (try with_reducible rfl)); (try simp only [List.setIfInBounds_toArray, List.set_cons_zero, List.set_cons_succ])
        refine tk_yes (i := 28) (v := ?_) rfl rfl (by kernel_rfl) (by kernel_rfl) (by kernel_rfl) (fun _ _ _ _ h => h) (by kernel_rfl) ?_ (by assumption) ?_; rotate_left; (intro wq hSw; (try dsimp only at hSw); go_simp; (try with_reducible rfl)); (try simp only [List.setIfInBounds_toArray, List.set_cons_zero, List.set_cons_succ])
        refine tk_yes (i := 29) (v := ?_) rfl rfl (by kernel_rfl) (by kernel_rfl) (by kernel_rfl) (fun _ _ _ _ h => h) (by kernel_rfl) ?_ (by assumption) ?_; rotate_left; (intro wq hSw; (try dsimp only at hSw); go_simp; (try with_reducible rfl)); (try simp only [List.setIfInBounds_toArray, List.set_cons_zero, List.set_cons_succ])
        refine tk_yes (i := 30) (v := ?_) rfl rfl (by kernel_rfl) (by kernel_rfl) (by kernel_rfl) (fun _ _ _ _ h => h) (by kernel_rfl) ?_ (by assumption) ?_; rotate_left; (intro wq hSw; (try dsimp only at hSw); go_simp; (try with_reducible rfl)); (try simp only [List.setIfInBounds_toArray, List.set_cons_zero, List.set_cons_succ])
        refine wpAnyH_done (by kernel_rfl) ?_ _
        refine NoPanic.normal ?_
        go_wp2_with fail
        go_ret
        exact ⟨ret_bool HZ.out.symm, q3⟩
      · have HY := Lib.hid (show celOK (cnts n (refs h)) p x = true by rw [HCEL.out, hiz]; simp [HC2.out, HC4.out])
        refine tk_yes (i := 27) (v := ?_) rfl rfl (by kernel_rfl) (by kernel_rfl) (by kernel_rfl) (fun _ _ _ _ h => h) (by kernel_rfl) ?_ (by assumption) ?_; rotate_left; (intro wq hSw; (try dsimp only at hSw); go_simp; (try with_reducible rfl)); (try simp only [List.setIfInBounds_toArray, List.set_cons_zero, List.set_cons_succ])
        refine tk_yes (i := 28) (v := ?_) rfl rfl (by kernel_rfl) (by kernel_rfl) (by kernel_rfl) (fun _ _ _ _ h => h) (by kernel_rfl) ?_ (by assumption) ?_; rotate_left; (intro wq hSw; (try dsimp only at hSw); go_simp; (try with_reducible rfl)); (try simp only [List.setIfInBounds_toArray, List.set_cons_zero, List.set_cons_succ])
        refine tk_yes (i := 29) (v := ?_) rfl rfl (by kernel_rfl) (by kernel_rfl) (by kernel_rfl) (fun _ _ _ _ h => h) (by kernel_rfl) ?_ (by assumption) ?_; rotate_left; (intro wq hSw; (try dsimp only at hSw); go_simp; (try with_reducible rfl)); (try simp only [List.setIfInBounds_toArray, List.set_cons_zero, List.set_cons_succ])
        refine tk_yes (i := 30) (v := ?_) rfl rfl (by kernel_rfl) (by kernel_rfl) (by kernel_rfl) (fun _ _ _ _ h => h) (by kernel_rfl) ?_ (by assumption) ?_; rotate_left; (intro wq hSw; (try dsimp only at hSw); go_simp; (try with_reducible rfl)); (try simp only [List.setIfInBounds_toArray, List.set_cons_zero, List.set_cons_succ])
        refine wpAnyH_done (by kernel_rfl) ?_ _
        refine NoPanic.normal ?_
        go_wp2_with fail
        go_roundw
        case rel => exact ⟨p + 1, by omega, by go_num, ok_snoc HOK.out HX.out HY.out, oC3, kh3, q3⟩
        case measure => simp [intOf]; omega
    · obtain rfl : p = n := by omega
      have hvp : ∀ c ∈ h.cells, c.value.parts.length = 0 := fun c hc => by
        obtain ⟨i, hi⟩ := List.mem_iff_getElem?.1 hc
        have := HOK.out i c (by have := (List.getElem?_eq_some_iff.1 hi).1; rw [HL.out] at this; exact this) hi
        simp only [celOK, Bool.and_eq_true, decide_eq_true_eq] at this
        exact this.1.2
      have HVP := Lib.hid hvp
      have hcl2 : allFrom (celOK (cnts p (refs h))) h.cells = true := allFrom_yes (fun i x hi hx => HOK.out i x (by rw [HL.out] at hi; exact hi) hx)
      have HCL := Lib.hid hcl2
      have HCF : Hid (∀ (k : Int) (cs : List Value) (w : World), rep w w.heap.size h.toD cs → Calls Try.prog 48 #[av cs, .int .i64 k, .int .i64 3] w fun e w' => e = .returned (.bool (fitsD h 3 k)) ∧ Below w.heap.size w w') := Lib.hid (cellFits_any h (by omega) 3 (by omega))
      have HAS := Lib.hid (assembled_any h hz 3)
      clear hvp hcl2 oC hgw
      go_wp2_with fail
      clear g0 g1 g2 g3
      go_loopw [71] (fun v wr => ∃ q : Nat, q ≤ nm ∧ v = .int .i64 q ∧ (∀ i s, i < q → h.names[i]? = some s → namOK h i s ((h.slots[i]?).getD 0) = true) ∧ Blk wr w.heap.size 48 [.slice A p c, .slice Am nm cm, .slice As ns ca, .int .i64 h.copies] ∧ Below w.heap.size w wr) (fun v _ => nm - (intOf v).toNat)
      case atStart => exact ⟨0, by omega, rfl, fun i s hi => by omega, kh, bb⟩
      case round =>
        clear kh bb yh z0
        obtain ⟨q, hq, rfl, hok, kh, bb⟩ := hrel
        have HNK := Lib.hid hok
        have yh := kh.lt
        have z0 := bb.size
        clear hok
        by_cases hlq : q < nm
        · obtain ⟨bm, om, s, rfl, hbm, hsx, hcm⟩ := (hm.below bb).atS hlq
          obtain ⟨bs, os, k, rfl, hbs, hkx, hck⟩ := (hs.below bb).atI (k := q) (by have := HNN.out; omega)
          have hs60 := HMX.out s (List.mem_of_getElem? hsx)
          have RT := ((hm.below bb).more z0).pre (k := q) (by omega)
          have RT : Reads encS 1 wr.drew wr.drew.heap.size (some ⟨bm, om, none⟩) q (h.names.take q) := RT.keep (fun _ _ => rfl)
          have ry := rep_in HR.out bb z0
          have ybm : bm < wr.heap.size := by omega
          have ybs : bs < wr.heap.size := by omega
          have iq : (q : Int) < (nm : Int) := by omega
          have iq0 : (0 : Int) ≤ (q : Int) := by omega
          have iqs : (q : Int) < (ns : Int) := by have := HNN.out; omega
          have iqc : (q : Int) ≤ (cm : Int) := by omega
          have hcm0 : ¬ cm = 0 := by omega
          have hcm1 : ¬ 0 = cm := by omega
          have hnk : namOK h q s ((h.slots[q]?).getD 0) = (isNm s && !(hasB (h.names.take q) s) && fitsD h 3 k && isVec (asm h 3 k)) := by rw [hkx]; rfl
          have HNM := Lib.hid hnk
          have HSX := Lib.hid hsx
          have HBAD : Hid (namOK h q s ((h.slots[q]?).getD 0) = false → heapOK h = false) := Lib.hid fun hb => heapOK_no (.inr (.inr (.inr (.inr (allFrom_no HSX.out hb)))))
          have SL : ∀ W, Below wr.heap.size wr W → (fun W => W.cell? ⟨w.heap.size, 0, none⟩ = some (.slice A p c) ∧ W.cell? ⟨w.heap.size, 1, none⟩ = some (.slice (some ⟨bm, om, none⟩) nm cm) ∧ W.cell? ⟨w.heap.size, 2, none⟩ = some (.slice (some ⟨bs, os, none⟩) ns ca) ∧ W.cell? ⟨w.heap.size, 3, none⟩ = some (.int .i64 h.copies) ∧ W.cell? ⟨bs, os + q, none⟩ = some (.int .i64 k)) W := fun W hW => by
            obtain ⟨a0, a1, a2, a3⟩ := (kh.next hW).c4
            exact ⟨a0, a1, a2, a3, (hW.cell (p := ⟨bs, os + q, none⟩) ybs).trans hck⟩
          have S0 := SL wr.drew (Below.refl _ _).drew
          simp only at S0
          have HSL := Lib.hid SL
          clear SL hnk hsx hkx
          cases hnm : isNm s
          · have HZ := Lib.hid (HBAD.out (by rw [HNM.out, hnm]; rfl))
            go_wp2_with fail
            refine wp_region_noPanic ?_
            refine wp_region_held_drew (S := (fun W => W.cell? ⟨w.heap.size, 0, none⟩ = some (.slice A p c) ∧ W.cell? ⟨w.heap.size, 1, none⟩ = some (.slice (some ⟨bm, om, none⟩) nm cm) ∧ W.cell? ⟨w.heap.size, 2, none⟩ = some (.slice (some ⟨bs, os, none⟩) ns ca) ∧ W.cell? ⟨w.heap.size, 3, none⟩ = some (.int .i64 h.copies) ∧ W.cell? ⟨bs, os + q, none⟩ = some (.int .i64 k))) (by kernel_rfl) S0 (fun hH => ?_)
            refine tk_yes (i := 0) (v := ?_) rfl rfl (by kernel_rfl) (by kernel_rfl) (by kernel_rfl) (fun _ _ _ _ h => h) (by kernel_rfl) ?_ (by assumption) ?_; rotate_left; (intro wq hSw; (try dsimp only at hSw); go_simp; (try with_reducible rfl)); (try simp only [List.setIfInBounds_toArray, List.set_cons_zero, List.set_cons_succ])
            refine wpAnyH_all (rs := [1]) (by kernel_rfl) (by simp) (fun i hi => ?_); obtain rfl : i = 1 := (by simpa using hi); refine wpOp_step (by rfl) (fun K hK => ?_)
            go_simp
            go_at_call 31
            refine (implIsName_any s _ hs60).mono ?_
            rintro e w2 ⟨rfl, rfl⟩
            refine hK _ _ ⟨S0, ?_⟩
            (try simp only [Act.put, List.setIfInBounds_toArray, List.set_cons_zero, List.set_cons_succ])
            refine tk_yes (i := 2) (v := ?_) rfl rfl (by kernel_rfl) (by kernel_rfl) (by kernel_rfl) (fun _ _ _ _ h => h) (by kernel_rfl) ?_ (by assumption) ?_; rotate_left; (intro wq hSw; (try dsimp only at hSw); go_simp; (try with_reducible rfl)); (try simp only [List.setIfInBounds_toArray, List.set_cons_zero, List.set_cons_succ])
            refine tk_yes (i := 3) (v := ?_) rfl rfl (by kernel_rfl) (by kernel_rfl) (by kernel_rfl) (fun _ _ _ _ h => h) (by kernel_rfl) ?_ (by assumption) ?_; rotate_left; (intro wq hSw; (try dsimp only at hSw); go_simp; (try with_reducible rfl)); (try simp only [List.setIfInBounds_toArray, List.set_cons_zero, List.set_cons_succ])
            refine tk_no (i := 4) rfl rfl (by kernel_rfl) (by kernel_rfl) (by kernel_rfl) (fun _ _ _ _ h => h) (by kernel_rfl) (by assumption) ?_; (try simp only [List.setIfInBounds_toArray, List.set_cons_zero, List.set_cons_succ])
            refine tk_no (i := 5) rfl rfl (by kernel_rfl) (by kernel_rfl) (by kernel_rfl) (fun _ _ _ _ h => h) (by kernel_rfl) (by assumption) ?_; (try simp only [List.setIfInBounds_toArray, List.set_cons_zero, List.set_cons_succ])
            refine tk_no (i := 6) rfl rfl (by kernel_rfl) (by kernel_rfl) (by kernel_rfl) (fun _ _ _ _ h => h) (by kernel_rfl) (by assumption) ?_; (try simp only [List.setIfInBounds_toArray, List.set_cons_zero, List.set_cons_succ])
            refine tk_no (i := 7) rfl rfl (by kernel_rfl) (by kernel_rfl) (by kernel_rfl) (fun _ _ _ _ h => h) (by kernel_rfl) (by assumption) ?_; (try simp only [List.setIfInBounds_toArray, List.set_cons_zero, List.set_cons_succ])
            refine tk_no (i := 8) rfl rfl (by kernel_rfl) (by kernel_rfl) (by kernel_rfl) (fun _ _ _ _ h => h) (by kernel_rfl) (by assumption) ?_; (try simp only [List.setIfInBounds_toArray, List.set_cons_zero, List.set_cons_succ])
            refine tk_no (i := 9) rfl rfl (by kernel_rfl) (by kernel_rfl) (by kernel_rfl) (fun _ _ _ _ h => h) (by kernel_rfl) (by assumption) ?_; (try simp only [List.setIfInBounds_toArray, List.set_cons_zero, List.set_cons_succ])
            refine tk_yes (i := 10) (v := ?_) rfl rfl (by kernel_rfl) (by kernel_rfl) (by kernel_rfl) (fun _ _ _ _ h => h) (by kernel_rfl) ?_ (by assumption) ?_; rotate_left; (intro wq hSw; (try dsimp only at hSw); go_simp; (try with_reducible rfl)); (try simp only [List.setIfInBounds_toArray, List.set_cons_zero, List.set_cons_succ])
            refine tk_yes (i := 11) (v := ?_) rfl rfl (by kernel_rfl) (by kernel_rfl) (by kernel_rfl) (fun _ _ _ _ h => h) (by kernel_rfl) ?_ (by assumption) ?_; rotate_left; (intro wq hSw; (try dsimp only at hSw); go_simp; (try with_reducible rfl)); (try simp only [List.setIfInBounds_toArray, List.set_cons_zero, List.set_cons_succ])
            refine tk_no (i := 12) rfl rfl (by kernel_rfl) (by kernel_rfl) (by kernel_rfl) (fun _ _ _ _ h => h) (by kernel_rfl) (by assumption) ?_; (try simp only [List.setIfInBounds_toArray, List.set_cons_zero, List.set_cons_succ])
            refine tk_no (i := 13) rfl rfl (by kernel_rfl) (by kernel_rfl) (by kernel_rfl) (fun _ _ _ _ h => h) (by kernel_rfl) (by assumption) ?_; (try simp only [List.setIfInBounds_toArray, List.set_cons_zero, List.set_cons_succ])
            refine tk_no (i := 14) rfl rfl (by kernel_rfl) (by kernel_rfl) (by kernel_rfl) (fun _ _ _ _ h => h) (by kernel_rfl) (by assumption) ?_; (try simp only [List.setIfInBounds_toArray, List.set_cons_zero, List.set_cons_succ])
            refine tk_no (i := 15) rfl rfl (by kernel_rfl) (by kernel_rfl) (by kernel_rfl) (fun _ _ _ _ h => h) (by kernel_rfl) (by assumption) ?_; (try simp only [List.setIfInBounds_toArray, List.set_cons_zero, List.set_cons_succ])
            refine tk_no (i := 16) rfl rfl (by kernel_rfl) (by kernel_rfl) (by kernel_rfl) (fun _ _ _ _ h => h) (by kernel_rfl) (by assumption) ?_; (try simp only [List.setIfInBounds_toArray, List.set_cons_zero, List.set_cons_succ])
            refine tk_no (i := 17) rfl rfl (by kernel_rfl) (by kernel_rfl) (by kernel_rfl) (fun _ _ _ _ h => h) (by kernel_rfl) (by assumption) ?_; (try simp only [List.setIfInBounds_toArray, List.set_cons_zero, List.set_cons_succ])
            refine tk_no (i := 18) rfl rfl (by kernel_rfl) (by kernel_rfl) (by kernel_rfl) (fun _ _ _ _ h => h) (by kernel_rfl) (by assumption) ?_; (try simp only [List.setIfInBounds_toArray, List.set_cons_zero, List.set_cons_succ])
            refine tk_no (i := 19) rfl rfl (by kernel_rfl) (by kernel_rfl) (by kernel_rfl) (fun _ _ _ _ h => h) (by kernel_rfl) (by assumption) ?_; (try simp only [List.setIfInBounds_toArray, List.set_cons_zero, List.set_cons_succ])
            refine tk_yes (i := 20) (v := ?_) rfl rfl (by kernel_rfl) (by kernel_rfl) (by kernel_rfl) (fun _ _ _ _ h => h) (by kernel_rfl) ?_ (by assumption) ?_; rotate_left; (intro wq hSw; (try dsimp only at hSw); go_simp; (try with_reducible rfl)); (try simp only [List.setIfInBounds_toArray, List.set_cons_zero, List.set_cons_succ])
            refine tk_yes (i := 21) (v := ?_) rfl rfl (by kernel_rfl) (by kernel_rfl) (by kernel_rfl) (fun _ _ _ _ h => h) (by kernel_rfl) ?_ (by assumption) ?_; rotate_left; (intro wq hSw; (try dsimp only at hSw); go_simp; (try with_reducible rfl)); (try simp only [List.setIfInBounds_toArray, List.set_cons_zero, List.set_cons_succ])
            refine tk_no (i := 22) rfl rfl (by kernel_rfl) (by kernel_rfl) (by kernel_rfl) (fun _ _ _ _ h => h) (by kernel_rfl) (by assumption) ?_; (try simp only [List.setIfInBounds_toArray, List.set_cons_zero, List.set_cons_succ])
            refine tk_no (i := 23) rfl rfl (by kernel_rfl) (by kernel_rfl) (by kernel_rfl) (fun _ _ _ _ h => h) (by kernel_rfl) (by assumption) ?_; (try simp only [List.setIfInBounds_toArray, List.set_cons_zero, List.set_cons_succ])
            refine tk_no (i := 24) rfl rfl (by kernel_rfl) (by kernel_rfl) (by kernel_rfl) (fun _ _ _ _ h => h) (by kernel_rfl) (by assumption) ?_; (try simp only [List.setIfInBounds_toArray, List.set_cons_zero, List.set_cons_succ])
            refine tk_no (i := 25) rfl rfl (by kernel_rfl) (by kernel_rfl) (by kernel_rfl) (fun _ _ _ _ h => h) (by kernel_rfl) (by assumption) ?_; (try simp only [List.setIfInBounds_toArray, List.set_cons_zero, List.set_cons_succ])
            refine tk_no (i := 26) rfl rfl (by kernel_rfl) (by kernel_rfl) (by kernel_rfl) (fun _ _ _ _ h => h) (by kernel_rfl) (by assumption) ?_; (try simp only [List.setIfInBounds_toArray, List.set_cons_zero, List.set_cons_succ])
            refine tk_no (i := 27) rfl rfl (by kernel_rfl) (by kernel_rfl) (by kernel_rfl) (fun _ _ _ _ h => h) (by kernel_rfl) (by assumption) ?_; (try simp only [List.setIfInBounds_toArray, List.set_cons_zero, List.set_cons_succ])
            refine tk_no (i := 28) rfl rfl (by kernel_rfl) (by kernel_rfl) (by kernel_rfl) (fun _ _ _ _ h => h) (by kernel_rfl) (by assumption) ?_; (try simp only [List.setIfInBounds_toArray, List.set_cons_zero, List.set_cons_succ])
            refine tk_no (i := 29) rfl rfl (by kernel_rfl) (by kernel_rfl) (by kernel_rfl) (fun _ _ _ _ h => h) (by kernel_rfl) (by assumption) ?_; (try simp only [List.setIfInBounds_toArray, List.set_cons_zero, List.set_cons_succ])
            refine tk_no (i := 30) rfl rfl (by kernel_rfl) (by kernel_rfl) (by kernel_rfl) (fun _ _ _ _ h => h) (by kernel_rfl) (by assumption) ?_; (try simp only [List.setIfInBounds_toArray, List.set_cons_zero, List.set_cons_succ])
            refine tk_yes (i := 31) (v := ?_) rfl rfl (by kernel_rfl) (by kernel_rfl) (by kernel_rfl) (fun _ _ _ _ h => h) (by kernel_rfl) ?_ (by assumption) ?_; rotate_left; (intro wq hSw; (try dsimp only at hSw); go_simp; (try with_reducible rfl)); (try simp only [List.setIfInBounds_toArray, List.set_cons_zero, List.set_cons_succ])
            refine wpAnyH_done (by kernel_rfl) ?_ _
            refine NoPanic.normal ?_
            go_wp2_with fail
            go_ret
            exact ⟨ret_bool HZ.out.symm, bb.drew⟩
          cases hdu : hasB (h.names.take q) s
          rotate_left
          · have HZ := Lib.hid (HBAD.out (by rw [HNM.out, hnm, hdu]; rfl))
            go_wp2_with fail
            refine wp_region_noPanic ?_
            refine wp_region_held_drew (S := (fun W => W.cell? ⟨w.heap.size, 0, none⟩ = some (.slice A p c) ∧ W.cell? ⟨w.heap.size, 1, none⟩ = some (.slice (some ⟨bm, om, none⟩) nm cm) ∧ W.cell? ⟨w.heap.size, 2, none⟩ = some (.slice (some ⟨bs, os, none⟩) ns ca) ∧ W.cell? ⟨w.heap.size, 3, none⟩ = some (.int .i64 h.copies) ∧ W.cell? ⟨bs, os + q, none⟩ = some (.int .i64 k))) (by kernel_rfl) S0 (fun hH => ?_)
            refine tk_yes (i := 0) (v := ?_) rfl rfl (by kernel_rfl) (by kernel_rfl) (by kernel_rfl) (fun _ _ _ _ h => h) (by kernel_rfl) ?_ (by assumption) ?_; rotate_left; (intro wq hSw; (try dsimp only at hSw); go_simp; (try with_reducible rfl)); (try simp only [List.setIfInBounds_toArray, List.set_cons_zero, List.set_cons_succ])
            refine wpAnyH_all (rs := [1]) (by kernel_rfl) (by simp) (fun i hi => ?_); obtain rfl : i = 1 := (by simpa using hi); refine wpOp_step (by rfl) (fun K hK => ?_)
            go_simp
            go_at_call 31
            refine (implIsName_any s _ hs60).mono ?_
            rintro e w2 ⟨rfl, rfl⟩
            refine hK _ _ ⟨S0, ?_⟩
            (try simp only [Act.put, List.setIfInBounds_toArray, List.set_cons_zero, List.set_cons_succ])
            refine tk_yes (i := 2) (v := ?_) rfl rfl (by kernel_rfl) (by kernel_rfl) (by kernel_rfl) (fun _ _ _ _ h => h) (by kernel_rfl) ?_ (by assumption) ?_; rotate_left; (intro wq hSw; (try dsimp only at hSw); go_simp; (try with_reducible rfl)); (try simp only [List.setIfInBounds_toArray, List.set_cons_zero, List.set_cons_succ])
            refine tk_yes (i := 3) (v := ?_) rfl rfl (by kernel_rfl) (by kernel_rfl) (by kernel_rfl) (fun _ _ _ _ h => h) (by kernel_rfl) ?_ (by assumption) ?_; rotate_left; (intro wq hSw; (try dsimp only at hSw); go_simp; (try with_reducible rfl)); (try simp only [List.setIfInBounds_toArray, List.set_cons_zero, List.set_cons_succ])
            refine tk_yes (i := 4) (v := ?_) rfl rfl (by kernel_rfl) (by kernel_rfl) (by kernel_rfl) (fun _ _ _ _ h => h) (by kernel_rfl) ?_ (by assumption) ?_; rotate_left; (intro wq hSw; (try dsimp only at hSw); go_simp; (try with_reducible rfl)); (try simp only [List.setIfInBounds_toArray, List.set_cons_zero, List.set_cons_succ])
            refine tk_yes (i := 5) (v := ?_) rfl rfl (by kernel_rfl) (by kernel_rfl) (by kernel_rfl) (fun _ _ _ _ h => h) (by kernel_rfl) ?_ (by assumption) ?_; rotate_left; (intro wq hSw; (try dsimp only at hSw); go_simp; (try with_reducible rfl)); (try simp only [List.setIfInBounds_toArray, List.set_cons_zero, List.set_cons_succ])
            refine tk_yes (i := 6) (v := ?_) rfl rfl (by kernel_rfl) (by kernel_rfl) (by kernel_rfl) (fun _ _ _ _ h => h) (by kernel_rfl) ?_ (by assumption) ?_; rotate_left; (intro wq hSw; (try dsimp only at hSw); go_simp; (try with_reducible rfl)); (try simp only [List.setIfInBounds_toArray, List.set_cons_zero, List.set_cons_succ])
            refine tk_yes (i := 7) (v := ?_) rfl rfl (by kernel_rfl) (by kernel_rfl) (by kernel_rfl) (fun _ _ _ _ h => h) (by kernel_rfl) ?_ (by assumption) ?_; rotate_left; (intro wq hSw; (try dsimp only at hSw); go_simp; (try with_reducible rfl)); (try simp only [List.setIfInBounds_toArray, List.set_cons_zero, List.set_cons_succ])
            refine tk_yes (i := 8) (v := ?_) rfl rfl (by kernel_rfl) (by kernel_rfl) (by kernel_rfl) (fun _ _ _ _ h => h) (by kernel_rfl) ?_ (by assumption) ?_; rotate_left; (intro wq hSw; (try dsimp only at hSw); go_simp; (try with_reducible rfl)); (try simp only [List.setIfInBounds_toArray, List.set_cons_zero, List.set_cons_succ])
            refine wpAnyH_all (rs := [9]) (by kernel_rfl) (by simp) (fun i hi => ?_); obtain rfl : i = 9 := (by simpa using hi); refine wpOp_step (by rfl) (fun K hK => ?_)
            go_simp
            go_at_call 47
            refine (hasText_b _ _ _ (h.names.take q) s _ RT (by unfold maxLen; omega)).mono ?_
            rintro e w2 ⟨rfl, rfl⟩
            refine hK _ _ ⟨S0, ?_⟩
            (try simp only [Act.put, List.setIfInBounds_toArray, List.set_cons_zero, List.set_cons_succ])
            refine tk_yes (i := 10) (v := ?_) rfl rfl (by kernel_rfl) (by kernel_rfl) (by kernel_rfl) (fun _ _ _ _ h => h) (by kernel_rfl) ?_ (by assumption) ?_; rotate_left; (intro wq hSw; (try dsimp only at hSw); go_simp; (try with_reducible rfl)); (try simp only [List.setIfInBounds_toArray, List.set_cons_zero, List.set_cons_succ])
            refine tk_yes (i := 11) (v := ?_) rfl rfl (by kernel_rfl) (by kernel_rfl) (by kernel_rfl) (fun _ _ _ _ h => h) (by kernel_rfl) ?_ (by assumption) ?_; rotate_left; (intro wq hSw; (try dsimp only at hSw); go_simp; (try with_reducible rfl)); (try simp only [List.setIfInBounds_toArray, List.set_cons_zero, List.set_cons_succ])
            refine tk_no (i := 12) rfl rfl (by kernel_rfl) (by kernel_rfl) (by kernel_rfl) (fun _ _ _ _ h => h) (by kernel_rfl) (by assumption) ?_; (try simp only [List.setIfInBounds_toArray, List.set_cons_zero, List.set_cons_succ])
            refine tk_no (i := 13) rfl rfl (by kernel_rfl) (by kernel_rfl) (by kernel_rfl) (fun _ _ _ _ h => h) (by kernel_rfl) (by assumption) ?_; (try simp only [List.setIfInBounds_toArray, List.set_cons_zero, List.set_cons_succ])
            refine tk_no (i := 14) rfl rfl (by kernel_rfl) (by kernel_rfl) (by kernel_rfl) (fun _ _ _ _ h => h) (by kernel_rfl) (by assumption) ?_; (try simp only [List.setIfInBounds_toArray, List.set_cons_zero, List.set_cons_succ])
            refine tk_no (i := 15) rfl rfl (by kernel_rfl) (by kernel_rfl) (by kernel_rfl) (fun _ _ _ _ h => h) (by kernel_rfl) (by assumption) ?_; (try simp only [List.setIfInBounds_toArray, List.set_cons_zero, List.set_cons_succ])
            refine tk_no (i := 16) rfl rfl (by kernel_rfl) (by kernel_rfl) (by kernel_rfl) (fun _ _ _ _ h => h) (by kernel_rfl) (by assumption) ?_; (try simp only [List.setIfInBounds_toArray, List.set_cons_zero, List.set_cons_succ])
            refine tk_no (i := 17) rfl rfl (by kernel_rfl) (by kernel_rfl) (by kernel_rfl) (fun _ _ _ _ h => h) (by kernel_rfl) (by assumption) ?_; (try simp only [List.setIfInBounds_toArray, List.set_cons_zero, List.set_cons_succ])
            refine tk_no (i := 18) rfl rfl (by kernel_rfl) (by kernel_rfl) (by kernel_rfl) (fun _ _ _ _ h => h) (by kernel_rfl) (by assumption) ?_; (try simp only [List.setIfInBounds_toArray, List.set_cons_zero, List.set_cons_succ])
            refine tk_no (i := 19) rfl rfl (by kernel_rfl) (by kernel_rfl) (by kernel_rfl) (fun _ _ _ _ h => h) (by kernel_rfl) (by assumption) ?_; (try simp only [List.setIfInBounds_toArray, List.set_cons_zero, List.set_cons_succ])
            refine tk_yes (i := 20) (v := ?_) rfl rfl (by kernel_rfl) (by kernel_rfl) (by kernel_rfl) (fun _ _ _ _ h => h) (by kernel_rfl) ?_ (by assumption) ?_; rotate_left; (intro wq hSw; (try dsimp only at hSw); go_simp; (try with_reducible rfl)); (try simp only [List.setIfInBounds_toArray, List.set_cons_zero, List.set_cons_succ])
            refine tk_yes (i := 21) (v := ?_) rfl rfl (by kernel_rfl) (by kernel_rfl) (by kernel_rfl) (fun _ _ _ _ h => h) (by kernel_rfl) ?_ (by assumption) ?_; rotate_left; (intro wq hSw; (try dsimp only at hSw); go_simp; (try with_reducible rfl)); (try simp only [List.setIfInBounds_toArray, List.set_cons_zero, List.set_cons_succ])
            refine tk_no (i := 22) rfl rfl (by kernel_rfl) (by kernel_rfl) (by kernel_rfl) (fun _ _ _ _ h => h) (by kernel_rfl) (by assumption) ?_; (try simp only [List.setIfInBounds_toArray, List.set_cons_zero, List.set_cons_succ])
            refine tk_no (i := 23) rfl rfl (by kernel_rfl) (by kernel_rfl) (by kernel_rfl) (fun _ _ _ _ h => h) (by kernel_rfl) (by assumption) ?_; (try simp only [List.setIfInBounds_toArray, List.set_cons_zero, List.set_cons_succ])
            refine tk_no (i := 24) rfl rfl (by kernel_rfl) (by kernel_rfl) (by kernel_rfl) (fun _ _ _ _ h => h) (by kernel_rfl) (by assumption) ?_; (try simp only [List.setIfInBounds_toArray, List.set_cons_zero, List.set_cons_succ])
            refine tk_no (i := 25) rfl rfl (by kernel_rfl) (by kernel_rfl) (by kernel_rfl) (fun _ _ _ _ h => h) (by kernel_rfl) (by assumption) ?_; (try simp only [List.setIfInBounds_toArray, List.set_cons_zero, List.set_cons_succ])
            refine tk_no (i := 26) rfl rfl (by kernel_rfl) (by kernel_rfl) (by kernel_rfl) (fun _ _ _ _ h => h) (by kernel_rfl) (by assumption) ?_; (try simp only [List.setIfInBounds_toArray, List.set_cons_zero, List.set_cons_succ])
            refine tk_no (i := 27) rfl rfl (by kernel_rfl) (by kernel_rfl) (by kernel_rfl) (fun _ _ _ _ h => h) (by kernel_rfl) (by assumption) ?_; (try simp only [List.setIfInBounds_toArray, List.set_cons_zero, List.set_cons_succ])
            refine tk_no (i := 28) rfl rfl (by kernel_rfl) (by kernel_rfl) (by kernel_rfl) (fun _ _ _ _ h => h) (by kernel_rfl) (by assumption) ?_; (try simp only [List.setIfInBounds_toArray, List.set_cons_zero, List.set_cons_succ])
            refine tk_no (i := 29) rfl rfl (by kernel_rfl) (by kernel_rfl) (by kernel_rfl) (fun _ _ _ _ h => h) (by kernel_rfl) (by assumption) ?_; (try simp only [List.setIfInBounds_toArray, List.set_cons_zero, List.set_cons_succ])
            refine tk_no (i := 30) rfl rfl (by kernel_rfl) (by kernel_rfl) (by kernel_rfl) (fun _ _ _ _ h => h) (by kernel_rfl) (by assumption) ?_; (try simp only [List.setIfInBounds_toArray, List.set_cons_zero, List.set_cons_succ])
            refine tk_yes (i := 31) (v := ?_) rfl rfl (by kernel_rfl) (by kernel_rfl) (by kernel_rfl) (fun _ _ _ _ h => h) (by kernel_rfl) ?_ (by assumption) ?_; rotate_left; (intro wq hSw; (try dsimp only at hSw); go_simp; (try with_reducible rfl)); (try simp only [List.setIfInBounds_toArray, List.set_cons_zero, List.set_cons_succ])
            refine wpAnyH_done (by kernel_rfl) ?_ _
            refine NoPanic.normal ?_
            go_wp2_with fail
            go_ret
            exact ⟨ret_bool HZ.out.symm, bb.drew⟩
          cases hft : fitsD h 3 k
          · have HZ := Lib.hid (HBAD.out (by rw [HNM.out, hnm, hdu, hft]; rfl))
            go_wp2_with fail
            refine wp_region_noPanic ?_
            refine wp_region_held_drew (S := (fun W => W.cell? ⟨w.heap.size, 0, none⟩ = some (.slice A p c) ∧ W.cell? ⟨w.heap.size, 1, none⟩ = some (.slice (some ⟨bm, om, none⟩) nm cm) ∧ W.cell? ⟨w.heap.size, 2, none⟩ = some (.slice (some ⟨bs, os, none⟩) ns ca) ∧ W.cell? ⟨w.heap.size, 3, none⟩ = some (.int .i64 h.copies) ∧ W.cell? ⟨bs, os + q, none⟩ = some (.int .i64 k))) (by kernel_rfl) S0 (fun hH => ?_)
            refine tk_yes (i := 0) (v := ?_) rfl rfl (by kernel_rfl) (by kernel_rfl) (by kernel_rfl) (fun _ _ _ _ h => h) (by kernel_rfl) ?_ (by assumption) ?_; rotate_left; (intro wq hSw; (try dsimp only at hSw); go_simp; (try with_reducible rfl)); (try simp only [List.setIfInBounds_toArray, List.set_cons_zero, List.set_cons_succ])
            refine wpAnyH_all (rs := [1]) (by kernel_rfl) (by simp) (fun i hi => ?_); obtain rfl : i = 1 := (by simpa using hi); refine wpOp_step (by rfl) (fun K hK => ?_)
            go_simp
            go_at_call 31
            refine (implIsName_any s _ hs60).mono ?_
            rintro e w2 ⟨rfl, rfl⟩
            refine hK _ _ ⟨S0, ?_⟩
            (try simp only [Act.put, List.setIfInBounds_toArray, List.set_cons_zero, List.set_cons_succ])
            refine tk_yes (i := 2) (v := ?_) rfl rfl (by kernel_rfl) (by kernel_rfl) (by kernel_rfl) (fun _ _ _ _ h => h) (by kernel_rfl) ?_ (by assumption) ?_; rotate_left; (intro wq hSw; (try dsimp only at hSw); go_simp; (try with_reducible rfl)); (try simp only [List.setIfInBounds_toArray, List.set_cons_zero, List.set_cons_succ])
            refine tk_yes (i := 3) (v := ?_) rfl rfl (by kernel_rfl) (by kernel_rfl) (by kernel_rfl) (fun _ _ _ _ h => h) (by kernel_rfl) ?_ (by assumption) ?_; rotate_left; (intro wq hSw; (try dsimp only at hSw); go_simp; (try with_reducible rfl)); (try simp only [List.setIfInBounds_toArray, List.set_cons_zero, List.set_cons_succ])
            refine tk_yes (i := 4) (v := ?_) rfl rfl (by kernel_rfl) (by kernel_rfl) (by kernel_rfl) (fun _ _ _ _ h => h) (by kernel_rfl) ?_ (by assumption) ?_; rotate_left; (intro wq hSw; (try dsimp only at hSw); go_simp; (try with_reducible rfl)); (try simp only [List.setIfInBounds_toArray, List.set_cons_zero, List.set_cons_succ])
            refine tk_yes (i := 5) (v := ?_) rfl rfl (by kernel_rfl) (by kernel_rfl) (by kernel_rfl) (fun _ _ _ _ h => h) (by kernel_rfl) ?_ (by assumption) ?_; rotate_left; (intro wq hSw; (try dsimp only at hSw); go_simp; (try with_reducible rfl)); (try simp only [List.setIfInBounds_toArray, List.set_cons_zero, List.set_cons_succ])
            refine tk_yes (i := 6) (v := ?_) rfl rfl (by kernel_rfl) (by kernel_rfl) (by kernel_rfl) (fun _ _ _ _ h => h) (by kernel_rfl) ?_ (by assumption) ?_; rotate_left; (intro wq hSw; (try dsimp only at hSw); go_simp; (try with_reducible rfl)); (try simp only [List.setIfInBounds_toArray, List.set_cons_zero, List.set_cons_succ])
            refine tk_yes (i := 7) (v := ?_) rfl rfl (by kernel_rfl) (by kernel_rfl) (by kernel_rfl) (fun _ _ _ _ h => h) (by kernel_rfl) ?_ (by assumption) ?_; rotate_left; (intro wq hSw; (try dsimp only at hSw); go_simp; (try with_reducible rfl)); (try simp only [List.setIfInBounds_toArray, List.set_cons_zero, List.set_cons_succ])
            refine tk_yes (i := 8) (v := ?_) rfl rfl (by kernel_rfl) (by kernel_rfl) (by kernel_rfl) (fun _ _ _ _ h => h) (by kernel_rfl) ?_ (by assumption) ?_; rotate_left; (intro wq hSw; (try dsimp only at hSw); go_simp; (try with_reducible rfl)); (try simp only [List.setIfInBounds_toArray, List.set_cons_zero, List.set_cons_succ])
            refine wpAnyH_all (rs := [9]) (by kernel_rfl) (by simp) (fun i hi => ?_); obtain rfl : i = 9 := (by simpa using hi); refine wpOp_step (by rfl) (fun K hK => ?_)
            go_simp
            go_at_call 47
            refine (hasText_b _ _ _ (h.names.take q) s _ RT (by unfold maxLen; omega)).mono ?_
            rintro e w2 ⟨rfl, rfl⟩
            refine hK _ _ ⟨S0, ?_⟩
            (try simp only [Act.put, List.setIfInBounds_toArray, List.set_cons_zero, List.set_cons_succ])
            refine tk_yes (i := 10) (v := ?_) rfl rfl (by kernel_rfl) (by kernel_rfl) (by kernel_rfl) (fun _ _ _ _ h => h) (by kernel_rfl) ?_ (by assumption) ?_; rotate_left; (intro wq hSw; (try dsimp only at hSw); go_simp; (try with_reducible rfl)); (try simp only [List.setIfInBounds_toArray, List.set_cons_zero, List.set_cons_succ])
            refine tk_yes (i := 11) (v := ?_) rfl rfl (by kernel_rfl) (by kernel_rfl) (by kernel_rfl) (fun _ _ _ _ h => h) (by kernel_rfl) ?_ (by assumption) ?_; rotate_left; (intro wq hSw; (try dsimp only at hSw); go_simp; (try with_reducible rfl)); (try simp only [List.setIfInBounds_toArray, List.set_cons_zero, List.set_cons_succ])
            refine tk_yes (i := 12) (v := ?_) rfl rfl (by kernel_rfl) (by kernel_rfl) (by kernel_rfl) (fun _ _ _ _ h => h) (by kernel_rfl) ?_ (by assumption) ?_; rotate_left; (intro wq hSw; (try dsimp only at hSw); go_simp; (try with_reducible rfl)); (try simp only [List.setIfInBounds_toArray, List.set_cons_zero, List.set_cons_succ])
            refine tk_yes (i := 13) (v := ?_) rfl rfl (by kernel_rfl) (by kernel_rfl) (by kernel_rfl) (fun _ _ _ _ h => h) (by kernel_rfl) ?_ (by assumption) ?_; rotate_left; (intro wq hSw; (try dsimp only at hSw); go_simp; (try with_reducible rfl)); (try simp only [List.setIfInBounds_toArray, List.set_cons_zero, List.set_cons_succ])
            refine tk_yes (i := 14) (v := ?_) rfl rfl (by kernel_rfl) (by kernel_rfl) (by kernel_rfl) (fun _ _ _ _ h => h) (by kernel_rfl) ?_ (by assumption) ?_; rotate_left; (intro wq hSw; (try dsimp only at hSw); go_simp; (try with_reducible rfl)); (try simp only [List.setIfInBounds_toArray, List.set_cons_zero, List.set_cons_succ])
            refine tk_yes (i := 15) (v := ?_) rfl rfl (by kernel_rfl) (by kernel_rfl) (by kernel_rfl) (fun _ _ _ _ h => h) (by kernel_rfl) ?_ (by assumption) ?_; rotate_left; (intro wq hSw; (try dsimp only at hSw); go_simp; (try with_reducible rfl)); (try simp only [List.setIfInBounds_toArray, List.set_cons_zero, List.set_cons_succ])
            refine tk_yes (i := 16) (v := ?_) rfl rfl (by kernel_rfl) (by kernel_rfl) (by kernel_rfl) (fun _ _ _ _ h => h) (by kernel_rfl) ?_ (by assumption) ?_; rotate_left; (intro wq hSw; (try dsimp only at hSw); go_simp; (try with_reducible rfl)); (try simp only [List.setIfInBounds_toArray, List.set_cons_zero, List.set_cons_succ])
            refine tk_yes (i := 17) (v := ?_) rfl rfl (by kernel_rfl) (by kernel_rfl) (by kernel_rfl) (fun _ _ _ _ h => h) (by kernel_rfl) ?_ (by assumption) ?_; rotate_left; (intro wq hSw; (try dsimp only at hSw); go_simp; (try with_reducible rfl)); (try simp only [List.setIfInBounds_toArray, List.set_cons_zero, List.set_cons_succ])
            refine wpAnyH_all (rs := [18]) (by kernel_rfl) (by simp) (fun i hi => ?_); obtain rfl : i = 18 := (by simpa using hi); refine wpOp_step (by rfl) (fun K hK => ?_)
            go_simp
            go_at_call 48
            refine (HCF.out k _ _ (rep_dw ry)).mono ?_
            rintro e w3 ⟨rfl, hb3⟩
            have bb3 := ((Below.refl wr.heap.size wr).drew).trans hb3
            have S3 := (HSL.out w3 bb3)
            try simp only at S3
            refine hK _ _ ⟨S3, ?_⟩
            (try simp only [Act.put, List.setIfInBounds_toArray, List.set_cons_zero, List.set_cons_succ])
            refine tk_yes (i := 19) (v := ?_) rfl rfl (by kernel_rfl) (by kernel_rfl) (by kernel_rfl) (fun _ _ _ _ h => h) (by kernel_rfl) ?_ (by assumption) ?_; rotate_left; (intro wq hSw; (try dsimp only at hSw); go_simp; (try with_reducible rfl)); (try simp only [List.setIfInBounds_toArray, List.set_cons_zero, List.set_cons_succ])
            refine tk_yes (i := 20) (v := ?_) rfl rfl (by kernel_rfl) (by kernel_rfl) (by kernel_rfl) (fun _ _ _ _ h => h) (by kernel_rfl) ?_ (by assumption) ?_; rotate_left; (intro wq hSw; (try dsimp only at hSw); go_simp; (try with_reducible rfl)); (try simp only [List.setIfInBounds_toArray, List.set_cons_zero, List.set_cons_succ])
            refine tk_yes (i := 21) (v := ?_) rfl rfl (by kernel_rfl) (by kernel_rfl) (by kernel_rfl) (fun _ _ _ _ h => h) (by kernel_rfl) ?_ (by assumption) ?_; rotate_left; (intro wq hSw; (try dsimp only at hSw); go_simp; (try with_reducible rfl)); (try simp only [List.setIfInBounds_toArray, List.set_cons_zero, List.set_cons_succ])
            refine tk_no (i := 22) rfl rfl (by kernel_rfl) (by kernel_rfl) (by kernel_rfl) (fun _ _ _ _ h => h) (by kernel_rfl) (by assumption) ?_; (try simp only [List.setIfInBounds_toArray, List.set_cons_zero, List.set_cons_succ])
            refine tk_no (i := 23) rfl rfl (by kernel_rfl) (by kernel_rfl) (by kernel_rfl) (fun _ _ _ _ h => h) (by kernel_rfl) (by assumption) ?_; (try simp only [List.setIfInBounds_toArray, List.set_cons_zero, List.set_cons_succ])
            refine tk_no (i := 24) rfl rfl (by kernel_rfl) (by kernel_rfl) (by kernel_rfl) (fun _ _ _ _ h => h) (by kernel_rfl) (by assumption) ?_; (try simp only [List.setIfInBounds_toArray, List.set_cons_zero, List.set_cons_succ])
            refine tk_no (i := 25) rfl rfl (by kernel_rfl) (by kernel_rfl) (by kernel_rfl) (fun _ _ _ _ h => h) (by kernel_rfl) (by assumption) ?_; (try simp only [List.setIfInBounds_toArray, List.set_cons_zero, List.set_cons_succ])
            refine tk_no (i := 26) rfl rfl (by kernel_rfl) (by kernel_rfl) (by kernel_rfl) (fun _ _ _ _ h => h) (by kernel_rfl) (by assumption) ?_; (try simp only [List.setIfInBounds_toArray, List.set_cons_zero, List.set_cons_succ])
            refine tk_no (i := 27) rfl rfl (by kernel_rfl) (by kernel_rfl) (by kernel_rfl) (fun _ _ _ _ h => h) (by kernel_rfl) (by assumption) ?_; (try simp only [List.setIfInBounds_toArray, List.set_cons_zero, List.set_cons_succ])
            refine tk_no (i := 28) rfl rfl (by kernel_rfl) (by kernel_rfl) (by kernel_rfl) (fun _ _ _ _ h => h) (by kernel_rfl) (by assumption) ?_; (try simp only [List.setIfInBounds_toArray, List.set_cons_zero, List.set_cons_succ])
            refine tk_no (i := 29) rfl rfl (by kernel_rfl) (by kernel_rfl) (by kernel_rfl) (fun _ _ _ _ h => h) (by kernel_rfl) (by assumption) ?_; (try simp only [List.setIfInBounds_toArray, List.set_cons_zero, List.set_cons_succ])
            refine tk_no (i := 30) rfl rfl (by kernel_rfl) (by kernel_rfl) (by kernel_rfl) (fun _ _ _ _ h => h) (by kernel_rfl) (by assumption) ?_; (try simp only [List.setIfInBounds_toArray, List.set_cons_zero, List.set_cons_succ])
            refine tk_yes (i := 31) (v := ?_) rfl rfl (by kernel_rfl) (by kernel_rfl) (by kernel_rfl) (fun _ _ _ _ h => h) (by kernel_rfl) ?_ (by assumption) ?_; rotate_left; (intro wq hSw; (try dsimp only at hSw); go_simp; (try with_reducible rfl)); (try simp only [List.setIfInBounds_toArray, List.set_cons_zero, List.set_cons_succ])
            refine wpAnyH_done (by kernel_rfl) ?_ _
            refine NoPanic.normal ?_
            go_wp2_with fail
            go_ret
            exact ⟨ret_bool HZ.out.symm, bth bb bb3⟩
          have HDP : Hid (depD h 3 k = true) := Lib.hid (by rw [depD_eq HVP.out]; exact hft)
          have HBG := Lib.hid (asm_big hz HDP.out)
          cases hvc : isVec (asm h 3 k)
          · have HZ := Lib.hid (HBAD.out (by rw [HNM.out, hnm, hdu, hft, hvc]; rfl))
            go_wp2_with fail
            refine wp_region_noPanic ?_
            refine wp_region_held_drew (S := (fun W => W.cell? ⟨w.heap.size, 0, none⟩ = some (.slice A p c) ∧ W.cell? ⟨w.heap.size, 1, none⟩ = some (.slice (some ⟨bm, om, none⟩) nm cm) ∧ W.cell? ⟨w.heap.size, 2, none⟩ = some (.slice (some ⟨bs, os, none⟩) ns ca) ∧ W.cell? ⟨w.heap.size, 3, none⟩ = some (.int .i64 h.copies) ∧ W.cell? ⟨bs, os + q, none⟩ = some (.int .i64 k))) (by kernel_rfl) S0 (fun hH => ?_)
            refine tk_yes (i := 0) (v := ?_) rfl rfl (by kernel_rfl) (by kernel_rfl) (by kernel_rfl) (fun _ _ _ _ h => h) (by kernel_rfl) ?_ (by assumption) ?_; rotate_left; (intro wq hSw; (try dsimp only at hSw); go_simp; (try with_reducible rfl)); (try simp only [List.setIfInBounds_toArray, List.set_cons_zero, List.set_cons_succ])
            refine wpAnyH_all (rs := [1]) (by kernel_rfl) (by simp) (fun i hi => ?_); obtain rfl : i = 1 := (by simpa using hi); refine wpOp_step (by rfl) (fun K hK => ?_)
            go_simp
            go_at_call 31
            refine (implIsName_any s _ hs60).mono ?_
            rintro e w2 ⟨rfl, rfl⟩
            refine hK _ _ ⟨S0, ?_⟩
            (try simp only [Act.put, List.setIfInBounds_toArray, List.set_cons_zero, List.set_cons_succ])
            refine tk_yes (i := 2) (v := ?_) rfl rfl (by kernel_rfl) (by kernel_rfl) (by kernel_rfl) (fun _ _ _ _ h => h) (by kernel_rfl) ?_ (by assumption) ?_; rotate_left; (intro wq hSw; (try dsimp only at hSw); go_simp; (try with_reducible rfl)); (try simp only [List.setIfInBounds_toArray, List.set_cons_zero, List.set_cons_succ])
            refine tk_yes (i := 3) (v := ?_) rfl rfl (by kernel_rfl) (by kernel_rfl) (by kernel_rfl) (fun _ _ _ _ h => h) (by kernel_rfl) ?_ (by assumption) ?_; rotate_left; (intro wq hSw; (try dsimp only at hSw); go_simp; (try with_reducible rfl)); (try simp only [List.setIfInBounds_toArray, List.set_cons_zero, List.set_cons_succ])
            refine tk_yes (i := 4) (v := ?_) rfl rfl (by kernel_rfl) (by kernel_rfl) (by kernel_rfl) (fun _ _ _ _ h => h) (by kernel_rfl) ?_ (by assumption) ?_; rotate_left; (intro wq hSw; (try dsimp only at hSw); go_simp; (try with_reducible rfl)); (try simp only [List.setIfInBounds_toArray, List.set_cons_zero, List.set_cons_succ])
            refine tk_yes (i := 5) (v := ?_) rfl rfl (by kernel_rfl) (by kernel_rfl) (by kernel_rfl) (fun _ _ _ _ h => h) (by kernel_rfl) ?_ (by assumption) ?_; rotate_left; (intro wq hSw; (try dsimp only at hSw); go_simp; (try with_reducible rfl)); (try simp only [List.setIfInBounds_toArray, List.set_cons_zero, List.set_cons_succ])
            refine tk_yes (i := 6) (v := ?_) rfl rfl (by kernel_rfl) (by kernel_rfl) (by kernel_rfl) (fun _ _ _ _ h => h) (by kernel_rfl) ?_ (by assumption) ?_; rotate_left; (intro wq hSw; (try dsimp only at hSw); go_simp; (try with_reducible rfl)); (try simp only [List.setIfInBounds_toArray, List.set_cons_zero, List.set_cons_succ])
            refine tk_yes (i := 7) (v := ?_) rfl rfl (by kernel_rfl) (by kernel_rfl) (by kernel_rfl) (fun _ _ _ _ h => h) (by kernel_rfl) ?_ (by assumption) ?_; rotate_left; (intro wq hSw; (try dsimp only at hSw); go_simp; (try with_reducible rfl)); (try simp only [List.setIfInBounds_toArray, List.set_cons_zero, List.set_cons_succ])
            refine tk_yes (i := 8) (v := ?_) rfl rfl (by kernel_rfl) (by kernel_rfl) (by kernel_rfl) (fun _ _ _ _ h => h) (by kernel_rfl) ?_ (by assumption) ?_; rotate_left; (intro wq hSw; (try dsimp only at hSw); go_simp; (try with_reducible rfl)); (try simp only [List.setIfInBounds_toArray, List.set_cons_zero, List.set_cons_succ])
            refine wpAnyH_all (rs := [9]) (by kernel_rfl) (by simp) (fun i hi => ?_); obtain rfl : i = 9 := (by simpa using hi); refine wpOp_step (by rfl) (fun K hK => ?_)
            go_simp
            go_at_call 47
            refine (hasText_b _ _ _ (h.names.take q) s _ RT (by unfold maxLen; omega)).mono ?_
            rintro e w2 ⟨rfl, rfl⟩
            refine hK _ _ ⟨S0, ?_⟩
            (try simp only [Act.put, List.setIfInBounds_toArray, List.set_cons_zero, List.set_cons_succ])
            refine tk_yes (i := 10) (v := ?_) rfl rfl (by kernel_rfl) (by kernel_rfl) (by kernel_rfl) (fun _ _ _ _ h => h) (by kernel_rfl) ?_ (by assumption) ?_; rotate_left; (intro wq hSw; (try dsimp only at hSw); go_simp; (try with_reducible rfl)); (try simp only [List.setIfInBounds_toArray, List.set_cons_zero, List.set_cons_succ])
            refine tk_yes (i := 11) (v := ?_) rfl rfl (by kernel_rfl) (by kernel_rfl) (by kernel_rfl) (fun _ _ _ _ h => h) (by kernel_rfl) ?_ (by assumption) ?_; rotate_left; (intro wq hSw; (try dsimp only at hSw); go_simp; (try with_reducible rfl)); (try simp only [List.setIfInBounds_toArray, List.set_cons_zero, List.set_cons_succ])
            refine tk_yes (i := 12) (v := ?_) rfl rfl (by kernel_rfl) (by kernel_rfl) (by kernel_rfl) (fun _ _ _ _ h => h) (by kernel_rfl) ?_ (by assumption) ?_; rotate_left; (intro wq hSw; (try dsimp only at hSw); go_simp; (try with_reducible rfl)); (try simp only [List.setIfInBounds_toArray, List.set_cons_zero, List.set_cons_succ])
            refine tk_yes (i := 13) (v := ?_) rfl rfl (by kernel_rfl) (by kernel_rfl) (by kernel_rfl) (fun _ _ _ _ h => h) (by kernel_rfl) ?_ (by assumption) ?_; rotate_left; (intro wq hSw; (try dsimp only at hSw); go_simp; (try with_reducible rfl)); (try simp only [List.setIfInBounds_toArray, List.set_cons_zero, List.set_cons_succ])
            refine tk_yes (i := 14) (v := ?_) rfl rfl (by kernel_rfl) (by kernel_rfl) (by kernel_rfl) (fun _ _ _ _ h => h) (by kernel_rfl) ?_ (by assumption) ?_; rotate_left; (intro wq hSw; (try dsimp only at hSw); go_simp; (try with_reducible rfl)); (try simp only [List.setIfInBounds_toArray, List.set_cons_zero, List.set_cons_succ])
            refine tk_yes (i := 15) (v := ?_) rfl rfl (by kernel_rfl) (by kernel_rfl) (by kernel_rfl) (fun _ _ _ _ h => h) (by kernel_rfl) ?_ (by assumption) ?_; rotate_left; (intro wq hSw; (try dsimp only at hSw); go_simp; (try with_reducible rfl)); (try simp only [List.setIfInBounds_toArray, List.set_cons_zero, List.set_cons_succ])
            refine tk_yes (i := 16) (v := ?_) rfl rfl (by kernel_rfl) (by kernel_rfl) (by kernel_rfl) (fun _ _ _ _ h => h) (by kernel_rfl) ?_ (by assumption) ?_; rotate_left; (intro wq hSw; (try dsimp only at hSw); go_simp; (try with_reducible rfl)); (try simp only [List.setIfInBounds_toArray, List.set_cons_zero, List.set_cons_succ])
            refine tk_yes (i := 17) (v := ?_) rfl rfl (by kernel_rfl) (by kernel_rfl) (by kernel_rfl) (fun _ _ _ _ h => h) (by kernel_rfl) ?_ (by assumption) ?_; rotate_left; (intro wq hSw; (try dsimp only at hSw); go_simp; (try with_reducible rfl)); (try simp only [List.setIfInBounds_toArray, List.set_cons_zero, List.set_cons_succ])
            refine wpAnyH_all (rs := [18]) (by kernel_rfl) (by simp) (fun i hi => ?_); obtain rfl : i = 18 := (by simpa using hi); refine wpOp_step (by rfl) (fun K hK => ?_)
            go_simp
            go_at_call 48
            refine (HCF.out k _ _ (rep_dw ry)).mono ?_
            rintro e w3 ⟨rfl, hb3⟩
            have bb3 := ((Below.refl wr.heap.size wr).drew).trans hb3
            have S3 := (HSL.out w3 bb3)
            try simp only at S3
            refine hK _ _ ⟨S3, ?_⟩
            (try simp only [Act.put, List.setIfInBounds_toArray, List.set_cons_zero, List.set_cons_succ])
            refine tk_yes (i := 19) (v := ?_) rfl rfl (by kernel_rfl) (by kernel_rfl) (by kernel_rfl) (fun _ _ _ _ h => h) (by kernel_rfl) ?_ (by assumption) ?_; rotate_left; (intro wq hSw; (try dsimp only at hSw); go_simp; (try with_reducible rfl)); (try simp only [List.setIfInBounds_toArray, List.set_cons_zero, List.set_cons_succ])
            refine tk_yes (i := 20) (v := ?_) rfl rfl (by kernel_rfl) (by kernel_rfl) (by kernel_rfl) (fun _ _ _ _ h => h) (by kernel_rfl) ?_ (by assumption) ?_; rotate_left; (intro wq hSw; (try dsimp only at hSw); go_simp; (try with_reducible rfl)); (try simp only [List.setIfInBounds_toArray, List.set_cons_zero, List.set_cons_succ])
            refine tk_yes (i := 21) (v := ?_) rfl rfl (by kernel_rfl) (by kernel_rfl) (by kernel_rfl) (fun _ _ _ _ h => h) (by kernel_rfl) ?_ (by assumption) ?_; rotate_left; (intro wq hSw; (try dsimp only at hSw); go_simp; (try with_reducible rfl)); (try simp only [List.setIfInBounds_toArray, List.set_cons_zero, List.set_cons_succ])
            refine tk_yes (i := 22) (v := ?_) rfl rfl (by kernel_rfl) (by kernel_rfl) (by kernel_rfl) (fun _ _ _ _ h => h) (by kernel_rfl) ?_ (by assumption) ?_; rotate_left; (intro wq hSw; (try dsimp only at hSw); go_simp; (try with_reducible rfl)); (try simp only [List.setIfInBounds_toArray, List.set_cons_zero, List.set_cons_succ])
            refine tk_yes (i := 23) (v := ?_) rfl rfl (by kernel_rfl) (by kernel_rfl) (by kernel_rfl) (fun _ _ _ _ h => h) (by kernel_rfl) ?_ (by assumption) ?_; rotate_left; (intro wq hSw; (try dsimp only at hSw); go_simp; (try with_reducible rfl)); (try simp only [List.setIfInBounds_toArray, List.set_cons_zero, List.set_cons_succ])
            refine tk_yes (i := 24) (v := ?_) rfl rfl (by kernel_rfl) (by kernel_rfl) (by kernel_rfl) (fun _ _ _ _ h => h) (by kernel_rfl) ?_ (by assumption) ?_; rotate_left; (intro wq hSw; (try dsimp only at hSw); go_simp; (try with_reducible rfl)); (try simp only [List.setIfInBounds_toArray, List.set_cons_zero, List.set_cons_succ])
            refine tk_yes (i := 25) (v := ?_) rfl rfl (by kernel_rfl) (by kernel_rfl) (by kernel_rfl) (fun _ _ _ _ h => h) (by kernel_rfl) ?_ (by assumption) ?_; rotate_left; (intro wq hSw; (try dsimp only at hSw); go_simp; (try with_reducible rfl)); (try simp only [List.setIfInBounds_toArray, List.set_cons_zero, List.set_cons_succ])
            refine tk_yes (i := 26) (v := ?_) rfl rfl (by kernel_rfl) (by kernel_rfl) (by kernel_rfl) (fun _ _ _ _ h => h) (by kernel_rfl) ?_ (by assumption) ?_; rotate_left; (intro wq hSw; (try dsimp only at hSw); go_simp; (try with_reducible rfl)); (try simp only [List.setIfInBounds_toArray, List.set_cons_zero, List.set_cons_succ])
            refine tk_yes (i := 27) (v := ?_) rfl rfl (by kernel_rfl) (by kernel_rfl) (by kernel_rfl) (fun _ _ _ _ h => h) (by kernel_rfl) ?_ (by assumption) ?_; rotate_left; (intro wq hSw; (try dsimp only at hSw); go_simp; (try with_reducible rfl)); (try simp only [List.setIfInBounds_toArray, List.set_cons_zero, List.set_cons_succ])
            refine wpAnyH_all (rs := [28]) (by kernel_rfl) (by simp) (fun i hi => ?_); obtain rfl : i = 28 := (by simpa using hi); refine wpOp_step (by rfl) (fun K hK => ?_)
            go_simp
            go_at_call 49
            refine (HAS.out k _ _ (rep_next (w := wr.drew) (rep_dw ry) hb3) HDP.out).mono ?_
            rintro e w4 ⟨cs4, F4, rfl, o4, fr4, hb4⟩
            have bb4 := bth bb3 hb4
            have S4 := (HSL.out w4 bb4)
            try simp only at S4
            refine hK _ _ ⟨S4, ?_⟩
            (try simp only [Act.put, List.setIfInBounds_toArray, List.set_cons_zero, List.set_cons_succ])
            refine wpAnyH_all (rs := [29]) (by kernel_rfl) (by simp) (fun i hi => ?_); obtain rfl : i = 29 := (by simpa using hi); refine wpOp_step (by rfl) (fun K hK => ?_)
            go_simp
            go_at_call 32
            refine (implIsVector_any _ _ _ (own_rep _ _ _ _ o4) HBG.out).mono ?_
            rintro e w5 ⟨rfl, hb5⟩
            have bb5 := bth bb4 hb5
            have S5 := (HSL.out w5 bb5)
            try simp only at S5
            refine hK _ _ ⟨S5, ?_⟩
            (try simp only [Act.put, List.setIfInBounds_toArray, List.set_cons_zero, List.set_cons_succ])
            refine tk_yes (i := 30) (v := ?_) rfl rfl (by kernel_rfl) (by kernel_rfl) (by kernel_rfl) (fun _ _ _ _ h => h) (by kernel_rfl) ?_ (by assumption) ?_; rotate_left; (intro wq hSw; (try dsimp only at hSw); go_simp; (try with_reducible rfl)); (try simp only [List.setIfInBounds_toArray, List.set_cons_zero, List.set_cons_succ])
            refine tk_yes (i := 31) (v := ?_) rfl rfl (by kernel_rfl) (by kernel_rfl) (by kernel_rfl) (fun _ _ _ _ h => h) (by kernel_rfl) ?_ (by assumption) ?_; rotate_left; (intro wq hSw; (try dsimp only at hSw); go_simp; (try with_reducible rfl)); (try simp only [List.setIfInBounds_toArray, List.set_cons_zero, List.set_cons_succ])
            refine wpAnyH_done (by kernel_rfl) ?_ _
            refine NoPanic.normal ?_
            go_wp2_with fail
            go_ret
            exact ⟨ret_bool HZ.out.symm, bth bb bb5⟩
          · have HY := Lib.hid (show namOK h q s ((h.slots[q]?).getD 0) = true by rw [HNM.out, hnm, hdu, hft, hvc]; rfl)
            go_wp2_with fail
            refine wp_region_noPanic ?_
            refine wp_region_held_drew (S := (fun W => W.cell? ⟨w.heap.size, 0, none⟩ = some (.slice A p c) ∧ W.cell? ⟨w.heap.size, 1, none⟩ = some (.slice (some ⟨bm, om, none⟩) nm cm) ∧ W.cell? ⟨w.heap.size, 2, none⟩ = some (.slice (some ⟨bs, os, none⟩) ns ca) ∧ W.cell? ⟨w.heap.size, 3, none⟩ = some (.int .i64 h.copies) ∧ W.cell? ⟨bs, os + q, none⟩ = some (.int .i64 k))) (by kernel_rfl) S0 (fun hH => ?_)
            refine tk_yes (i := 0) (v := ?_) rfl rfl (by kernel_rfl) (by kernel_rfl) (by kernel_rfl) (fun _ _ _ _ h => h) (by kernel_rfl) ?_ (by assumption) ?_; rotate_left; (intro wq hSw; (try dsimp only at hSw); go_simp; (try with_reducible rfl)); (try simp only [List.setIfInBounds_toArray, List.set_cons_zero, List.set_cons_succ])
            refine wpAnyH_all (rs := [1]) (by kernel_rfl) (by simp) (fun i hi => ?_); obtain rfl : i = 1 := (by simpa using hi); refine wpOp_step (by rfl) (fun K hK => ?_)
            go_simp
            go_at_call 31
            refine (implIsName_any s _ hs60).mono ?_
            rintro e w2 ⟨rfl, rfl⟩
            refine hK _ _ ⟨S0, ?_⟩
            (try simp only [Act.put, List.setIfInBounds_toArray, List.set_cons_zero, List.set_cons_succ])
            refine tk_yes (i := 2) (v := ?_) rfl rfl (by kernel_rfl) (by kernel_rfl) (by kernel_rfl) (fun _ _ _ _ h => h) (by kernel_rfl) ?_ (by assumption) ?_; rotate_left; (intro wq hSw; (try dsimp only at hSw); go_simp; (try with_reducible rfl)); (try simp only [List.setIfInBounds_toArray, List.set_cons_zero, List.set_cons_succ])
            refine tk_yes (i := 3) (v := ?_) rfl rfl (by kernel_rfl) (by kernel_rfl) (by kernel_rfl) (fun _ _ _ _ h => h) (by kernel_rfl) ?_ (by assumption) ?_; rotate_left; (intro wq hSw; (try dsimp only at hSw); go_simp; (try with_reducible rfl)); (try simp only [List.setIfInBounds_toArray, List.set_cons_zero, List.set_cons_succ])
            refine tk_yes (i := 4) (v := ?_) rfl rfl (by kernel_rfl) (by kernel_rfl) (by kernel_rfl) (fun _ _ _ _ h => h) (by kernel_rfl) ?_ (by assumption) ?_; rotate_left; (intro wq hSw; (try dsimp only at hSw); go_simp; (try with_reducible rfl)); (try simp only [List.setIfInBounds_toArray, List.set_cons_zero, List.set_cons_succ])
            refine tk_yes (i := 5) (v := ?_) rfl rfl (by kernel_rfl) (by kernel_rfl) (by kernel_rfl) (fun _ _ _ _ h => h) (by kernel_rfl) ?_ (by assumption) ?_; rotate_left; (intro wq hSw; (try dsimp only at hSw); go_simp; (try with_reducible rfl)); (try simp only [List.setIfInBounds_toArray, List.set_cons_zero, List.set_cons_succ])
            refine tk_yes (i := 6) (v := ?_) rfl rfl (by kernel_rfl) (by kernel_rfl) (by kernel_rfl) (fun _ _ _ _ h => h) (by kernel_rfl) ?_ (by assumption) ?_; rotate_left; (intro wq hSw; (try dsimp only at hSw); go_simp; (try with_reducible rfl)); (try simp only [List.setIfInBounds_toArray, List.set_cons_zero, List.set_cons_succ])
            refine tk_yes (i := 7) (v := ?_) rfl rfl (by kernel_rfl) (by kernel_rfl) (by kernel_rfl) (fun _ _ _ _ h => h) (by kernel_rfl) ?_ (by assumption) ?_; rotate_left; (intro wq hSw; (try dsimp only at hSw); go_simp; (try with_reducible rfl)); (try simp only [List.setIfInBounds_toArray, List.set_cons_zero, List.set_cons_succ])
            refine tk_yes (i := 8) (v := ?_) rfl rfl (by kernel_rfl) (by kernel_rfl) (by kernel_rfl) (fun _ _ _ _ h => h) (by kernel_rfl) ?_ (by assumption) ?_; rotate_left; (intro wq hSw; (try dsimp only at hSw); go_simp; (try with_reducible rfl)); (try simp only [List.setIfInBounds_toArray, List.set_cons_zero, List.set_cons_succ])
            refine wpAnyH_all (rs := [9]) (by kernel_rfl) (by simp) (fun i hi => ?_); obtain rfl : i = 9 := (by simpa using hi); refine wpOp_step (by rfl) (fun K hK => ?_)
            go_simp
            go_at_call 47
            refine (hasText_b _ _ _ (h.names.take q) s _ RT (by unfold maxLen; omega)).mono ?_
            rintro e w2 ⟨rfl, rfl⟩
            refine hK _ _ ⟨S0, ?_⟩
            (try simp only [Act.put, List.setIfInBounds_toArray, List.set_cons_zero, List.set_cons_succ])
            refine tk_yes (i := 10) (v := ?_) rfl rfl (by kernel_rfl) (by kernel_rfl) (by kernel_rfl) (fun _ _ _ _ h => h) (by kernel_rfl) ?_ (by assumption) ?_; rotate_left; (intro wq hSw; (try dsimp only at hSw); go_simp; (try with_reducible rfl)); (try simp only [List.setIfInBounds_toArray, List.set_cons_zero, List.set_cons_succ])
            refine tk_yes (i := 11) (v := ?_) rfl rfl (by kernel_rfl) (by kernel_rfl) (by kernel_rfl) (fun _ _ _ _ h => h) (by kernel_rfl) ?_ (by assumption) ?_; rotate_left; (intro wq hSw; (try dsimp only at hSw); go_simp; (try with_reducible rfl)); (try simp only [List.setIfInBounds_toArray, List.set_cons_zero, List.set_cons_succ])
            refine tk_yes (i := 12) (v := ?_) rfl rfl (by kernel_rfl) (by kernel_rfl) (by kernel_rfl) (fun _ _ _ _ h => h) (by kernel_rfl) ?_ (by assumption) ?_; rotate_left; (intro wq hSw; (try dsimp only at hSw); go_simp; (try with_reducible rfl)); (try simp only [List.setIfInBounds_toArray, List.set_cons_zero, List.set_cons_succ])
            refine tk_yes (i := 13) (v := ?_) rfl rfl (by kernel_rfl) (by kernel_rfl) (by kernel_rfl) (fun _ _ _ _ h => h) (by kernel_rfl) ?_ (by assumption) ?_; rotate_left; (intro wq hSw; (try dsimp only at hSw); go_simp; (try with_reducible rfl)); (try simp only [List.setIfInBounds_toArray, List.set_cons_zero, List.set_cons_succ])
            refine tk_yes (i := 14) (v := ?_) rfl rfl (by kernel_rfl) (by kernel_rfl) (by kernel_rfl) (fun _ _ _ _ h => h) (by kernel_rfl) ?_ (by assumption) ?_; rotate_left; (intro wq hSw; (try dsimp only at hSw); go_simp; (try with_reducible rfl)); (try simp only [List.setIfInBounds_toArray, List.set_cons_zero, List.set_cons_succ])
            refine tk_yes (i := 15) (v := ?_) rfl rfl (by kernel_rfl) (by kernel_rfl) (by kernel_rfl) (fun _ _ _ _ h => h) (by kernel_rfl) ?_ (by assumption) ?_; rotate_left; (intro wq hSw; (try dsimp only at hSw); go_simp; (try with_reducible rfl)); (try simp only [List.setIfInBounds_toArray, List.set_cons_zero, List.set_cons_succ])
            refine tk_yes (i := 16) (v := ?_) rfl rfl (by kernel_rfl) (by kernel_rfl) (by kernel_rfl) (fun _ _ _ _ h => h) (by kernel_rfl) ?_ (by assumption) ?_; rotate_left; (intro wq hSw; (try dsimp only at hSw); go_simp; (try with_reducible rfl)); (try simp only [List.setIfInBounds_toArray, List.set_cons_zero, List.set_cons_succ])
            refine tk_yes (i := 17) (v := ?_) rfl rfl (by kernel_rfl) (by kernel_rfl) (by kernel_rfl) (fun _ _ _ _ h => h) (by kernel_rfl) ?_ (by assumption) ?_; rotate_left; (intro wq hSw; (try dsimp only at hSw); go_simp; (try with_reducible rfl)); (try simp only [List.setIfInBounds_toArray, List.set_cons_zero, List.set_cons_succ])
            refine wpAnyH_all (rs := [18]) (by kernel_rfl) (by simp) (fun i hi => ?_); obtain rfl : i = 18 := (by simpa using hi); refine wpOp_step (by rfl) (fun K hK => ?_)
            go_simp
            go_at_call 48
            refine (HCF.out k _ _ (rep_dw ry)).mono ?_
            rintro e w3 ⟨rfl, hb3⟩
            have bb3 := ((Below.refl wr.heap.size wr).drew).trans hb3
            have S3 := (HSL.out w3 bb3)
            try simp only at S3
            refine hK _ _ ⟨S3, ?_⟩
            (try simp only [Act.put, List.setIfInBounds_toArray, List.set_cons_zero, List.set_cons_succ])
            refine tk_yes (i := 19) (v := ?_) rfl rfl (by kernel_rfl) (by kernel_rfl) (by kernel_rfl) (fun _ _ _ _ h => h) (by kernel_rfl) ?_ (by assumption) ?_; rotate_left; (intro wq hSw; (try dsimp only at hSw); go_simp; (try with_reducible rfl)); (try simp only [List.setIfInBounds_toArray, List.set_cons_zero, List.set_cons_succ])
            refine tk_yes (i := 20) (v := ?_) rfl rfl (by kernel_rfl) (by kernel_rfl) (by kernel_rfl) (fun _ _ _ _ h => h) (by kernel_rfl) ?_ (by assumption) ?_; rotate_left; (intro wq hSw; (try dsimp only at hSw); go_simp; (try with_reducible rfl)); (try simp only [List.setIfInBounds_toArray, List.set_cons_zero, List.set_cons_succ])
            refine tk_yes (i := 21) (v := ?_) rfl rfl (by kernel_rfl) (by kernel_rfl) (by kernel_rfl) (fun _ _ _ _ h => h) (by kernel_rfl) ?_ (by assumption) ?_; rotate_left; (intro wq hSw; (try dsimp only at hSw); go_simp; (try with_reducible rfl)); (try simp only [List.setIfInBounds_toArray, List.set_cons_zero, List.set_cons_succ])
            refine tk_yes (i := 22) (v := ?_) rfl rfl (by kernel_rfl) (by kernel_rfl) (by kernel_rfl) (fun _ _ _ _ h => h) (by kernel_rfl) ?_ (by assumption) ?_; rotate_left; (intro wq hSw; (try dsimp only at hSw); go_simp; (try with_reducible rfl)); (try simp only [List.setIfInBounds_toArray, List.set_cons_zero, List.set_cons_succ])
            refine tk_yes (i := 23) (v := ?_) rfl rfl (by kernel_rfl) (by kernel_rfl) (by kernel_rfl) (fun _ _ _ _ h => h) (by kernel_rfl) ?_ (by assumption) ?_; rotate_left; (intro wq hSw; (try dsimp only at hSw); go_simp; (try with_reducible rfl)); (try simp only [List.setIfInBounds_toArray, List.set_cons_zero, List.set_cons_succ])
            refine tk_yes (i := 24) (v := ?_) rfl rfl (by kernel_rfl) (by kernel_rfl) (by kernel_rfl) (fun _ _ _ _ h => h) (by kernel_rfl) ?_ (by assumption) ?_; rotate_left; (intro wq hSw; (try dsimp only at hSw); go_simp; (try with_reducible rfl)); (try simp only [List.setIfInBounds_toArray, List.set_cons_zero, List.set_cons_succ])
            refine tk_yes (i := 25) (v := ?_) rfl rfl (by kernel_rfl) (by kernel_rfl) (by kernel_rfl) (fun _ _ _ _ h => h) (by kernel_rfl) ?_ (by assumption) ?_; rotate_left; (intro wq hSw; (try dsimp only at hSw); go_simp; (try with_reducible rfl)); (try simp only [List.setIfInBounds_toArray, List.set_cons_zero, List.set_cons_succ])
            refine tk_yes (i := 26) (v := ?_) rfl rfl (by kernel_rfl) (by kernel_rfl) (by kernel_rfl) (fun _ _ _ _ h => h) (by kernel_rfl) ?_ (by assumption) ?_; rotate_left; (intro wq hSw; (try dsimp only at hSw); go_simp; (try with_reducible rfl)); (try simp only [List.setIfInBounds_toArray, List.set_cons_zero, List.set_cons_succ])
            refine tk_yes (i := 27) (v := ?_) rfl rfl (by kernel_rfl) (by kernel_rfl) (by kernel_rfl) (fun _ _ _ _ h => h) (by kernel_rfl) ?_ (by assumption) ?_; rotate_left; (intro wq hSw; (try dsimp only at hSw); go_simp; (try with_reducible rfl)); (try simp only [List.setIfInBounds_toArray, List.set_cons_zero, List.set_cons_succ])
            refine wpAnyH_all (rs := [28]) (by kernel_rfl) (by simp) (fun i hi => ?_); obtain rfl : i = 28 := (by simpa using hi); refine wpOp_step (by rfl) (fun K hK => ?_)
            go_simp
            go_at_call 49
            refine (HAS.out k _ _ (rep_next (w := wr.drew) (rep_dw ry) hb3) HDP.out).mono ?_
            rintro e w4 ⟨cs4, F4, rfl, o4, fr4, hb4⟩
            have bb4 := bth bb3 hb4
            have S4 := (HSL.out w4 bb4)
            try simp only at S4
            refine hK _ _ ⟨S4, ?_⟩
            (try simp only [Act.put, List.setIfInBounds_toArray, List.set_cons_zero, List.set_cons_succ])
            refine wpAnyH_all (rs := [29]) (by kernel_rfl) (by simp) (fun i hi => ?_); obtain rfl : i = 29 := (by simpa using hi); refine wpOp_step (by rfl) (fun K hK => ?_)
            go_simp
            go_at_call 32
            refine (implIsVector_any _ _ _ (own_rep _ _ _ _ o4) HBG.out).mono ?_
            rintro e w5 ⟨rfl, hb5⟩
            have bb5 := bth bb4 hb5
            have S5 := (HSL.out w5 bb5)
            try simp only at S5
            refine hK _ _ ⟨S5, ?_⟩
            (try simp only [Act.put, List.setIfInBounds_toArray, List.set_cons_zero, List.set_cons_succ])
            refine tk_yes (i := 30) (v := ?_) rfl rfl (by kernel_rfl) (by kernel_rfl) (by kernel_rfl) (fun _ _ _ _ h => h) (by kernel_rfl) ?_ (by assumption) ?_; rotate_left; (intro wq hSw; (try dsimp only at hSw); go_simp; (try with_reducible rfl)); (try simp only [List.setIfInBounds_toArray, List.set_cons_zero, List.set_cons_succ])
            refine tk_yes (i := 31) (v := ?_) rfl rfl (by kernel_rfl) (by kernel_rfl) (by kernel_rfl) (fun _ _ _ _ h => h) (by kernel_rfl) ?_ (by assumption) ?_; rotate_left; (intro wq hSw; (try dsimp only at hSw); go_simp; (try with_reducible rfl)); (try simp only [List.setIfInBounds_toArray, List.set_cons_zero, List.set_cons_succ])
            refine wpAnyH_done (by kernel_rfl) ?_ _
            refine NoPanic.normal ?_
            go_wp2_with fail
            go_roundw
            case rel => exact ⟨q + 1, by omega, by go_num, nm_snoc HNK.out HSX.out HY.out, kh.next bb5, bth bb bb5⟩
            case measure => simp [intOf]; omega
        · obtain rfl : q = nm := by omega
          go_wp2_with fail
          go_ret
          exact ⟨ret_bool (heapOK_yes (by rw [HL1.out, HL2.out]; exact HNN.out) (by omega) HAL.out (by rw [HL.out]; exact HCL.out) (allFrom_yes (fun i s hi hx => HNK.out i s (by rw [HL1.out] at hi; exact hi) hx))).symm, bb⟩
end Go.Proofs.Ytekcpadlmfaihaa
