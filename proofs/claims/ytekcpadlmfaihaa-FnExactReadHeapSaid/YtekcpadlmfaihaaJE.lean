/- The struct Cell as data; what its cells are; the law's own functions sz, to, eq over it. The struct Heap as data; what its cells are; the law's own functions sz, to, eq over it. -/
import Derived.Test.YtekcpadlmfaihaaJD
set_option linter.unusedSimpArgs false
set_option linter.unusedVariables false
namespace Go.Proofs.Ytekcpadlmfaihaa
open Go.RowKit
structure Cel where
  count : Int
  value : Vec
  parts : List Int
def Cel.toD (x : Cel) : D := .st [.i .i64 x.count, x.value.toD, .sl (x.parts.map (.i .i64))]
theorem Cell_toD (x : Cel) : x.toD = .st [.i .i64 x.count, x.value.toD, .sl (x.parts.map (.i .i64))] := by first | rfl | exact toD_eq x
theorem Cell_open {w : World} {B : Nat} {x : Cel} {cs : List Value} (h : rep w B x.toD cs) : ∃ (Aitemsvalue_ : Option Addr) (nitemsvalue_ : Nat) (citemsvalue_ : Nat) (Apartsvalue_ : Option Addr) (npartsvalue_ : Nat) (cpartsvalue_ : Nat) (Anamesvalue_ : Option Addr) (nnamesvalue_ : Nat) (cnamesvalue_ : Nat) (Aclsvalue_ : Option Addr) (nclsvalue_ : Nat) (cclsvalue_ : Nat) (Alevelsvalue_ : Option Addr) (nlevelsvalue_ : Nat) (clevelsvalue_ : Nat) (Aparts : Option Addr) (nparts : Nat) (cparts : Nat), cs = [.int .i64 x.count, .int .i64 x.value.kind, .slice Aitemsvalue_ nitemsvalue_ citemsvalue_, .slice Apartsvalue_ npartsvalue_ cpartsvalue_, .slice Anamesvalue_ nnamesvalue_ cnamesvalue_, .slice Aclsvalue_ nclsvalue_ cclsvalue_, .slice Alevelsvalue_ nlevelsvalue_ clevelsvalue_, .int .i64 x.value.code, .int .i64 x.value.env, .slice Aparts nparts cparts] ∧ (Lit.int .i64 x.count).wf = true ∧ rep w B x.value.toD [.int .i64 x.value.kind, .slice Aitemsvalue_ nitemsvalue_ citemsvalue_, .slice Apartsvalue_ npartsvalue_ cpartsvalue_, .slice Anamesvalue_ nnamesvalue_ cnamesvalue_, .slice Aclsvalue_ nclsvalue_ cclsvalue_, .slice Alevelsvalue_ nlevelsvalue_ clevelsvalue_, .int .i64 x.value.code, .int .i64 x.value.env] ∧ rep w B (.sl (x.parts.map (.i .i64))) [.slice Aparts nparts cparts] := by
  rw [Cell_toD, rep] at h
  obtain ⟨css, rfl, h⟩ := h
  rw [repL] at h
  obtain ⟨c0, css, rfl, k0, h⟩ := h
  rw [repL] at h
  obtain ⟨c1, css, rfl, k1, h⟩ := h
  rw [repL] at h
  obtain ⟨c2, css, rfl, k2, h⟩ := h
  rw [repL] at h
  subst h
  rw [rep] at k0
  obtain ⟨rfl, k0⟩ := k0
  obtain ⟨v1Aitemsvalue_, v1nitemsvalue_, v1citemsvalue_, v1Apartsvalue_, v1npartsvalue_, v1cpartsvalue_, v1Anamesvalue_, v1nnamesvalue_, v1cnamesvalue_, v1Aclsvalue_, v1nclsvalue_, v1cclsvalue_, v1Alevelsvalue_, v1nlevelsvalue_, v1clevelsvalue_, rfl, _⟩ := Vector_open k1
  obtain ⟨A2, n2, d2, rfl⟩ := rep_sl_val k2
  exact ⟨v1Aitemsvalue_, v1nitemsvalue_, v1citemsvalue_, v1Apartsvalue_, v1npartsvalue_, v1cpartsvalue_, v1Anamesvalue_, v1nnamesvalue_, v1cnamesvalue_, v1Aclsvalue_, v1nclsvalue_, v1cclsvalue_, v1Alevelsvalue_, v1nlevelsvalue_, v1clevelsvalue_, A2, n2, d2, rfl, k0, k1, k2⟩
theorem Cell_shut {w : World} {B : Nat} {x : Cel} {Aitemsvalue_ : Option Addr} {nitemsvalue_ : Nat} {citemsvalue_ : Nat} {Apartsvalue_ : Option Addr} {npartsvalue_ : Nat} {cpartsvalue_ : Nat} {Anamesvalue_ : Option Addr} {nnamesvalue_ : Nat} {cnamesvalue_ : Nat} {Aclsvalue_ : Option Addr} {nclsvalue_ : Nat} {cclsvalue_ : Nat} {Alevelsvalue_ : Option Addr} {nlevelsvalue_ : Nat} {clevelsvalue_ : Nat} {Aparts : Option Addr} {nparts : Nat} {cparts : Nat} (wcount : (Lit.int .i64 x.count).wf = true) (rvalue : rep w B x.value.toD [.int .i64 x.value.kind, .slice Aitemsvalue_ nitemsvalue_ citemsvalue_, .slice Apartsvalue_ npartsvalue_ cpartsvalue_, .slice Anamesvalue_ nnamesvalue_ cnamesvalue_, .slice Aclsvalue_ nclsvalue_ cclsvalue_, .slice Alevelsvalue_ nlevelsvalue_ clevelsvalue_, .int .i64 x.value.code, .int .i64 x.value.env]) (rparts : rep w B (.sl (x.parts.map (.i .i64))) [.slice Aparts nparts cparts]) : rep w B x.toD [.int .i64 x.count, .int .i64 x.value.kind, .slice Aitemsvalue_ nitemsvalue_ citemsvalue_, .slice Apartsvalue_ npartsvalue_ cpartsvalue_, .slice Anamesvalue_ nnamesvalue_ cnamesvalue_, .slice Aclsvalue_ nclsvalue_ cclsvalue_, .slice Alevelsvalue_ nlevelsvalue_ clevelsvalue_, .int .i64 x.value.code, .int .i64 x.value.env, .slice Aparts nparts cparts] := by
  rw [Cell_toD, rep]
  exact ⟨[[.int .i64 x.count], [.int .i64 x.value.kind, .slice Aitemsvalue_ nitemsvalue_ citemsvalue_, .slice Apartsvalue_ npartsvalue_ cpartsvalue_, .slice Anamesvalue_ nnamesvalue_ cnamesvalue_, .slice Aclsvalue_ nclsvalue_ cclsvalue_, .slice Alevelsvalue_ nlevelsvalue_ clevelsvalue_, .int .i64 x.value.code, .int .i64 x.value.env], [.slice Aparts nparts cparts]], rfl, repL_cons.2 ⟨by rw [rep]; exact ⟨rfl, wcount⟩, repL_cons.2 ⟨rvalue, repL_cons.2 ⟨rparts, repL_nil⟩⟩⟩⟩
theorem Cell_own {w : World} {x : Cel} {Aitemsvalue_ : Option Addr} {nitemsvalue_ : Nat} {citemsvalue_ : Nat} {Apartsvalue_ : Option Addr} {npartsvalue_ : Nat} {cpartsvalue_ : Nat} {Anamesvalue_ : Option Addr} {nnamesvalue_ : Nat} {cnamesvalue_ : Nat} {Aclsvalue_ : Option Addr} {nclsvalue_ : Nat} {cclsvalue_ : Nat} {Alevelsvalue_ : Option Addr} {nlevelsvalue_ : Nat} {clevelsvalue_ : Nat} {Aparts : Option Addr} {nparts : Nat} {cparts : Nat} {Fvalue Fparts : List Nat} (wcount : (Lit.int .i64 x.count).wf = true) (rvalue : own Try.prog w (x.value.toD) 34 Fvalue [.int .i64 x.value.kind, .slice Aitemsvalue_ nitemsvalue_ citemsvalue_, .slice Apartsvalue_ npartsvalue_ cpartsvalue_, .slice Anamesvalue_ nnamesvalue_ cnamesvalue_, .slice Aclsvalue_ nclsvalue_ cclsvalue_, .slice Alevelsvalue_ nlevelsvalue_ clevelsvalue_, .int .i64 x.value.code, .int .i64 x.value.env]) (rparts : own Try.prog w (.sl (x.parts.map (.i .i64))) 41 Fparts [.slice Aparts nparts cparts]) : own Try.prog w x.toD 71 (Fvalue ++ (Fparts ++ [])) [.int .i64 x.count, .int .i64 x.value.kind, .slice Aitemsvalue_ nitemsvalue_ citemsvalue_, .slice Apartsvalue_ npartsvalue_ cpartsvalue_, .slice Anamesvalue_ nnamesvalue_ cnamesvalue_, .slice Aclsvalue_ nclsvalue_ cclsvalue_, .slice Alevelsvalue_ nlevelsvalue_ clevelsvalue_, .int .i64 x.value.code, .int .i64 x.value.env, .slice Aparts nparts cparts] := by
  rw [Cell_toD, own]
  exact ⟨_, [[.int .i64 x.count], [.int .i64 x.value.kind, .slice Aitemsvalue_ nitemsvalue_ citemsvalue_, .slice Apartsvalue_ npartsvalue_ cpartsvalue_, .slice Anamesvalue_ nnamesvalue_ cnamesvalue_, .slice Aclsvalue_ nclsvalue_ cclsvalue_, .slice Alevelsvalue_ nlevelsvalue_ clevelsvalue_, .int .i64 x.value.code, .int .i64 x.value.env], [.slice Aparts nparts cparts]], Try.underlying71, rfl, (ownL_cons (F1 := []) (by rw [own]; exact ⟨rfl, rfl, wcount⟩) (ownL_cons rvalue (ownL_cons rparts ownL_nil)))⟩
theorem Cell_at {w : World} {B : Nat} {l : List Cel} {A : Option Addr} {n c k : Nat} (h : rep w B (.sl (l.map Cel.toD)) [.slice A n c]) (hk : k < n) :
    ∃ (b off : Nat) (x : Cel) (Aitemsvalue_ : Option Addr) (nitemsvalue_ : Nat) (citemsvalue_ : Nat) (Apartsvalue_ : Option Addr) (npartsvalue_ : Nat) (cpartsvalue_ : Nat) (Anamesvalue_ : Option Addr) (nnamesvalue_ : Nat) (cnamesvalue_ : Nat) (Aclsvalue_ : Option Addr) (nclsvalue_ : Nat) (cclsvalue_ : Nat) (Alevelsvalue_ : Option Addr) (nlevelsvalue_ : Nat) (clevelsvalue_ : Nat) (Aparts : Option Addr) (nparts : Nat) (cparts : Nat), A = some ⟨b, off, none⟩ ∧ b < B ∧ l[k]? = some x ∧ rep w B x.toD [.int .i64 x.count, .int .i64 x.value.kind, .slice Aitemsvalue_ nitemsvalue_ citemsvalue_, .slice Apartsvalue_ npartsvalue_ cpartsvalue_, .slice Anamesvalue_ nnamesvalue_ cnamesvalue_, .slice Aclsvalue_ nclsvalue_ cclsvalue_, .slice Alevelsvalue_ nlevelsvalue_ clevelsvalue_, .int .i64 x.value.code, .int .i64 x.value.env, .slice Aparts nparts cparts] ∧ w.cell? ⟨b, off + k * 10, none⟩ = some (.int .i64 x.count) ∧ w.cell? ⟨b, off + k * 10 + 1, none⟩ = some (.int .i64 x.value.kind) ∧ w.cell? ⟨b, off + k * 10 + 2, none⟩ = some (.slice Aitemsvalue_ nitemsvalue_ citemsvalue_) ∧ w.cell? ⟨b, off + k * 10 + 3, none⟩ = some (.slice Apartsvalue_ npartsvalue_ cpartsvalue_) ∧ w.cell? ⟨b, off + k * 10 + 4, none⟩ = some (.slice Anamesvalue_ nnamesvalue_ cnamesvalue_) ∧ w.cell? ⟨b, off + k * 10 + 5, none⟩ = some (.slice Aclsvalue_ nclsvalue_ cclsvalue_) ∧ w.cell? ⟨b, off + k * 10 + 6, none⟩ = some (.slice Alevelsvalue_ nlevelsvalue_ clevelsvalue_) ∧ w.cell? ⟨b, off + k * 10 + 7, none⟩ = some (.int .i64 x.value.code) ∧ w.cell? ⟨b, off + k * 10 + 8, none⟩ = some (.int .i64 x.value.env) ∧ w.cell? ⟨b, off + k * 10 + 9, none⟩ = some (.slice Aparts nparts cparts) := by
  obtain ⟨b, off, x, cs, e, hb, hx, hr, hc⟩ := sl_at h hk
  obtain ⟨Aitemsvalue_, nitemsvalue_, citemsvalue_, Apartsvalue_, npartsvalue_, cpartsvalue_, Anamesvalue_, nnamesvalue_, cnamesvalue_, Aclsvalue_, nclsvalue_, cclsvalue_, Alevelsvalue_, nlevelsvalue_, clevelsvalue_, Aparts, nparts, cparts, rfl, _⟩ := Cell_open hr
  exact ⟨b, off, x, Aitemsvalue_, nitemsvalue_, citemsvalue_, Apartsvalue_, npartsvalue_, cpartsvalue_, Anamesvalue_, nnamesvalue_, cnamesvalue_, Aclsvalue_, nclsvalue_, cclsvalue_, Alevelsvalue_, nlevelsvalue_, clevelsvalue_, Aparts, nparts, cparts, e, hb, hx, hr, hc 0 _ rfl, hc 1 _ rfl, hc 2 _ rfl, hc 3 _ rfl, hc 4 _ rfl, hc 5 _ rfl, hc 6 _ rfl, hc 7 _ rfl, hc 8 _ rfl, hc 9 _ rfl⟩
theorem Cell_sz (x : Cel) : szD x.toD = szD (x.value.toD) + (szD (.sl (x.parts.map (.i .i64)))) := by
  rw [Cell_toD]; simp only [szD, szDs]; omega
def Cell_szP (x : Cel) : Prop := ∀ (cs : List Value) (n : Int) (w : World), rep w w.heap.size x.toD cs → 0 ≤ n → n ≤ 1048576 → Calls Try.prog 79 #[.agg cs.toArray, .int .i64 n] w fun e w' => e = .returned (.int .i64 (lft (szD x.toD) n)) ∧ Below w.heap.size w w'
set_option maxHeartbeats 4000000 in
theorem szCell_of (x : Cel) : Cell_szP x := by
  intro cs n w h h0 h1
  have hsz := Cell_sz x
  obtain ⟨Aitemsvalue_, nitemsvalue_, citemsvalue_, Apartsvalue_, npartsvalue_, cpartsvalue_, Anamesvalue_, nnamesvalue_, cnamesvalue_, Aclsvalue_, nclsvalue_, cclsvalue_, Alevelsvalue_, nlevelsvalue_, clevelsvalue_, Aparts, nparts, cparts, rfl, wcount, rvalue, rparts⟩ := Cell_open h
  have q0 := (Below.refl w.heap.size w).alloc (Nat.le_refl _) (.cells #[.int .i64 x.count, .int .i64 x.value.kind, .slice Aitemsvalue_ nitemsvalue_ citemsvalue_, .slice Apartsvalue_ npartsvalue_ cpartsvalue_, .slice Anamesvalue_ nnamesvalue_ cnamesvalue_, .slice Aclsvalue_ nclsvalue_ cclsvalue_, .slice Alevelsvalue_ nlevelsvalue_ clevelsvalue_, .int .i64 x.value.code, .int .i64 x.value.env, .slice Aparts nparts cparts] 98)
  have HSZ := Lib.hid hsz
  clear hsz
  go_enter Try.func79, Try.ntmps79
  go_wp2_with fail
  refine (szVector_any x.value _ _ _ (rep_in rvalue q0 q0.size) (by omega) (by omega)).mono ?_
  rintro e w1 ⟨rfl, b1⟩
  obtain ⟨hc1, _⟩ := bcell b1
  have z1 := b1.size
  (try simp only [wsize_alloc] at hc1 z1)
  have y1 : w.heap.size < w1.heap.size := by omega
  have q1 := bth q0 b1
  by_cases g0 : lft (szD (x.value.toD)) n < 0
  · have g0' : n < ((szD (x.value.toD) : Nat) : Int) := by unfold lft at g0; split at g0 <;> omega
    go_wp2_with fail
    go_ret
    exact ⟨ret_int (by rw [HSZ.out, lft, if_neg (by omega)]), q1⟩
  have g0' : ((szD (x.value.toD) : Nat) : Int) ≤ n := by unfold lft at g0; split at g0 <;> omega
  have e0 : lft (szD (x.value.toD)) n = n - ((szD (x.value.toD) : Nat) : Int) := lft_of g0'
  obtain ⟨m0, hm0⟩ : ∃ m : Int, m = lft (szD (x.value.toD)) n := ⟨_, rfl⟩
  rw [← hm0] at g0 e0 ⊢
  have E0 := Lib.hid e0
  have M0 := Lib.hid hm0
  have le0 : 0 ≤ m0 ∧ m0 ≤ n := by omega
  clear e0 hm0
  skip
  go_wp2_with fail
  refine (szIntS_r x.parts _ _ _ _ _ (rep_in rparts q1 q1.size) (by omega) (by omega)).mono ?_
  rintro e w2 ⟨rfl, b2⟩
  obtain ⟨hc2, _⟩ := bcell b2
  have z2 := b2.size
  (try simp only [wsize_alloc] at hc2 z2)
  have y2 : w.heap.size < w2.heap.size := by omega
  have q2 := bth q1 b2
  by_cases g1 : lft (szD (.sl (x.parts.map (.i .i64)))) m0 < 0
  · have g1' : m0 < ((szD (.sl (x.parts.map (.i .i64))) : Nat) : Int) := by unfold lft at g1; split at g1 <;> omega
    go_wp2_with fail
    go_ret
    exact ⟨ret_int (by rw [HSZ.out, lft, if_neg (by have := E0.out; omega)]), q2⟩
  have g1' : ((szD (.sl (x.parts.map (.i .i64))) : Nat) : Int) ≤ m0 := by unfold lft at g1; split at g1 <;> omega
  have e1 : lft (szD (.sl (x.parts.map (.i .i64)))) m0 = m0 - ((szD (.sl (x.parts.map (.i .i64))) : Nat) : Int) := lft_of g1'
  obtain ⟨m1, hm1⟩ : ∃ m : Int, m = lft (szD (.sl (x.parts.map (.i .i64)))) m0 := ⟨_, rfl⟩
  rw [← hm1] at g1 e1 ⊢
  have E1 := Lib.hid e1
  have M1 := Lib.hid hm1
  have le1 : 0 ≤ m1 ∧ m1 ≤ m0 := by omega
  clear e1 hm1
  skip
  go_wp2_with fail
  go_ret
  exact ⟨ret_int (by rw [HSZ.out, lft, if_pos (by have := E0.out; have := E1.out;  omega)] <;> (have := E0.out; have := E1.out;  omega)), q2⟩
set_option maxHeartbeats 4000000 in
theorem szCellS_of (l : List Cel) (ih : ∀ x ∈ l, Cell_szP x) (A : Option Addr) (len cap : Nat) (n : Int) (w : World) (h : rep w w.heap.size (.sl (l.map Cel.toD)) [.slice A len cap]) (h0 : 0 ≤ n) (h1 : n ≤ 1048576) :
    Calls Try.prog 35 #[.slice A len cap, .int .i64 n] w fun e w' => e = .returned (.int .i64 (lft (szD (.sl (l.map Cel.toD))) n)) ∧ Below w.heap.size w w' := by
  obtain ⟨hll, hlc, hcm⟩ := rep_sl_len h
  unfold maxLen at hcm
  rw [List.length_map] at hll
  rw [szD, List.length_map, hll]
  by_cases hn : n < len
  · clear hll
    go_enter Try.func35, Try.ntmps35
    go_wp2_with fail
    go_ret
    exact ⟨ret_int (by rw [lft_no (by omega)]), Below.refl _ _⟩
  · have hd : decide (n - (len : Int) < 0) = false := by simp; omega
    have HL := Lib.hid hll
    have HI := Lib.hid ih
    clear hll ih
    go_enter Try.func35, Try.ntmps35
    go_wp2_with fail
    go_loopw [1, 5] (fun m i wr => ∃ k : Nat, k ≤ len ∧ i = .int .i64 k ∧ m = .int .i64 (n - len - szDs ((l.take k).map Cel.toD)) ∧ (len + szDs ((l.take k).map Cel.toD) : Int) ≤ n ∧ Below w.heap.size w wr) (fun _ i _ => len - (intOf i).toNat)
    case atStart => exact ⟨0, by omega, rfl, by simp [szDs], by simp [szDs]; omega, Below.refl _ _⟩
    case round =>
      obtain ⟨k, hk, rfl, rfl, hle, hb⟩ := hrel
      by_cases hlt : k < len
      · obtain ⟨b, off, x, Aitemsvalue_, nitemsvalue_, citemsvalue_, Apartsvalue_, npartsvalue_, cpartsvalue_, Anamesvalue_, nnamesvalue_, cnamesvalue_, Aclsvalue_, nclsvalue_, cclsvalue_, Alevelsvalue_, nlevelsvalue_, clevelsvalue_, Aparts, nparts, cparts, rfl, hbl, hx, hrx, hc0, hc1, hc2, hc3, hc4, hc5, hc6, hc7, hc8, hc9⟩ := Cell_at (rep_below h hb) hlt
        have HT := Lib.hid (szDs_take (f := Cel.toD) hx)
        have HU := Lib.hid (szDs_le (f := Cel.toD) l (k + 1))
        have HM := Lib.hid (List.mem_of_getElem? hx)
        clear hx
        obtain ⟨q, hq⟩ : ∃ q : Nat, q = szDs ((l.take k).map Cel.toD) := ⟨_, rfl⟩
        rw [← hq] at hle ⊢
        have HQ := Lib.hid hq
        clear hq
        go_wp2_with fail
        refine (HI.out x HM.out _ _ _ (rep_more hrx hb.size) (by omega) (by omega)).mono ?_
        rintro e w1 ⟨rfl, hb1⟩
        have hlf : (len + q : Int) + szD x.toD ≤ n → lft (szD x.toD) (n - len - q) = n - len - ((q + szD x.toD : Nat) : Int) := fun h => by rw [lft_of (by omega)]; omega
        have HLF := Lib.hid hlf
        clear hlf
        by_cases hn2 : (len + q : Int) + szD x.toD ≤ n
        · have hd2 : decide (lft (szD x.toD) (n - len - q) < 0) = false := by rw [HLF.out hn2]; simp; omega
          go_wp2_with fail
          go_roundw
          case rel => exact ⟨k + 1, by omega, by go_num, by rw [HLF.out hn2, HT.out, ← HQ.out], by rw [HT.out, ← HQ.out]; omega, bth hb hb1⟩
          case measure => simp [intOf]; omega
        · have hd2 : decide (lft (szD x.toD) (n - len - q) < 0) = true := by unfold lft; rw [if_neg (by omega)]; rfl
          go_wp2_with fail
          go_ret
          exact ⟨ret_int (by rw [lft, if_neg]; have h1 := HT.out; have h2 := HU.out; have h3 := HQ.out; omega), bth hb hb1⟩
      · obtain rfl : k = len := by omega
        go_wp2_with fail
        go_ret
        rw [List.take_of_length_le (by rw [HL.out]; omega)] at hle ⊢
        exact ⟨ret_int (by rw [lft_of (by omega)]; omega), hb⟩
theorem szCell_any (x : Cel) : Cell_szP x := szCell_of x
theorem szCellS_any (l : List Cel) (A : Option Addr) (len cap : Nat) (n : Int) (w : World) (h : rep w w.heap.size (.sl (l.map Cel.toD)) [.slice A len cap]) (h0 : 0 ≤ n) (h1 : n ≤ 1048576) :
    Calls Try.prog 35 #[.slice A len cap, .int .i64 n] w fun e w' => e = .returned (.int .i64 (lft (szD (.sl (l.map Cel.toD))) n)) ∧ Below w.heap.size w w' := szCellS_of l (fun x _ => szCell_any x) A len cap n w h h0 h1
def Cell_toP (x : Cel) : Prop := ∀ (cs : List Value) (w : World), rep w w.heap.size x.toD cs → szD x.toD ≤ 1048576 → Calls Try.prog 82 #[.agg cs.toArray] w (NewSt x.toD 71 w)
set_option maxRecDepth 100000 in
set_option maxHeartbeats 8000000 in
theorem toCell_of (x : Cel) : Cell_toP x := by
  intro cs w h hz
  have hsz := Cell_sz x
  rw [hsz] at hz
  clear hsz
  obtain ⟨Aitemsvalue_, nitemsvalue_, citemsvalue_, Apartsvalue_, npartsvalue_, cpartsvalue_, Anamesvalue_, nnamesvalue_, cnamesvalue_, Aclsvalue_, nclsvalue_, cclsvalue_, Alevelsvalue_, nlevelsvalue_, clevelsvalue_, Aparts, nparts, cparts, rfl, wcount, rvalue, rparts⟩ := Cell_open h
  go_enter Try.func82, Try.ntmps82
  go_wp2_with fail
  refine (toVector_any x.value _ _ (rep_in rvalue (by repeat' (first | with_reducible exact (Below.refl w.heap.size w) | refine Below.setCell ?_ ?_ _ | refine Below.alloc ?_ ?_ _ | ((try simp only [wsize_alloc, wsize_set]); omega))) (by simp only [wsize_alloc, wsize_set]; omega)) (by omega)).mono ?_
  rintro e w1 ⟨k1, G1, rfl, o1, fr1, b1⟩
  obtain ⟨g1Aitemsvalue_, g1nitemsvalue_, g1citemsvalue_, g1Apartsvalue_, g1npartsvalue_, g1cpartsvalue_, g1Anamesvalue_, g1nnamesvalue_, g1cnamesvalue_, g1Aclsvalue_, g1nclsvalue_, g1cclsvalue_, g1Alevelsvalue_, g1nlevelsvalue_, g1clevelsvalue_, rfl, _⟩ := Vector_open (own_rep _ _ _ _ o1)
  obtain ⟨hc1, hf1⟩ := bcell b1
  have z1 := b1.size
  simp only [wsize_alloc, wsize_set] at hc1 hf1 z1 fr1
  have q1 : Below w.heap.size w w1 := Below.trans (by repeat' (first | with_reducible exact (Below.refl w.heap.size w) | refine Below.setCell ?_ ?_ _ | refine Below.alloc ?_ ?_ _ | ((try simp only [wsize_alloc, wsize_set]); omega))) (b1.mono (by simp only [wsize_alloc, wsize_set]; omega))
  have y1a : w.heap.size < w1.heap.size := by omega
  have y1b : w.heap.size + 1 < w1.heap.size := by omega
  have y1c : w.heap.size + 1 + 1 < w1.heap.size := by omega
  go_wp2_with fail
  refine (toIntS_r x.parts _ _ _ _ (rep_in rparts (by repeat' (first | with_reducible exact q1 | refine Below.setCell ?_ ?_ _ | refine Below.alloc ?_ ?_ _ | ((try simp only [wsize_alloc, wsize_set]); omega))) (by simp only [wsize_alloc, wsize_set]; omega)) (by omega)).mono ?_
  rintro e w2 ⟨A2, n2, c2, G2, rfl, o2, fr2, b2⟩
  obtain ⟨hc2, hf2⟩ := bcell b2
  have z2 := b2.size
  simp only [wsize_alloc, wsize_set] at hc2 hf2 z2 fr2
  have q2 : Below w.heap.size w w2 := Below.trans (by repeat' (first | with_reducible exact q1 | refine Below.setCell ?_ ?_ _ | refine Below.alloc ?_ ?_ _ | ((try simp only [wsize_alloc, wsize_set]); omega))) (b2.mono (by simp only [wsize_alloc, wsize_set]; omega))
  have y2a : w.heap.size < w2.heap.size := by omega
  have y2b : w.heap.size + 1 < w2.heap.size := by omega
  have y2c : w.heap.size + 1 + 1 < w2.heap.size := by omega
  go_wp2_with fail
  skip
  refine bodyPost_ret (v := .agg #[.int .i64 x.count, .int .i64 x.value.kind, .slice g1Aitemsvalue_ g1nitemsvalue_ g1citemsvalue_, .slice g1Apartsvalue_ g1npartsvalue_ g1cpartsvalue_, .slice g1Anamesvalue_ g1nnamesvalue_ g1cnamesvalue_, .slice g1Aclsvalue_ g1nclsvalue_ g1cclsvalue_, .slice g1Alevelsvalue_ g1nlevelsvalue_ g1clevelsvalue_, .int .i64 x.value.code, .int .i64 x.value.env, .slice A2 n2 c2]) (by simp [results, Try.results82, go_sem, hc1, hc2, y1a, y1b, y1c, y2a, y2b, y2c]) rfl ⟨_, G1 ++ (G2 ++ []), rfl, ?_, ?_, ?_⟩
  · refine Cell_own wcount ?_ ?_
    · repeat' (first | with_reducible exact o1 | refine own_poke ?_ ?_ _ | refine own_below ?_ b2 | (exact fr1.notin (by simp only []; omega)))
    · repeat' (first | with_reducible exact o2 | refine own_poke ?_ ?_ _ | (exact fr2.notin (by simp only []; omega)))
  · have k0 : Fresh w2.heap.size [] := Fresh.nil
    have j2 := Fresh.app fr2 (own_lt _ _ _ _ o2) k0 (by omega)
    have j1 := Fresh.app fr1 (own_lt _ _ _ _ o1) j2 (by omega)
    exact j1.mono (by omega)
  · exact (by repeat' (first | with_reducible exact q2 | refine Below.setCell ?_ ?_ _ | refine Below.alloc ?_ ?_ _ | ((try simp only [wsize_alloc, wsize_set]); omega)))
theorem CellInfo : (Try.prog.info? 71).map (fun i => (i.zero, i.size, i.bytes)) = some (some (.agg #[.int .i64 0, .int .i64 0, .slice none 0 0, .slice none 0 0, .slice none 0 0, .slice none 0 0, .slice none 0 0, .int .i64 0, .int .i64 0, .slice none 0 0]), 10, 176) := by kernel_rfl
set_option maxRecDepth 100000 in
set_option maxHeartbeats 8000000 in
theorem toCellS_of (l : List Cel) (ih : ∀ x ∈ l, Cell_toP x) (A : Option Addr) (len cap : Nat) (w : World) (h : rep w w.heap.size (.sl (l.map Cel.toD)) [.slice A len cap]) (hz : szD (.sl (l.map Cel.toD)) ≤ 1048576) :
    Calls Try.prog 42 #[.slice A len cap] w (NewSl (l.map Cel.toD) 46 w) := by
  obtain ⟨hll, hlc, hcm⟩ := rep_sl_len h
  rw [List.length_map] at hll
  rw [szD, List.length_map, hll] at hz
  obtain ⟨i0, hi0, hz0, hz1, hz2⟩ := info_parts CellInfo
  have hmk := fun W => run_make_rowN (P := Try.prog) 46 71 i0 _ Try.underlying46 hi0 hz0 .i64 .i64 len len (Nat.le_refl _) (by rw [hz2]; omega) (by omega) W
  rw [hz1] at hmk
  have HL := Lib.hid hll
  have HI := Lib.hid ih
  clear hll ih
  go_enter Try.func42, Try.ntmps42
  go_wp2_with fail
  clear hmk
  go_loopw [4] (fun i wr => ∃ (k : Nat) (rows : List (Row 10)) (G : List Nat), k ≤ len ∧ i = .int .i64 k ∧ rows.length = k ∧ Fil wr w.heap.size 71 (len * 10) (k * 10) (rows.flatMap Row.v) ∧ ownA Try.prog wr ((l.take k).map Cel.toD) 71 G (rows.map Row.v) ∧ Fresh (w.heap.size + 1) G ∧ Below w.heap.size w wr) (fun i _ => len - (intOf i).toNat)
  case atStart => exact ⟨0, [], [], by omega, rfl, rfl, by simpa using Fil.start w 71 (madeCells #[.int .i64 0, .int .i64 0, .slice none 0 0, .slice none 0 0, .slice none 0 0, .slice none 0 0, .slice none 0 0, .int .i64 0, .int .i64 0, .slice none 0 0] (len * 10)) (len * 10) (size_madeCells _ _), by rw [List.take_zero, List.map_nil, ownA]; exact ⟨rfl, rfl⟩, Fresh.nil, (Below.refl _ _).alloc (Nat.le_refl _) _⟩
  case round =>
    obtain ⟨k, rows, G, hk, rfl, hrk, hf, ho, hG, hb⟩ := hrel
    have HRK := Lib.hid hrk
    clear hrk
    by_cases hlt : k < len
    · obtain ⟨b, off, x, Aitemsvalue_, nitemsvalue_, citemsvalue_, Apartsvalue_, npartsvalue_, cpartsvalue_, Anamesvalue_, nnamesvalue_, cnamesvalue_, Aclsvalue_, nclsvalue_, cclsvalue_, Alevelsvalue_, nlevelsvalue_, clevelsvalue_, Aparts, nparts, cparts, rfl, hbl, hx, hrx, hc0, hc1, hc2, hc3, hc4, hc5, hc6, hc7, hc8, hc9⟩ := Cell_at (rep_below h hb) hlt
      have HX := Lib.hid (take_snoc' hx)
      have HM := Lib.hid (List.mem_of_getElem? hx)
      have hsx : szD x.toD ≤ 1048576 := by
        have := szDs_mem (List.mem_map_of_mem (f := Cel.toD) HM.out); omega
      clear hx
      go_wp2_with fail
      refine (HI.out x HM.out _ _ (rep_more hrx hb.size) hsx).mono ?_
      rintro e w1 ⟨cs1, G1, rfl, ho1, hG1, hb1⟩
      obtain ⟨gAitemsvalue_, gnitemsvalue_, gcitemsvalue_, gApartsvalue_, gnpartsvalue_, gcpartsvalue_, gAnamesvalue_, gnnamesvalue_, gcnamesvalue_, gAclsvalue_, gnclsvalue_, gcclsvalue_, gAlevelsvalue_, gnlevelsvalue_, gclevelsvalue_, gAparts, gnparts, gcparts, rfl, _⟩ := Cell_open (own_rep _ _ _ _ ho1)
      have hf1 := hf.next hb1
      have hl1 := hf.lt
      obtain ⟨u0, hu0⟩ := hf1.cell (k * 10) (by omega)
      have hz0 := hf1.frozen (k * 10)
      obtain ⟨u1, hu1⟩ := hf1.cell (k * 10 + 1) (by omega)
      have hz1 := hf1.frozen (k * 10 + 1)
      obtain ⟨u2, hu2⟩ := hf1.cell (k * 10 + 2) (by omega)
      have hz2 := hf1.frozen (k * 10 + 2)
      obtain ⟨u3, hu3⟩ := hf1.cell (k * 10 + 3) (by omega)
      have hz3 := hf1.frozen (k * 10 + 3)
      obtain ⟨u4, hu4⟩ := hf1.cell (k * 10 + 4) (by omega)
      have hz4 := hf1.frozen (k * 10 + 4)
      obtain ⟨u5, hu5⟩ := hf1.cell (k * 10 + 5) (by omega)
      have hz5 := hf1.frozen (k * 10 + 5)
      obtain ⟨u6, hu6⟩ := hf1.cell (k * 10 + 6) (by omega)
      have hz6 := hf1.frozen (k * 10 + 6)
      obtain ⟨u7, hu7⟩ := hf1.cell (k * 10 + 7) (by omega)
      have hz7 := hf1.frozen (k * 10 + 7)
      obtain ⟨u8, hu8⟩ := hf1.cell (k * 10 + 8) (by omega)
      have hz8 := hf1.frozen (k * 10 + 8)
      obtain ⟨u9, hu9⟩ := hf1.cell (k * 10 + 9) (by omega)
      have hz9 := hf1.frozen (k * 10 + 9)
      go_wp2_with fail
      have hfp := ((((((((((hf1.put (by omega) (.int .i64 x.count)).put (by omega) (.int .i64 x.value.kind)).put (by omega) (.slice gAitemsvalue_ gnitemsvalue_ gcitemsvalue_)).put (by omega) (.slice gApartsvalue_ gnpartsvalue_ gcpartsvalue_)).put (by omega) (.slice gAnamesvalue_ gnnamesvalue_ gcnamesvalue_)).put (by omega) (.slice gAclsvalue_ gnclsvalue_ gcclsvalue_)).put (by omega) (.slice gAlevelsvalue_ gnlevelsvalue_ gclevelsvalue_)).put (by omega) (.int .i64 x.value.code)).put (by omega) (.int .i64 x.value.env)).put (by omega) (.slice gAparts gnparts gcparts))
      have hbp := (((((((((((hb.trans (hb1.mono hb.size)).setCell (p := ⟨w.heap.size, k * 10, none⟩) (Nat.le_refl _) (.int .i64 x.count)).setCell (p := ⟨w.heap.size, k * 10 + 1, none⟩) (Nat.le_refl _) (.int .i64 x.value.kind)).setCell (p := ⟨w.heap.size, k * 10 + 2, none⟩) (Nat.le_refl _) (.slice gAitemsvalue_ gnitemsvalue_ gcitemsvalue_)).setCell (p := ⟨w.heap.size, k * 10 + 3, none⟩) (Nat.le_refl _) (.slice gApartsvalue_ gnpartsvalue_ gcpartsvalue_)).setCell (p := ⟨w.heap.size, k * 10 + 4, none⟩) (Nat.le_refl _) (.slice gAnamesvalue_ gnnamesvalue_ gcnamesvalue_)).setCell (p := ⟨w.heap.size, k * 10 + 5, none⟩) (Nat.le_refl _) (.slice gAclsvalue_ gnclsvalue_ gcclsvalue_)).setCell (p := ⟨w.heap.size, k * 10 + 6, none⟩) (Nat.le_refl _) (.slice gAlevelsvalue_ gnlevelsvalue_ gclevelsvalue_)).setCell (p := ⟨w.heap.size, k * 10 + 7, none⟩) (Nat.le_refl _) (.int .i64 x.value.code)).setCell (p := ⟨w.heap.size, k * 10 + 8, none⟩) (Nat.le_refl _) (.int .i64 x.value.env)).setCell (p := ⟨w.heap.size, k * 10 + 9, none⟩) (Nat.le_refl _) (.slice gAparts gnparts gcparts))
      have hnG : w.heap.size ∉ G ++ G1 := by
        intro hm
        rcases List.mem_append.1 hm with hm | hm
        · have := hG.2 _ hm; omega
        · have := hG1.2 _ hm; omega
      have hoA := ownA_snoc (ownA_below ho hb1) ho1
      have hoB : ownA Try.prog (((((((((((w1.setCell ⟨w.heap.size, k * 10, none⟩ (.int .i64 x.count)).setCell ⟨w.heap.size, k * 10 + 1, none⟩ (.int .i64 x.value.kind)).setCell ⟨w.heap.size, k * 10 + 2, none⟩ (.slice gAitemsvalue_ gnitemsvalue_ gcitemsvalue_)).setCell ⟨w.heap.size, k * 10 + 3, none⟩ (.slice gApartsvalue_ gnpartsvalue_ gcpartsvalue_)).setCell ⟨w.heap.size, k * 10 + 4, none⟩ (.slice gAnamesvalue_ gnnamesvalue_ gcnamesvalue_)).setCell ⟨w.heap.size, k * 10 + 5, none⟩ (.slice gAclsvalue_ gnclsvalue_ gcclsvalue_)).setCell ⟨w.heap.size, k * 10 + 6, none⟩ (.slice gAlevelsvalue_ gnlevelsvalue_ gclevelsvalue_)).setCell ⟨w.heap.size, k * 10 + 7, none⟩ (.int .i64 x.value.code)).setCell ⟨w.heap.size, k * 10 + 8, none⟩ (.int .i64 x.value.env)).setCell ⟨w.heap.size, k * 10 + 9, none⟩ (.slice gAparts gnparts gcparts))) ((l.take (k + 1)).map Cel.toD) 71 (G ++ G1) (rows.map Row.v ++ [[.int .i64 x.count, .int .i64 x.value.kind, .slice gAitemsvalue_ gnitemsvalue_ gcitemsvalue_, .slice gApartsvalue_ gnpartsvalue_ gcpartsvalue_, .slice gAnamesvalue_ gnnamesvalue_ gcnamesvalue_, .slice gAclsvalue_ gnclsvalue_ gcclsvalue_, .slice gAlevelsvalue_ gnlevelsvalue_ gclevelsvalue_, .int .i64 x.value.code, .int .i64 x.value.env, .slice gAparts gnparts gcparts]]) := ownA_same _ _ _ _ (fun g hg => (pk (by rintro rfl; exact hnG hg) (pk (by rintro rfl; exact hnG hg) (pk (by rintro rfl; exact hnG hg) (pk (by rintro rfl; exact hnG hg) (pk (by rintro rfl; exact hnG hg) (pk (by rintro rfl; exact hnG hg) (pk (by rintro rfl; exact hnG hg) (pk (by rintro rfl; exact hnG hg) (pk (by rintro rfl; exact hnG hg) (pk (by rintro rfl; exact hnG hg) (rfl)))))))))))) (by rw [HX.out, List.map_append]; exact hoA)
      go_roundw
      case rel =>
        exact ⟨k + 1, rows ++ [⟨[.int .i64 x.count, .int .i64 x.value.kind, .slice gAitemsvalue_ gnitemsvalue_ gcitemsvalue_, .slice gApartsvalue_ gnpartsvalue_ gcpartsvalue_, .slice gAnamesvalue_ gnnamesvalue_ gcnamesvalue_, .slice gAclsvalue_ gnclsvalue_ gcclsvalue_, .slice gAlevelsvalue_ gnlevelsvalue_ gclevelsvalue_, .int .i64 x.value.code, .int .i64 x.value.env, .slice gAparts gnparts gcparts], rfl⟩], G ++ G1, by omega, by go_num, by simp [HRK.out], by rw [List.flatMap_append, show (k + 1) * 10 = k * 10 + 10 by omega]; simpa [Row.v] using hfp, by rw [List.map_append]; exact hoB, hG.app (ownA_lt _ _ _ _ ho) hG1 (by omega), hbp⟩
      case measure => simp [intOf]; omega
    · obtain rfl : k = len := by omega
      rw [List.take_of_length_le (by rw [HL.out]; omega)] at ho
      go_wp2_with fail
      go_ret
      refine ⟨_, _, _, w.heap.size :: G, rfl, ?_, ?_, hb⟩
      · rw [own]
        exact ⟨71, _, k, k, 10, rows, G, Try.underlying46, by kernel_rfl, rfl, by unfold maxLen; omega, hf.own Row.len HRK.out (Nat.le_refl _) (by unfold maxLen; omega) (Nat.zero_le _), rfl, ho⟩
      · exact ⟨List.nodup_cons.2 ⟨hG.notin (by omega), hG.1⟩, fun g hg => by
          rcases List.mem_cons.1 hg with rfl | hg
          · omega
          · have := hG.2 g hg; omega⟩
theorem toCell_any (x : Cel) : Cell_toP x := toCell_of x
theorem toCellS_any (l : List Cel) (A : Option Addr) (len cap : Nat) (w : World) (h : rep w w.heap.size (.sl (l.map Cel.toD)) [.slice A len cap]) (hz : szD (.sl (l.map Cel.toD)) ≤ 1048576) :
    Calls Try.prog 42 #[.slice A len cap] w (NewSl (l.map Cel.toD) 46 w) := toCellS_of l (fun x _ => toCell_any x) A len cap w h hz
def Cell_eqP (x : Cel) : Prop := ∀ (cs cs' : List Value) (w : World), rep w w.heap.size x.toD cs → rep w w.heap.size x.toD cs' → Calls Try.prog 86 #[.agg cs.toArray, .agg cs'.toArray] w fun e w' => e = .returned (.bool true) ∧ Below w.heap.size w w'
set_option maxHeartbeats 8000000 in
theorem eqCell_of (x : Cel) : Cell_eqP x := by
  intro cs cs' w h h'
  obtain ⟨Aitemsvalue_, nitemsvalue_, citemsvalue_, Apartsvalue_, npartsvalue_, cpartsvalue_, Anamesvalue_, nnamesvalue_, cnamesvalue_, Aclsvalue_, nclsvalue_, cclsvalue_, Alevelsvalue_, nlevelsvalue_, clevelsvalue_, Aparts, nparts, cparts, rfl, wcount, rvalue, rparts⟩ := Cell_open h
  obtain ⟨Aitemsvalue_', nitemsvalue_', citemsvalue_', Apartsvalue_', npartsvalue_', cpartsvalue_', Anamesvalue_', nnamesvalue_', cnamesvalue_', Aclsvalue_', nclsvalue_', cclsvalue_', Alevelsvalue_', nlevelsvalue_', clevelsvalue_', Aparts', nparts', cparts', rfl, wcount', rvalue', rparts'⟩ := Cell_open h'
  have icount : (x.count != x.count) = false := by simp
  have q0 := ((Below.refl w.heap.size w).alloc (Nat.le_refl _) (.cells #[.int .i64 x.count, .int .i64 x.value.kind, .slice Aitemsvalue_ nitemsvalue_ citemsvalue_, .slice Apartsvalue_ npartsvalue_ cpartsvalue_, .slice Anamesvalue_ nnamesvalue_ cnamesvalue_, .slice Aclsvalue_ nclsvalue_ cclsvalue_, .slice Alevelsvalue_ nlevelsvalue_ clevelsvalue_, .int .i64 x.value.code, .int .i64 x.value.env, .slice Aparts nparts cparts] 71)).alloc (by simp only [wsize_alloc]; omega) (.cells #[.int .i64 x.count, .int .i64 x.value.kind, .slice Aitemsvalue_' nitemsvalue_' citemsvalue_', .slice Apartsvalue_' npartsvalue_' cpartsvalue_', .slice Anamesvalue_' nnamesvalue_' cnamesvalue_', .slice Aclsvalue_' nclsvalue_' cclsvalue_', .slice Alevelsvalue_' nlevelsvalue_' clevelsvalue_', .int .i64 x.value.code, .int .i64 x.value.env, .slice Aparts' nparts' cparts'] 71)
  go_enter Try.func86, Try.ntmps86
  go_wp2_with fail
  refine (eqVector_any x.value _ _ _ (rep_in rvalue q0 q0.size) (rep_in rvalue' q0 q0.size)).mono ?_
  rintro e w1 ⟨rfl, b1⟩
  obtain ⟨hc1, _⟩ := bcell b1
  have z1 := b1.size
  (try simp only [wsize_alloc] at hc1 z1)
  have y1a : w.heap.size < w1.heap.size := by omega
  have y1b : w.heap.size + 1 < w1.heap.size := by omega
  have q1 := bth q0 b1
  go_wp2_with fail
  refine (eqIntS_r x.parts _ _ _ _ _ _ _ (rep_in rparts q1 q1.size) (rep_in rparts' q1 q1.size)).mono ?_
  rintro e w2 ⟨rfl, b2⟩
  obtain ⟨hc2, _⟩ := bcell b2
  have z2 := b2.size
  (try simp only [wsize_alloc] at hc2 z2)
  have y2a : w.heap.size < w2.heap.size := by omega
  have y2b : w.heap.size + 1 < w2.heap.size := by omega
  have q2 := bth q1 b2
  go_wp2_with fail
  go_ret
  exact ⟨rfl, q2⟩
set_option maxRecDepth 100000 in
set_option maxHeartbeats 8000000 in
theorem eqCellS_of (l : List Cel) (ih : ∀ x ∈ l, Cell_eqP x) (A A' : Option Addr) (n n' c c' : Nat) (w : World) (h : rep w w.heap.size (.sl (l.map Cel.toD)) [.slice A n c]) (h' : rep w w.heap.size (.sl (l.map Cel.toD)) [.slice A' n' c']) :
    Calls Try.prog 50 #[.slice A n c, .slice A' n' c'] w fun e w' => e = .returned (.bool true) ∧ Below w.heap.size w w' := by
  obtain ⟨hll, hlc, hcm⟩ := rep_sl_len h
  obtain ⟨hll', hlc', hcm'⟩ := rep_sl_len h'
  rw [List.length_map] at hll hll'
  obtain rfl : n' = n := by omega
  have hd : ((n' : Int) != (n' : Int)) = false := by simp
  unfold maxLen at hcm
  have HI := Lib.hid ih
  clear hll hll' ih
  go_enter Try.func50, Try.ntmps50
  go_wp2_with fail
  go_loopw [5] (fun i wr => ∃ (k : Nat), k ≤ n' ∧ i = .int .i64 k ∧ Below w.heap.size w wr) (fun i _ => n' - (intOf i).toNat)
  case atStart => exact ⟨0, by omega, rfl, Below.refl _ _⟩
  case round =>
    obtain ⟨k, hk, rfl, hb⟩ := hrel
    by_cases hlt : k < n'
    · obtain ⟨b, off, x, Aitemsvalue_, nitemsvalue_, citemsvalue_, Apartsvalue_, npartsvalue_, cpartsvalue_, Anamesvalue_, nnamesvalue_, cnamesvalue_, Aclsvalue_, nclsvalue_, cclsvalue_, Alevelsvalue_, nlevelsvalue_, clevelsvalue_, Aparts, nparts, cparts, rfl, hbl, hx, hrx, hc0, hc1, hc2, hc3, hc4, hc5, hc6, hc7, hc8, hc9⟩ := Cell_at (rep_below h hb) hlt
      obtain ⟨b', off', x', Aitemsvalue_', nitemsvalue_', citemsvalue_', Apartsvalue_', npartsvalue_', cpartsvalue_', Anamesvalue_', nnamesvalue_', cnamesvalue_', Aclsvalue_', nclsvalue_', cclsvalue_', Alevelsvalue_', nlevelsvalue_', clevelsvalue_', Aparts', nparts', cparts', rfl, hbl', hx', hrx', hd0, hd1, hd2, hd3, hd4, hd5, hd6, hd7, hd8, hd9⟩ := Cell_at (rep_below h' hb) hlt
      obtain rfl : x = x' := by rw [hx] at hx'; injection hx'
      have HM := Lib.hid (List.mem_of_getElem? hx)
      clear hx hx'
      have i1 : (0 : Int) ≤ (k : Int) := by omega
      have i2 : (k : Int) < (n' : Int) := by omega
      have hbw : b < wr.heap.size := by have := hb.size; omega
      have hbw' : b' < wr.heap.size := by have := hb.size; omega
      have hr1 := rep_more hrx hb.size
      have hr2 := rep_more hrx' hb.size
      go_wp2_with fail
      go_region_held3 (fun W => (W.cell? ⟨b, off + k * 10, none⟩ = some (.int .i64 x.count) ∧ W.cell? ⟨b, off + k * 10 + 1, none⟩ = some (.int .i64 x.value.kind) ∧ W.cell? ⟨b, off + k * 10 + 2, none⟩ = some (.slice Aitemsvalue_ nitemsvalue_ citemsvalue_) ∧ W.cell? ⟨b, off + k * 10 + 3, none⟩ = some (.slice Apartsvalue_ npartsvalue_ cpartsvalue_) ∧ W.cell? ⟨b, off + k * 10 + 4, none⟩ = some (.slice Anamesvalue_ nnamesvalue_ cnamesvalue_) ∧ W.cell? ⟨b, off + k * 10 + 5, none⟩ = some (.slice Aclsvalue_ nclsvalue_ cclsvalue_) ∧ W.cell? ⟨b, off + k * 10 + 6, none⟩ = some (.slice Alevelsvalue_ nlevelsvalue_ clevelsvalue_) ∧ W.cell? ⟨b, off + k * 10 + 7, none⟩ = some (.int .i64 x.value.code) ∧ W.cell? ⟨b, off + k * 10 + 8, none⟩ = some (.int .i64 x.value.env) ∧ W.cell? ⟨b, off + k * 10 + 9, none⟩ = some (.slice Aparts nparts cparts)) ∧ (W.cell? ⟨b', off' + k * 10, none⟩ = some (.int .i64 x.count) ∧ W.cell? ⟨b', off' + k * 10 + 1, none⟩ = some (.int .i64 x.value.kind) ∧ W.cell? ⟨b', off' + k * 10 + 2, none⟩ = some (.slice Aitemsvalue_' nitemsvalue_' citemsvalue_') ∧ W.cell? ⟨b', off' + k * 10 + 3, none⟩ = some (.slice Apartsvalue_' npartsvalue_' cpartsvalue_') ∧ W.cell? ⟨b', off' + k * 10 + 4, none⟩ = some (.slice Anamesvalue_' nnamesvalue_' cnamesvalue_') ∧ W.cell? ⟨b', off' + k * 10 + 5, none⟩ = some (.slice Aclsvalue_' nclsvalue_' cclsvalue_') ∧ W.cell? ⟨b', off' + k * 10 + 6, none⟩ = some (.slice Alevelsvalue_' nlevelsvalue_' clevelsvalue_') ∧ W.cell? ⟨b', off' + k * 10 + 7, none⟩ = some (.int .i64 x.value.code) ∧ W.cell? ⟨b', off' + k * 10 + 8, none⟩ = some (.int .i64 x.value.env) ∧ W.cell? ⟨b', off' + k * 10 + 9, none⟩ = some (.slice Aparts' nparts' cparts')))
        (first | exact ⟨⟨hc0, hc1, hc2, hc3, hc4, hc5, hc6, hc7, hc8, hc9⟩, ⟨hd0, hd1, hd2, hd3, hd4, hd5, hd6, hd7, hd8, hd9⟩⟩ | exact ⟨⟨(hb1.cell hbw).trans hc0, (hb1.cell hbw).trans hc1, (hb1.cell hbw).trans hc2, (hb1.cell hbw).trans hc3, (hb1.cell hbw).trans hc4, (hb1.cell hbw).trans hc5, (hb1.cell hbw).trans hc6, (hb1.cell hbw).trans hc7, (hb1.cell hbw).trans hc8, (hb1.cell hbw).trans hc9⟩, ⟨(hb1.cell hbw').trans hd0, (hb1.cell hbw').trans hd1, (hb1.cell hbw').trans hd2, (hb1.cell hbw').trans hd3, (hb1.cell hbw').trans hd4, (hb1.cell hbw').trans hd5, (hb1.cell hbw').trans hd6, (hb1.cell hbw').trans hd7, (hb1.cell hbw').trans hd8, (hb1.cell hbw').trans hd9⟩⟩)
        (first | (go_at_call 86; refine (HI.out x HM.out _ _ _ (by first | with_reducible exact hr1 | exact rep_drew hr1 | exact rep_drewN hr1 _) (by first | with_reducible exact hr2 | exact rep_drew hr2 | exact rep_drewN hr2 _)).mono ?_; rintro e w1 ⟨rfl, hb1⟩))
      go_wp2_with fail
      go_roundw
      case rel => exact ⟨k + 1, by omega, by go_num, bth hb.drew hb1⟩
      case measure => simp [intOf]; omega
    · obtain rfl : k = n' := by omega
      go_wp2_with fail
      go_ret
      exact ⟨rfl, hb⟩
theorem eqCell_any (x : Cel) : Cell_eqP x := eqCell_of x
theorem eqCellS_any (l : List Cel) (A A' : Option Addr) (n n' c c' : Nat) (w : World) (h : rep w w.heap.size (.sl (l.map Cel.toD)) [.slice A n c]) (h' : rep w w.heap.size (.sl (l.map Cel.toD)) [.slice A' n' c']) :
    Calls Try.prog 50 #[.slice A n c, .slice A' n' c'] w fun e w' => e = .returned (.bool true) ∧ Below w.heap.size w w' := eqCellS_of l (fun x _ => eqCell_any x) A A' n n' c c' w h h'
end Go.Proofs.Ytekcpadlmfaihaa
namespace Go.Proofs.Ytekcpadlmfaihaa
open Go.RowKit
structure Hp where
  cells : List Cel
  names : List Str
  slots : List Int
  copies : Int
def Hp.toD (x : Hp) : D := .st [.sl (x.cells.map Cel.toD), .sl (x.names.map .s), .sl (x.slots.map (.i .i64)), .i .i64 x.copies]
theorem Heap_toD (x : Hp) : x.toD = .st [.sl (x.cells.map Cel.toD), .sl (x.names.map .s), .sl (x.slots.map (.i .i64)), .i .i64 x.copies] := by first | rfl | exact toD_eq x
theorem Heap_open {w : World} {B : Nat} {x : Hp} {cs : List Value} (h : rep w B x.toD cs) : ∃ (Acells : Option Addr) (ncells : Nat) (ccells : Nat) (Anames : Option Addr) (nnames : Nat) (cnames : Nat) (Aslots : Option Addr) (nslots : Nat) (cslots : Nat), cs = [.slice Acells ncells ccells, .slice Anames nnames cnames, .slice Aslots nslots cslots, .int .i64 x.copies] ∧ rep w B (.sl (x.cells.map Cel.toD)) [.slice Acells ncells ccells] ∧ rep w B (.sl (x.names.map .s)) [.slice Anames nnames cnames] ∧ rep w B (.sl (x.slots.map (.i .i64))) [.slice Aslots nslots cslots] ∧ (Lit.int .i64 x.copies).wf = true := by
  rw [Heap_toD, rep] at h
  obtain ⟨css, rfl, h⟩ := h
  rw [repL] at h
  obtain ⟨c0, css, rfl, k0, h⟩ := h
  rw [repL] at h
  obtain ⟨c1, css, rfl, k1, h⟩ := h
  rw [repL] at h
  obtain ⟨c2, css, rfl, k2, h⟩ := h
  rw [repL] at h
  obtain ⟨c3, css, rfl, k3, h⟩ := h
  rw [repL] at h
  subst h
  obtain ⟨A0, n0, d0, rfl⟩ := rep_sl_val k0
  obtain ⟨A1, n1, d1, rfl⟩ := rep_sl_val k1
  obtain ⟨A2, n2, d2, rfl⟩ := rep_sl_val k2
  rw [rep] at k3
  obtain ⟨rfl, k3⟩ := k3
  exact ⟨A0, n0, d0, A1, n1, d1, A2, n2, d2, rfl, k0, k1, k2, k3⟩
theorem Heap_shut {w : World} {B : Nat} {x : Hp} {Acells : Option Addr} {ncells : Nat} {ccells : Nat} {Anames : Option Addr} {nnames : Nat} {cnames : Nat} {Aslots : Option Addr} {nslots : Nat} {cslots : Nat} (rcells : rep w B (.sl (x.cells.map Cel.toD)) [.slice Acells ncells ccells]) (rnames : rep w B (.sl (x.names.map .s)) [.slice Anames nnames cnames]) (rslots : rep w B (.sl (x.slots.map (.i .i64))) [.slice Aslots nslots cslots]) (wcopies : (Lit.int .i64 x.copies).wf = true) : rep w B x.toD [.slice Acells ncells ccells, .slice Anames nnames cnames, .slice Aslots nslots cslots, .int .i64 x.copies] := by
  rw [Heap_toD, rep]
  exact ⟨[[.slice Acells ncells ccells], [.slice Anames nnames cnames], [.slice Aslots nslots cslots], [.int .i64 x.copies]], rfl, repL_cons.2 ⟨rcells, repL_cons.2 ⟨rnames, repL_cons.2 ⟨rslots, repL_cons.2 ⟨by rw [rep]; exact ⟨rfl, wcopies⟩, repL_nil⟩⟩⟩⟩⟩
theorem Heap_own {w : World} {x : Hp} {Acells : Option Addr} {ncells : Nat} {ccells : Nat} {Anames : Option Addr} {nnames : Nat} {cnames : Nat} {Aslots : Option Addr} {nslots : Nat} {cslots : Nat} {Fcells Fnames Fslots : List Nat} (rcells : own Try.prog w (.sl (x.cells.map Cel.toD)) 46 Fcells [.slice Acells ncells ccells]) (rnames : own Try.prog w (.sl (x.names.map .s)) 24 Fnames [.slice Anames nnames cnames]) (rslots : own Try.prog w (.sl (x.slots.map (.i .i64))) 41 Fslots [.slice Aslots nslots cslots]) (wcopies : (Lit.int .i64 x.copies).wf = true) : own Try.prog w x.toD 48 (Fcells ++ (Fnames ++ (Fslots ++ []))) [.slice Acells ncells ccells, .slice Anames nnames cnames, .slice Aslots nslots cslots, .int .i64 x.copies] := by
  rw [Heap_toD, own]
  exact ⟨_, [[.slice Acells ncells ccells], [.slice Anames nnames cnames], [.slice Aslots nslots cslots], [.int .i64 x.copies]], Try.underlying48, rfl, (ownL_cons rcells (ownL_cons rnames (ownL_cons rslots (ownL_cons (F1 := []) (by rw [own]; exact ⟨rfl, rfl, wcopies⟩) ownL_nil))))⟩
theorem Heap_at {w : World} {B : Nat} {l : List Hp} {A : Option Addr} {n c k : Nat} (h : rep w B (.sl (l.map Hp.toD)) [.slice A n c]) (hk : k < n) :
    ∃ (b off : Nat) (x : Hp) (Acells : Option Addr) (ncells : Nat) (ccells : Nat) (Anames : Option Addr) (nnames : Nat) (cnames : Nat) (Aslots : Option Addr) (nslots : Nat) (cslots : Nat), A = some ⟨b, off, none⟩ ∧ b < B ∧ l[k]? = some x ∧ rep w B x.toD [.slice Acells ncells ccells, .slice Anames nnames cnames, .slice Aslots nslots cslots, .int .i64 x.copies] ∧ w.cell? ⟨b, off + k * 4, none⟩ = some (.slice Acells ncells ccells) ∧ w.cell? ⟨b, off + k * 4 + 1, none⟩ = some (.slice Anames nnames cnames) ∧ w.cell? ⟨b, off + k * 4 + 2, none⟩ = some (.slice Aslots nslots cslots) ∧ w.cell? ⟨b, off + k * 4 + 3, none⟩ = some (.int .i64 x.copies) := by
  obtain ⟨b, off, x, cs, e, hb, hx, hr, hc⟩ := sl_at h hk
  obtain ⟨Acells, ncells, ccells, Anames, nnames, cnames, Aslots, nslots, cslots, rfl, _⟩ := Heap_open hr
  exact ⟨b, off, x, Acells, ncells, ccells, Anames, nnames, cnames, Aslots, nslots, cslots, e, hb, hx, hr, hc 0 _ rfl, hc 1 _ rfl, hc 2 _ rfl, hc 3 _ rfl⟩
theorem Heap_sz (x : Hp) : szD x.toD = szD (.sl (x.cells.map Cel.toD)) + (szD (.sl (x.names.map .s)) + (szD (.sl (x.slots.map (.i .i64))))) := by
  rw [Heap_toD]; simp only [szD, szDs]; omega
def Heap_szP (x : Hp) : Prop := ∀ (cs : List Value) (n : Int) (w : World), rep w w.heap.size x.toD cs → 0 ≤ n → n ≤ 1048576 → Calls Try.prog 12 #[.agg cs.toArray, .int .i64 n] w fun e w' => e = .returned (.int .i64 (lft (szD x.toD) n)) ∧ Below w.heap.size w w'
set_option maxHeartbeats 4000000 in
theorem szHeap_of (x : Hp) : Heap_szP x := by
  intro cs n w h h0 h1
  have hsz := Heap_sz x
  obtain ⟨Acells, ncells, ccells, Anames, nnames, cnames, Aslots, nslots, cslots, rfl, rcells, rnames, rslots, wcopies⟩ := Heap_open h
  have q0 := (Below.refl w.heap.size w).alloc (Nat.le_refl _) (.cells #[.slice Acells ncells ccells, .slice Anames nnames cnames, .slice Aslots nslots cslots, .int .i64 x.copies] 43)
  have HSZ := Lib.hid hsz
  clear hsz
  go_enter Try.func12, Try.ntmps12
  go_wp2_with fail
  refine (szCellS_any x.cells _ _ _ _ _ (rep_in rcells q0 q0.size) (by omega) (by omega)).mono ?_
  rintro e w1 ⟨rfl, b1⟩
  obtain ⟨hc1, _⟩ := bcell b1
  have z1 := b1.size
  (try simp only [wsize_alloc] at hc1 z1)
  have y1 : w.heap.size < w1.heap.size := by omega
  have q1 := bth q0 b1
  by_cases g0 : lft (szD (.sl (x.cells.map Cel.toD))) n < 0
  · have g0' : n < ((szD (.sl (x.cells.map Cel.toD)) : Nat) : Int) := by unfold lft at g0; split at g0 <;> omega
    go_wp2_with fail
    go_ret
    exact ⟨ret_int (by rw [HSZ.out, lft, if_neg (by omega)]), q1⟩
  have g0' : ((szD (.sl (x.cells.map Cel.toD)) : Nat) : Int) ≤ n := by unfold lft at g0; split at g0 <;> omega
  have e0 : lft (szD (.sl (x.cells.map Cel.toD))) n = n - ((szD (.sl (x.cells.map Cel.toD)) : Nat) : Int) := lft_of g0'
  obtain ⟨m0, hm0⟩ : ∃ m : Int, m = lft (szD (.sl (x.cells.map Cel.toD))) n := ⟨_, rfl⟩
  rw [← hm0] at g0 e0 ⊢
  have E0 := Lib.hid e0
  have M0 := Lib.hid hm0
  have le0 : 0 ≤ m0 ∧ m0 ≤ n := by omega
  clear e0 hm0
  skip
  go_wp2_with fail
  refine (szStringS_r x.names _ _ _ _ _ (rep_in rnames q1 q1.size) (by omega) (by omega)).mono ?_
  rintro e w2 ⟨rfl, b2⟩
  obtain ⟨hc2, _⟩ := bcell b2
  have z2 := b2.size
  (try simp only [wsize_alloc] at hc2 z2)
  have y2 : w.heap.size < w2.heap.size := by omega
  have q2 := bth q1 b2
  by_cases g1 : lft (szD (.sl (x.names.map .s))) m0 < 0
  · have g1' : m0 < ((szD (.sl (x.names.map .s)) : Nat) : Int) := by unfold lft at g1; split at g1 <;> omega
    go_wp2_with fail
    go_ret
    exact ⟨ret_int (by rw [HSZ.out, lft, if_neg (by have := E0.out; omega)]), q2⟩
  have g1' : ((szD (.sl (x.names.map .s)) : Nat) : Int) ≤ m0 := by unfold lft at g1; split at g1 <;> omega
  have e1 : lft (szD (.sl (x.names.map .s))) m0 = m0 - ((szD (.sl (x.names.map .s)) : Nat) : Int) := lft_of g1'
  obtain ⟨m1, hm1⟩ : ∃ m : Int, m = lft (szD (.sl (x.names.map .s))) m0 := ⟨_, rfl⟩
  rw [← hm1] at g1 e1 ⊢
  have E1 := Lib.hid e1
  have M1 := Lib.hid hm1
  have le1 : 0 ≤ m1 ∧ m1 ≤ m0 := by omega
  clear e1 hm1
  skip
  go_wp2_with fail
  refine (szIntS_r x.slots _ _ _ _ _ (rep_in rslots q2 q2.size) (by omega) (by omega)).mono ?_
  rintro e w3 ⟨rfl, b3⟩
  obtain ⟨hc3, _⟩ := bcell b3
  have z3 := b3.size
  (try simp only [wsize_alloc] at hc3 z3)
  have y3 : w.heap.size < w3.heap.size := by omega
  have q3 := bth q2 b3
  by_cases g2 : lft (szD (.sl (x.slots.map (.i .i64)))) m1 < 0
  · have g2' : m1 < ((szD (.sl (x.slots.map (.i .i64))) : Nat) : Int) := by unfold lft at g2; split at g2 <;> omega
    go_wp2_with fail
    go_ret
    exact ⟨ret_int (by rw [HSZ.out, lft, if_neg (by have := E0.out; have := E1.out; omega)]), q3⟩
  have g2' : ((szD (.sl (x.slots.map (.i .i64))) : Nat) : Int) ≤ m1 := by unfold lft at g2; split at g2 <;> omega
  have e2 : lft (szD (.sl (x.slots.map (.i .i64)))) m1 = m1 - ((szD (.sl (x.slots.map (.i .i64))) : Nat) : Int) := lft_of g2'
  obtain ⟨m2, hm2⟩ : ∃ m : Int, m = lft (szD (.sl (x.slots.map (.i .i64)))) m1 := ⟨_, rfl⟩
  rw [← hm2] at g2 e2 ⊢
  have E2 := Lib.hid e2
  have M2 := Lib.hid hm2
  have le2 : 0 ≤ m2 ∧ m2 ≤ m1 := by omega
  clear e2 hm2
  skip
  go_wp2_with fail
  go_ret
  exact ⟨ret_int (by rw [HSZ.out, lft, if_pos (by have := E0.out; have := E1.out; have := E2.out;  omega)] <;> (have := E0.out; have := E1.out; have := E2.out;  omega)), q3⟩
theorem szHeap_any (x : Hp) : Heap_szP x := szHeap_of x
def Heap_toP (x : Hp) : Prop := ∀ (cs : List Value) (w : World), rep w w.heap.size x.toD cs → szD x.toD ≤ 1048576 → Calls Try.prog 14 #[.agg cs.toArray] w (NewSt x.toD 48 w)
set_option maxRecDepth 100000 in
set_option maxHeartbeats 8000000 in
theorem toHeap_of (x : Hp) : Heap_toP x := by
  intro cs w h hz
  have hsz := Heap_sz x
  rw [hsz] at hz
  clear hsz
  obtain ⟨Acells, ncells, ccells, Anames, nnames, cnames, Aslots, nslots, cslots, rfl, rcells, rnames, rslots, wcopies⟩ := Heap_open h
  go_enter Try.func14, Try.ntmps14
  go_wp2_with fail
  refine (toCellS_any x.cells _ _ _ _ (rep_in rcells (by repeat' (first | with_reducible exact (Below.refl w.heap.size w) | refine Below.setCell ?_ ?_ _ | refine Below.alloc ?_ ?_ _ | ((try simp only [wsize_alloc, wsize_set]); omega))) (by simp only [wsize_alloc, wsize_set]; omega)) (by omega)).mono ?_
  rintro e w1 ⟨A1, n1, c1, G1, rfl, o1, fr1, b1⟩
  obtain ⟨hc1, hf1⟩ := bcell b1
  have z1 := b1.size
  simp only [wsize_alloc, wsize_set] at hc1 hf1 z1 fr1
  have q1 : Below w.heap.size w w1 := Below.trans (by repeat' (first | with_reducible exact (Below.refl w.heap.size w) | refine Below.setCell ?_ ?_ _ | refine Below.alloc ?_ ?_ _ | ((try simp only [wsize_alloc, wsize_set]); omega))) (b1.mono (by simp only [wsize_alloc, wsize_set]; omega))
  have y1a : w.heap.size < w1.heap.size := by omega
  have y1b : w.heap.size + 1 < w1.heap.size := by omega
  have y1c : w.heap.size + 1 + 1 < w1.heap.size := by omega
  go_wp2_with fail
  refine (toStringS_r x.names _ _ _ _ (rep_in rnames (by repeat' (first | with_reducible exact q1 | refine Below.setCell ?_ ?_ _ | refine Below.alloc ?_ ?_ _ | ((try simp only [wsize_alloc, wsize_set]); omega))) (by simp only [wsize_alloc, wsize_set]; omega)) (by omega)).mono ?_
  rintro e w2 ⟨A2, n2, c2, G2, rfl, o2, fr2, b2⟩
  obtain ⟨hc2, hf2⟩ := bcell b2
  have z2 := b2.size
  simp only [wsize_alloc, wsize_set] at hc2 hf2 z2 fr2
  have q2 : Below w.heap.size w w2 := Below.trans (by repeat' (first | with_reducible exact q1 | refine Below.setCell ?_ ?_ _ | refine Below.alloc ?_ ?_ _ | ((try simp only [wsize_alloc, wsize_set]); omega))) (b2.mono (by simp only [wsize_alloc, wsize_set]; omega))
  have y2a : w.heap.size < w2.heap.size := by omega
  have y2b : w.heap.size + 1 < w2.heap.size := by omega
  have y2c : w.heap.size + 1 + 1 < w2.heap.size := by omega
  go_wp2_with fail
  refine (toIntS_r x.slots _ _ _ _ (rep_in rslots (by repeat' (first | with_reducible exact q2 | refine Below.setCell ?_ ?_ _ | refine Below.alloc ?_ ?_ _ | ((try simp only [wsize_alloc, wsize_set]); omega))) (by simp only [wsize_alloc, wsize_set]; omega)) (by omega)).mono ?_
  rintro e w3 ⟨A3, n3, c3, G3, rfl, o3, fr3, b3⟩
  obtain ⟨hc3, hf3⟩ := bcell b3
  have z3 := b3.size
  simp only [wsize_alloc, wsize_set] at hc3 hf3 z3 fr3
  have q3 : Below w.heap.size w w3 := Below.trans (by repeat' (first | with_reducible exact q2 | refine Below.setCell ?_ ?_ _ | refine Below.alloc ?_ ?_ _ | ((try simp only [wsize_alloc, wsize_set]); omega))) (b3.mono (by simp only [wsize_alloc, wsize_set]; omega))
  have y3a : w.heap.size < w3.heap.size := by omega
  have y3b : w.heap.size + 1 < w3.heap.size := by omega
  have y3c : w.heap.size + 1 + 1 < w3.heap.size := by omega
  go_wp2_with fail
  skip
  refine bodyPost_ret (v := .agg #[.slice A1 n1 c1, .slice A2 n2 c2, .slice A3 n3 c3, .int .i64 x.copies]) (by simp [results, Try.results14, go_sem, hc1, hc2, hc3, y1a, y1b, y1c, y2a, y2b, y2c, y3a, y3b, y3c]) rfl ⟨_, G1 ++ (G2 ++ (G3 ++ [])), rfl, ?_, ?_, ?_⟩
  · refine Heap_own ?_ ?_ ?_ wcopies
    · repeat' (first | with_reducible exact o1 | refine own_poke ?_ ?_ _ | refine own_below ?_ b2 | refine own_below ?_ b3 | (exact fr1.notin (by simp only []; omega)))
    · repeat' (first | with_reducible exact o2 | refine own_poke ?_ ?_ _ | refine own_below ?_ b3 | (exact fr2.notin (by simp only []; omega)))
    · repeat' (first | with_reducible exact o3 | refine own_poke ?_ ?_ _ | (exact fr3.notin (by simp only []; omega)))
  · have k0 : Fresh w3.heap.size [] := Fresh.nil
    have j3 := Fresh.app fr3 (own_lt _ _ _ _ o3) k0 (by omega)
    have j2 := Fresh.app fr2 (own_lt _ _ _ _ o2) j3 (by omega)
    have j1 := Fresh.app fr1 (own_lt _ _ _ _ o1) j2 (by omega)
    exact j1.mono (by omega)
  · exact (by repeat' (first | with_reducible exact q3 | refine Below.setCell ?_ ?_ _ | refine Below.alloc ?_ ?_ _ | ((try simp only [wsize_alloc, wsize_set]); omega)))
theorem HeapInfo : (Try.prog.info? 48).map (fun i => (i.zero, i.size, i.bytes)) = some (some (.agg #[.slice none 0 0, .slice none 0 0, .slice none 0 0, .int .i64 0]), 4, 80) := by kernel_rfl
theorem toHeap_any (x : Hp) : Heap_toP x := toHeap_of x
def Heap_eqP (x : Hp) : Prop := ∀ (cs cs' : List Value) (w : World), rep w w.heap.size x.toD cs → rep w w.heap.size x.toD cs' → Calls Try.prog 16 #[.agg cs.toArray, .agg cs'.toArray] w fun e w' => e = .returned (.bool true) ∧ Below w.heap.size w w'
set_option maxHeartbeats 8000000 in
theorem eqHeap_of (x : Hp) : Heap_eqP x := by
  intro cs cs' w h h'
  obtain ⟨Acells, ncells, ccells, Anames, nnames, cnames, Aslots, nslots, cslots, rfl, rcells, rnames, rslots, wcopies⟩ := Heap_open h
  obtain ⟨Acells', ncells', ccells', Anames', nnames', cnames', Aslots', nslots', cslots', rfl, rcells', rnames', rslots', wcopies'⟩ := Heap_open h'
  have icopies : (x.copies != x.copies) = false := by simp
  have q0 := ((Below.refl w.heap.size w).alloc (Nat.le_refl _) (.cells #[.slice Acells ncells ccells, .slice Anames nnames cnames, .slice Aslots nslots cslots, .int .i64 x.copies] 48)).alloc (by simp only [wsize_alloc]; omega) (.cells #[.slice Acells' ncells' ccells', .slice Anames' nnames' cnames', .slice Aslots' nslots' cslots', .int .i64 x.copies] 48)
  go_enter Try.func16, Try.ntmps16
  go_wp2_with fail
  refine (eqCellS_any x.cells _ _ _ _ _ _ _ (rep_in rcells q0 q0.size) (rep_in rcells' q0 q0.size)).mono ?_
  rintro e w1 ⟨rfl, b1⟩
  obtain ⟨hc1, _⟩ := bcell b1
  have z1 := b1.size
  (try simp only [wsize_alloc] at hc1 z1)
  have y1a : w.heap.size < w1.heap.size := by omega
  have y1b : w.heap.size + 1 < w1.heap.size := by omega
  have q1 := bth q0 b1
  go_wp2_with fail
  refine (eqStringS_r x.names _ _ _ _ _ _ _ (rep_in rnames q1 q1.size) (rep_in rnames' q1 q1.size)).mono ?_
  rintro e w2 ⟨rfl, b2⟩
  obtain ⟨hc2, _⟩ := bcell b2
  have z2 := b2.size
  (try simp only [wsize_alloc] at hc2 z2)
  have y2a : w.heap.size < w2.heap.size := by omega
  have y2b : w.heap.size + 1 < w2.heap.size := by omega
  have q2 := bth q1 b2
  go_wp2_with fail
  refine (eqIntS_r x.slots _ _ _ _ _ _ _ (rep_in rslots q2 q2.size) (rep_in rslots' q2 q2.size)).mono ?_
  rintro e w3 ⟨rfl, b3⟩
  obtain ⟨hc3, _⟩ := bcell b3
  have z3 := b3.size
  (try simp only [wsize_alloc] at hc3 z3)
  have y3a : w.heap.size < w3.heap.size := by omega
  have y3b : w.heap.size + 1 < w3.heap.size := by omega
  have q3 := bth q2 b3
  go_wp2_with fail
  go_ret
  exact ⟨rfl, q3⟩
theorem eqHeap_any (x : Hp) : Heap_eqP x := eqHeap_of x
end Go.Proofs.Ytekcpadlmfaihaa
