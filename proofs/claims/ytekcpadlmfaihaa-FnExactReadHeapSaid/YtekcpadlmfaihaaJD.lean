/- The struct Vector as data; what its cells are; the law's own functions sz, to, eq over it. -/
import Derived.Test.YtekcpadlmfaihaaJC
set_option linter.unusedSimpArgs false
set_option linter.unusedVariables false
namespace Go.Proofs.Ytekcpadlmfaihaa
open Go.RowKit
theorem Vector_toD (x : Vec) : x.toD = .st [.i .i64 x.kind, .sl (x.items.map Item.toD), .sl (x.parts.map Vec.toD), .sl (x.names.map .s), .sl (x.cls.map .s), .sl (x.levels.map .s), .i .i64 x.code, .i .i64 x.env] := by first | rfl | exact toD_eq x
theorem Vector_open {w : World} {B : Nat} {x : Vec} {cs : List Value} (h : rep w B x.toD cs) : ∃ (Aitems : Option Addr) (nitems : Nat) (citems : Nat) (Aparts : Option Addr) (nparts : Nat) (cparts : Nat) (Anames : Option Addr) (nnames : Nat) (cnames : Nat) (Acls : Option Addr) (ncls : Nat) (ccls : Nat) (Alevels : Option Addr) (nlevels : Nat) (clevels : Nat), cs = [.int .i64 x.kind, .slice Aitems nitems citems, .slice Aparts nparts cparts, .slice Anames nnames cnames, .slice Acls ncls ccls, .slice Alevels nlevels clevels, .int .i64 x.code, .int .i64 x.env] ∧ (Lit.int .i64 x.kind).wf = true ∧ rep w B (.sl (x.items.map Item.toD)) [.slice Aitems nitems citems] ∧ rep w B (.sl (x.parts.map Vec.toD)) [.slice Aparts nparts cparts] ∧ rep w B (.sl (x.names.map .s)) [.slice Anames nnames cnames] ∧ rep w B (.sl (x.cls.map .s)) [.slice Acls ncls ccls] ∧ rep w B (.sl (x.levels.map .s)) [.slice Alevels nlevels clevels] ∧ (Lit.int .i64 x.code).wf = true ∧ (Lit.int .i64 x.env).wf = true := by
  rw [Vector_toD, rep] at h
  obtain ⟨css, rfl, h⟩ := h
  rw [repL] at h
  obtain ⟨c0, css, rfl, k0, h⟩ := h
  rw [repL] at h
  obtain ⟨c1, css, rfl, k1, h⟩ := h
  rw [repL] at h
  obtain ⟨c2, css, rfl, k2, h⟩ := h
  rw [repL] at h
  obtain ⟨c3, css, rfl, k3, h⟩ := h
  rw [repL] at h
  obtain ⟨c4, css, rfl, k4, h⟩ := h
  rw [repL] at h
  obtain ⟨c5, css, rfl, k5, h⟩ := h
  rw [repL] at h
  obtain ⟨c6, css, rfl, k6, h⟩ := h
  rw [repL] at h
  obtain ⟨c7, css, rfl, k7, h⟩ := h
  rw [repL] at h
  subst h
  rw [rep] at k0
  obtain ⟨rfl, k0⟩ := k0
  obtain ⟨A1, n1, d1, rfl⟩ := rep_sl_val k1
  obtain ⟨A2, n2, d2, rfl⟩ := rep_sl_val k2
  obtain ⟨A3, n3, d3, rfl⟩ := rep_sl_val k3
  obtain ⟨A4, n4, d4, rfl⟩ := rep_sl_val k4
  obtain ⟨A5, n5, d5, rfl⟩ := rep_sl_val k5
  rw [rep] at k6
  obtain ⟨rfl, k6⟩ := k6
  rw [rep] at k7
  obtain ⟨rfl, k7⟩ := k7
  exact ⟨A1, n1, d1, A2, n2, d2, A3, n3, d3, A4, n4, d4, A5, n5, d5, rfl, k0, k1, k2, k3, k4, k5, k6, k7⟩
theorem Vector_shut {w : World} {B : Nat} {x : Vec} {Aitems : Option Addr} {nitems : Nat} {citems : Nat} {Aparts : Option Addr} {nparts : Nat} {cparts : Nat} {Anames : Option Addr} {nnames : Nat} {cnames : Nat} {Acls : Option Addr} {ncls : Nat} {ccls : Nat} {Alevels : Option Addr} {nlevels : Nat} {clevels : Nat} (wkind : (Lit.int .i64 x.kind).wf = true) (ritems : rep w B (.sl (x.items.map Item.toD)) [.slice Aitems nitems citems]) (rparts : rep w B (.sl (x.parts.map Vec.toD)) [.slice Aparts nparts cparts]) (rnames : rep w B (.sl (x.names.map .s)) [.slice Anames nnames cnames]) (rcls : rep w B (.sl (x.cls.map .s)) [.slice Acls ncls ccls]) (rlevels : rep w B (.sl (x.levels.map .s)) [.slice Alevels nlevels clevels]) (wcode : (Lit.int .i64 x.code).wf = true) (wenv : (Lit.int .i64 x.env).wf = true) : rep w B x.toD [.int .i64 x.kind, .slice Aitems nitems citems, .slice Aparts nparts cparts, .slice Anames nnames cnames, .slice Acls ncls ccls, .slice Alevels nlevels clevels, .int .i64 x.code, .int .i64 x.env] := by
  rw [Vector_toD, rep]
  exact ⟨[[.int .i64 x.kind], [.slice Aitems nitems citems], [.slice Aparts nparts cparts], [.slice Anames nnames cnames], [.slice Acls ncls ccls], [.slice Alevels nlevels clevels], [.int .i64 x.code], [.int .i64 x.env]], rfl, repL_cons.2 ⟨by rw [rep]; exact ⟨rfl, wkind⟩, repL_cons.2 ⟨ritems, repL_cons.2 ⟨rparts, repL_cons.2 ⟨rnames, repL_cons.2 ⟨rcls, repL_cons.2 ⟨rlevels, repL_cons.2 ⟨by rw [rep]; exact ⟨rfl, wcode⟩, repL_cons.2 ⟨by rw [rep]; exact ⟨rfl, wenv⟩, repL_nil⟩⟩⟩⟩⟩⟩⟩⟩⟩
theorem Vector_own {w : World} {x : Vec} {Aitems : Option Addr} {nitems : Nat} {citems : Nat} {Aparts : Option Addr} {nparts : Nat} {cparts : Nat} {Anames : Option Addr} {nnames : Nat} {cnames : Nat} {Acls : Option Addr} {ncls : Nat} {ccls : Nat} {Alevels : Option Addr} {nlevels : Nat} {clevels : Nat} {Fitems Fparts Fnames Fcls Flevels : List Nat} (wkind : (Lit.int .i64 x.kind).wf = true) (ritems : own Try.prog w (.sl (x.items.map Item.toD)) 31 Fitems [.slice Aitems nitems citems]) (rparts : own Try.prog w (.sl (x.parts.map Vec.toD)) 32 Fparts [.slice Aparts nparts cparts]) (rnames : own Try.prog w (.sl (x.names.map .s)) 24 Fnames [.slice Anames nnames cnames]) (rcls : own Try.prog w (.sl (x.cls.map .s)) 24 Fcls [.slice Acls ncls ccls]) (rlevels : own Try.prog w (.sl (x.levels.map .s)) 24 Flevels [.slice Alevels nlevels clevels]) (wcode : (Lit.int .i64 x.code).wf = true) (wenv : (Lit.int .i64 x.env).wf = true) : own Try.prog w x.toD 34 (Fitems ++ (Fparts ++ (Fnames ++ (Fcls ++ (Flevels ++ []))))) [.int .i64 x.kind, .slice Aitems nitems citems, .slice Aparts nparts cparts, .slice Anames nnames cnames, .slice Acls ncls ccls, .slice Alevels nlevels clevels, .int .i64 x.code, .int .i64 x.env] := by
  rw [Vector_toD, own]
  exact ⟨_, [[.int .i64 x.kind], [.slice Aitems nitems citems], [.slice Aparts nparts cparts], [.slice Anames nnames cnames], [.slice Acls ncls ccls], [.slice Alevels nlevels clevels], [.int .i64 x.code], [.int .i64 x.env]], Try.underlying34, rfl, (ownL_cons (F1 := []) (by rw [own]; exact ⟨rfl, rfl, wkind⟩) (ownL_cons ritems (ownL_cons rparts (ownL_cons rnames (ownL_cons rcls (ownL_cons rlevels (ownL_cons (F1 := []) (by rw [own]; exact ⟨rfl, rfl, wcode⟩) (ownL_cons (F1 := []) (by rw [own]; exact ⟨rfl, rfl, wenv⟩) ownL_nil))))))))⟩
theorem Vector_at {w : World} {B : Nat} {l : List Vec} {A : Option Addr} {n c k : Nat} (h : rep w B (.sl (l.map Vec.toD)) [.slice A n c]) (hk : k < n) :
    ∃ (b off : Nat) (x : Vec) (Aitems : Option Addr) (nitems : Nat) (citems : Nat) (Aparts : Option Addr) (nparts : Nat) (cparts : Nat) (Anames : Option Addr) (nnames : Nat) (cnames : Nat) (Acls : Option Addr) (ncls : Nat) (ccls : Nat) (Alevels : Option Addr) (nlevels : Nat) (clevels : Nat), A = some ⟨b, off, none⟩ ∧ b < B ∧ l[k]? = some x ∧ rep w B x.toD [.int .i64 x.kind, .slice Aitems nitems citems, .slice Aparts nparts cparts, .slice Anames nnames cnames, .slice Acls ncls ccls, .slice Alevels nlevels clevels, .int .i64 x.code, .int .i64 x.env] ∧ w.cell? ⟨b, off + k * 8, none⟩ = some (.int .i64 x.kind) ∧ w.cell? ⟨b, off + k * 8 + 1, none⟩ = some (.slice Aitems nitems citems) ∧ w.cell? ⟨b, off + k * 8 + 2, none⟩ = some (.slice Aparts nparts cparts) ∧ w.cell? ⟨b, off + k * 8 + 3, none⟩ = some (.slice Anames nnames cnames) ∧ w.cell? ⟨b, off + k * 8 + 4, none⟩ = some (.slice Acls ncls ccls) ∧ w.cell? ⟨b, off + k * 8 + 5, none⟩ = some (.slice Alevels nlevels clevels) ∧ w.cell? ⟨b, off + k * 8 + 6, none⟩ = some (.int .i64 x.code) ∧ w.cell? ⟨b, off + k * 8 + 7, none⟩ = some (.int .i64 x.env) := by
  obtain ⟨b, off, x, cs, e, hb, hx, hr, hc⟩ := sl_at h hk
  obtain ⟨Aitems, nitems, citems, Aparts, nparts, cparts, Anames, nnames, cnames, Acls, ncls, ccls, Alevels, nlevels, clevels, rfl, _⟩ := Vector_open hr
  exact ⟨b, off, x, Aitems, nitems, citems, Aparts, nparts, cparts, Anames, nnames, cnames, Acls, ncls, ccls, Alevels, nlevels, clevels, e, hb, hx, hr, hc 0 _ rfl, hc 1 _ rfl, hc 2 _ rfl, hc 3 _ rfl, hc 4 _ rfl, hc 5 _ rfl, hc 6 _ rfl, hc 7 _ rfl⟩
theorem Vector_ind {P : Vec → Prop} (h : ∀ v, (∀ y ∈ v.parts, P y) → P v) : ∀ v, P v := by
  have key : ∀ (n : Nat) (v : Vec), SizeOf.sizeOf v ≤ n → P v := by
    intro n
    induction n with
    | zero => intro v hv; cases v; simp at hv
    | succ n ih =>
      intro v hv
      refine h v fun y hy => ih y ?_
      cases v
      have h1 := List.sizeOf_lt_of_mem hy
      simp at hv h1
      omega
  exact fun v => key _ v (Nat.le_refl _)
theorem Vector_sz (x : Vec) : szD x.toD = szD (.sl (x.items.map Item.toD)) + (szD (.sl (x.parts.map Vec.toD)) + (szD (.sl (x.names.map .s)) + (szD (.sl (x.cls.map .s)) + (szD (.sl (x.levels.map .s)))))) := by
  rw [Vector_toD]; simp only [szD, szDs]; omega
def Vector_szP (x : Vec) : Prop := ∀ (cs : List Value) (n : Int) (w : World), rep w w.heap.size x.toD cs → 0 ≤ n → n ≤ 1048576 → Calls Try.prog 25 #[.agg cs.toArray, .int .i64 n] w fun e w' => e = .returned (.int .i64 (lft (szD x.toD) n)) ∧ Below w.heap.size w w'
set_option maxHeartbeats 4000000 in
theorem szVectorS_of (l : List Vec) (ih : ∀ x ∈ l, Vector_szP x) (A : Option Addr) (len cap : Nat) (n : Int) (w : World) (h : rep w w.heap.size (.sl (l.map Vec.toD)) [.slice A len cap]) (h0 : 0 ≤ n) (h1 : n ≤ 1048576) :
    Calls Try.prog 71 #[.slice A len cap, .int .i64 n] w fun e w' => e = .returned (.int .i64 (lft (szD (.sl (l.map Vec.toD))) n)) ∧ Below w.heap.size w w' := by
  obtain ⟨hll, hlc, hcm⟩ := rep_sl_len h
  unfold maxLen at hcm
  rw [List.length_map] at hll
  rw [szD, List.length_map, hll]
  by_cases hn : n < len
  · clear hll
    go_enter Try.func71, Try.ntmps71
    go_wp2_with fail
    go_ret
    exact ⟨ret_int (by rw [lft_no (by omega)]), Below.refl _ _⟩
  · have hd : decide (n - (len : Int) < 0) = false := by simp; omega
    have HL := Lib.hid hll
    have HI := Lib.hid ih
    clear hll ih
    go_enter Try.func71, Try.ntmps71
    go_wp2_with fail
    go_loopw [1, 5] (fun m i wr => ∃ k : Nat, k ≤ len ∧ i = .int .i64 k ∧ m = .int .i64 (n - len - szDs ((l.take k).map Vec.toD)) ∧ (len + szDs ((l.take k).map Vec.toD) : Int) ≤ n ∧ Below w.heap.size w wr) (fun _ i _ => len - (intOf i).toNat)
    case atStart => exact ⟨0, by omega, rfl, by simp [szDs], by simp [szDs]; omega, Below.refl _ _⟩
    case round =>
      obtain ⟨k, hk, rfl, rfl, hle, hb⟩ := hrel
      by_cases hlt : k < len
      · obtain ⟨b, off, x, Aitems, nitems, citems, Aparts, nparts, cparts, Anames, nnames, cnames, Acls, ncls, ccls, Alevels, nlevels, clevels, rfl, hbl, hx, hrx, hc0, hc1, hc2, hc3, hc4, hc5, hc6, hc7⟩ := Vector_at (rep_below h hb) hlt
        have HT := Lib.hid (szDs_take (f := Vec.toD) hx)
        have HU := Lib.hid (szDs_le (f := Vec.toD) l (k + 1))
        have HM := Lib.hid (List.mem_of_getElem? hx)
        clear hx
        obtain ⟨q, hq⟩ : ∃ q : Nat, q = szDs ((l.take k).map Vec.toD) := ⟨_, rfl⟩
        rw [← hq] at hle ⊢
        have HQ := Lib.hid hq
        clear hq
        go_wp2_with fail
        refine (HI.out x HM.out _ _ _ (rep_more hrx hb.size) (by omega) (by omega)).mono ?_
        rintro e w1 ⟨rfl, hb1⟩
        have hlf : (len + q : Int) + szD x.toD ≤ n → lft (szD x.toD) (n - len - q) = n - len - ((q + szD x.toD : Nat) : Int) := fun h => by rw [lft_of (by omega)]; omega
        have HLF := Lib.hid hlf
        clear hlf
        by_cases hn2 : (len + q : Int) + szD x.toD ≤ n
        · have hd2 : decide (lft (szD x.toD) (n - len - q) < 0) = false := by rw [HLF.out hn2]; simp; omega
          go_wp2_with fail
          go_roundw
          case rel => exact ⟨k + 1, by omega, by go_num, by rw [HLF.out hn2, HT.out, ← HQ.out], by rw [HT.out, ← HQ.out]; omega, bth hb hb1⟩
          case measure => simp [intOf]; omega
        · have hd2 : decide (lft (szD x.toD) (n - len - q) < 0) = true := by unfold lft; rw [if_neg (by omega)]; rfl
          go_wp2_with fail
          go_ret
          exact ⟨ret_int (by rw [lft, if_neg]; have h1 := HT.out; have h2 := HU.out; have h3 := HQ.out; omega), bth hb hb1⟩
      · obtain rfl : k = len := by omega
        go_wp2_with fail
        go_ret
        rw [List.take_of_length_le (by rw [HL.out]; omega)] at hle ⊢
        exact ⟨ret_int (by rw [lft_of (by omega)]; omega), hb⟩
set_option maxHeartbeats 4000000 in
theorem szVector_of (x : Vec) (ih : ∀ y ∈ x.parts, Vector_szP y) : Vector_szP x := by
  intro cs n w h h0 h1
  have hsz := Vector_sz x
  obtain ⟨Aitems, nitems, citems, Aparts, nparts, cparts, Anames, nnames, cnames, Acls, ncls, ccls, Alevels, nlevels, clevels, rfl, wkind, ritems, rparts, rnames, rcls, rlevels, wcode, wenv⟩ := Vector_open h
  have q0 := (Below.refl w.heap.size w).alloc (Nat.le_refl _) (.cells #[.int .i64 x.kind, .slice Aitems nitems citems, .slice Aparts nparts cparts, .slice Anames nnames cnames, .slice Acls ncls ccls, .slice Alevels nlevels clevels, .int .i64 x.code, .int .i64 x.env] 26)
  have HSZ := Lib.hid hsz
  clear hsz
  go_enter Try.func25, Try.ntmps25
  go_wp2_with fail
  refine (szItemS_any x.items _ _ _ _ _ (rep_in ritems q0 q0.size) (by omega) (by omega)).mono ?_
  rintro e w1 ⟨rfl, b1⟩
  obtain ⟨hc1, _⟩ := bcell b1
  have z1 := b1.size
  (try simp only [wsize_alloc] at hc1 z1)
  have y1 : w.heap.size < w1.heap.size := by omega
  have q1 := bth q0 b1
  by_cases g0 : lft (szD (.sl (x.items.map Item.toD))) n < 0
  · have g0' : n < ((szD (.sl (x.items.map Item.toD)) : Nat) : Int) := by unfold lft at g0; split at g0 <;> omega
    go_wp2_with fail
    go_ret
    exact ⟨ret_int (by rw [HSZ.out, lft, if_neg (by omega)]), q1⟩
  have g0' : ((szD (.sl (x.items.map Item.toD)) : Nat) : Int) ≤ n := by unfold lft at g0; split at g0 <;> omega
  have e0 : lft (szD (.sl (x.items.map Item.toD))) n = n - ((szD (.sl (x.items.map Item.toD)) : Nat) : Int) := lft_of g0'
  obtain ⟨m0, hm0⟩ : ∃ m : Int, m = lft (szD (.sl (x.items.map Item.toD))) n := ⟨_, rfl⟩
  rw [← hm0] at g0 e0 ⊢
  have E0 := Lib.hid e0
  have M0 := Lib.hid hm0
  have le0 : 0 ≤ m0 ∧ m0 ≤ n := by omega
  clear e0 hm0
  skip
  go_wp2_with fail
  refine (szVectorS_of x.parts ih _ _ _ _ _ (rep_in rparts q1 q1.size) (by omega) (by omega)).mono ?_
  rintro e w2 ⟨rfl, b2⟩
  obtain ⟨hc2, _⟩ := bcell b2
  have z2 := b2.size
  (try simp only [wsize_alloc] at hc2 z2)
  have y2 : w.heap.size < w2.heap.size := by omega
  have q2 := bth q1 b2
  by_cases g1 : lft (szD (.sl (x.parts.map Vec.toD))) m0 < 0
  · have g1' : m0 < ((szD (.sl (x.parts.map Vec.toD)) : Nat) : Int) := by unfold lft at g1; split at g1 <;> omega
    go_wp2_with fail
    go_ret
    exact ⟨ret_int (by rw [HSZ.out, lft, if_neg (by have := E0.out; omega)]), q2⟩
  have g1' : ((szD (.sl (x.parts.map Vec.toD)) : Nat) : Int) ≤ m0 := by unfold lft at g1; split at g1 <;> omega
  have e1 : lft (szD (.sl (x.parts.map Vec.toD))) m0 = m0 - ((szD (.sl (x.parts.map Vec.toD)) : Nat) : Int) := lft_of g1'
  obtain ⟨m1, hm1⟩ : ∃ m : Int, m = lft (szD (.sl (x.parts.map Vec.toD))) m0 := ⟨_, rfl⟩
  rw [← hm1] at g1 e1 ⊢
  have E1 := Lib.hid e1
  have M1 := Lib.hid hm1
  have le1 : 0 ≤ m1 ∧ m1 ≤ m0 := by omega
  clear e1 hm1
  skip
  go_wp2_with fail
  refine (szStringS_r x.names _ _ _ _ _ (rep_in rnames q2 q2.size) (by omega) (by omega)).mono ?_
  rintro e w3 ⟨rfl, b3⟩
  obtain ⟨hc3, _⟩ := bcell b3
  have z3 := b3.size
  (try simp only [wsize_alloc] at hc3 z3)
  have y3 : w.heap.size < w3.heap.size := by omega
  have q3 := bth q2 b3
  by_cases g2 : lft (szD (.sl (x.names.map .s))) m1 < 0
  · have g2' : m1 < ((szD (.sl (x.names.map .s)) : Nat) : Int) := by unfold lft at g2; split at g2 <;> omega
    go_wp2_with fail
    go_ret
    exact ⟨ret_int (by rw [HSZ.out, lft, if_neg (by have := E0.out; have := E1.out; omega)]), q3⟩
  have g2' : ((szD (.sl (x.names.map .s)) : Nat) : Int) ≤ m1 := by unfold lft at g2; split at g2 <;> omega
  have e2 : lft (szD (.sl (x.names.map .s))) m1 = m1 - ((szD (.sl (x.names.map .s)) : Nat) : Int) := lft_of g2'
  obtain ⟨m2, hm2⟩ : ∃ m : Int, m = lft (szD (.sl (x.names.map .s))) m1 := ⟨_, rfl⟩
  rw [← hm2] at g2 e2 ⊢
  have E2 := Lib.hid e2
  have M2 := Lib.hid hm2
  have le2 : 0 ≤ m2 ∧ m2 ≤ m1 := by omega
  clear e2 hm2
  skip
  go_wp2_with fail
  refine (szStringS_r x.cls _ _ _ _ _ (rep_in rcls q3 q3.size) (by omega) (by omega)).mono ?_
  rintro e w4 ⟨rfl, b4⟩
  obtain ⟨hc4, _⟩ := bcell b4
  have z4 := b4.size
  (try simp only [wsize_alloc] at hc4 z4)
  have y4 : w.heap.size < w4.heap.size := by omega
  have q4 := bth q3 b4
  by_cases g3 : lft (szD (.sl (x.cls.map .s))) m2 < 0
  · have g3' : m2 < ((szD (.sl (x.cls.map .s)) : Nat) : Int) := by unfold lft at g3; split at g3 <;> omega
    go_wp2_with fail
    go_ret
    exact ⟨ret_int (by rw [HSZ.out, lft, if_neg (by have := E0.out; have := E1.out; have := E2.out; omega)]), q4⟩
  have g3' : ((szD (.sl (x.cls.map .s)) : Nat) : Int) ≤ m2 := by unfold lft at g3; split at g3 <;> omega
  have e3 : lft (szD (.sl (x.cls.map .s))) m2 = m2 - ((szD (.sl (x.cls.map .s)) : Nat) : Int) := lft_of g3'
  obtain ⟨m3, hm3⟩ : ∃ m : Int, m = lft (szD (.sl (x.cls.map .s))) m2 := ⟨_, rfl⟩
  rw [← hm3] at g3 e3 ⊢
  have E3 := Lib.hid e3
  have M3 := Lib.hid hm3
  have le3 : 0 ≤ m3 ∧ m3 ≤ m2 := by omega
  clear e3 hm3
  skip
  go_wp2_with fail
  refine (szStringS_r x.levels _ _ _ _ _ (rep_in rlevels q4 q4.size) (by omega) (by omega)).mono ?_
  rintro e w5 ⟨rfl, b5⟩
  obtain ⟨hc5, _⟩ := bcell b5
  have z5 := b5.size
  (try simp only [wsize_alloc] at hc5 z5)
  have y5 : w.heap.size < w5.heap.size := by omega
  have q5 := bth q4 b5
  by_cases g4 : lft (szD (.sl (x.levels.map .s))) m3 < 0
  · have g4' : m3 < ((szD (.sl (x.levels.map .s)) : Nat) : Int) := by unfold lft at g4; split at g4 <;> omega
    go_wp2_with fail
    go_ret
    exact ⟨ret_int (by rw [HSZ.out, lft, if_neg (by have := E0.out; have := E1.out; have := E2.out; have := E3.out; omega)]), q5⟩
  have g4' : ((szD (.sl (x.levels.map .s)) : Nat) : Int) ≤ m3 := by unfold lft at g4; split at g4 <;> omega
  have e4 : lft (szD (.sl (x.levels.map .s))) m3 = m3 - ((szD (.sl (x.levels.map .s)) : Nat) : Int) := lft_of g4'
  obtain ⟨m4, hm4⟩ : ∃ m : Int, m = lft (szD (.sl (x.levels.map .s))) m3 := ⟨_, rfl⟩
  rw [← hm4] at g4 e4 ⊢
  have E4 := Lib.hid e4
  have M4 := Lib.hid hm4
  have le4 : 0 ≤ m4 ∧ m4 ≤ m3 := by omega
  clear e4 hm4
  skip
  go_wp2_with fail
  go_ret
  exact ⟨ret_int (by rw [HSZ.out, lft, if_pos (by have := E0.out; have := E1.out; have := E2.out; have := E3.out; have := E4.out;  omega)] <;> (have := E0.out; have := E1.out; have := E2.out; have := E3.out; have := E4.out;  omega)), q5⟩
theorem szVector_any : ∀ x : Vec, Vector_szP x := Vector_ind szVector_of
theorem szVectorS_any (l : List Vec) (A : Option Addr) (len cap : Nat) (n : Int) (w : World) (h : rep w w.heap.size (.sl (l.map Vec.toD)) [.slice A len cap]) (h0 : 0 ≤ n) (h1 : n ≤ 1048576) :
    Calls Try.prog 71 #[.slice A len cap, .int .i64 n] w fun e w' => e = .returned (.int .i64 (lft (szD (.sl (l.map Vec.toD))) n)) ∧ Below w.heap.size w w' := szVectorS_of l (fun x _ => szVector_any x) A len cap n w h h0 h1
def Vector_toP (x : Vec) : Prop := ∀ (cs : List Value) (w : World), rep w w.heap.size x.toD cs → szD x.toD ≤ 1048576 → Calls Try.prog 30 #[.agg cs.toArray] w (NewSt x.toD 34 w)
theorem VectorInfo : (Try.prog.info? 34).map (fun i => (i.zero, i.size, i.bytes)) = some (some (.agg #[.int .i64 0, .slice none 0 0, .slice none 0 0, .slice none 0 0, .slice none 0 0, .slice none 0 0, .int .i64 0, .int .i64 0]), 8, 144) := by kernel_rfl
set_option maxRecDepth 100000 in
set_option maxHeartbeats 8000000 in
theorem toVectorS_of (l : List Vec) (ih : ∀ x ∈ l, Vector_toP x) (A : Option Addr) (len cap : Nat) (w : World) (h : rep w w.heap.size (.sl (l.map Vec.toD)) [.slice A len cap]) (hz : szD (.sl (l.map Vec.toD)) ≤ 1048576) :
    Calls Try.prog 75 #[.slice A len cap] w (NewSl (l.map Vec.toD) 32 w) := by
  obtain ⟨hll, hlc, hcm⟩ := rep_sl_len h
  rw [List.length_map] at hll
  rw [szD, List.length_map, hll] at hz
  obtain ⟨i0, hi0, hz0, hz1, hz2⟩ := info_parts VectorInfo
  have hmk := fun W => run_make_rowN (P := Try.prog) 32 34 i0 _ Try.underlying32 hi0 hz0 .i64 .i64 len len (Nat.le_refl _) (by rw [hz2]; omega) (by omega) W
  rw [hz1] at hmk
  have HL := Lib.hid hll
  have HI := Lib.hid ih
  clear hll ih
  go_enter Try.func75, Try.ntmps75
  go_wp2_with fail
  clear hmk
  go_loopw [4] (fun i wr => ∃ (k : Nat) (rows : List (Row 8)) (G : List Nat), k ≤ len ∧ i = .int .i64 k ∧ rows.length = k ∧ Fil wr w.heap.size 34 (len * 8) (k * 8) (rows.flatMap Row.v) ∧ ownA Try.prog wr ((l.take k).map Vec.toD) 34 G (rows.map Row.v) ∧ Fresh (w.heap.size + 1) G ∧ Below w.heap.size w wr) (fun i _ => len - (intOf i).toNat)
  case atStart => exact ⟨0, [], [], by omega, rfl, rfl, by simpa using Fil.start w 34 (madeCells #[.int .i64 0, .slice none 0 0, .slice none 0 0, .slice none 0 0, .slice none 0 0, .slice none 0 0, .int .i64 0, .int .i64 0] (len * 8)) (len * 8) (size_madeCells _ _), by rw [List.take_zero, List.map_nil, ownA]; exact ⟨rfl, rfl⟩, Fresh.nil, (Below.refl _ _).alloc (Nat.le_refl _) _⟩
  case round =>
    obtain ⟨k, rows, G, hk, rfl, hrk, hf, ho, hG, hb⟩ := hrel
    have HRK := Lib.hid hrk
    clear hrk
    by_cases hlt : k < len
    · obtain ⟨b, off, x, Aitems, nitems, citems, Aparts, nparts, cparts, Anames, nnames, cnames, Acls, ncls, ccls, Alevels, nlevels, clevels, rfl, hbl, hx, hrx, hc0, hc1, hc2, hc3, hc4, hc5, hc6, hc7⟩ := Vector_at (rep_below h hb) hlt
      have HX := Lib.hid (take_snoc' hx)
      have HM := Lib.hid (List.mem_of_getElem? hx)
      have hsx : szD x.toD ≤ 1048576 := by
        have := szDs_mem (List.mem_map_of_mem (f := Vec.toD) HM.out); omega
      clear hx
      go_wp2_with fail
      refine (HI.out x HM.out _ _ (rep_more hrx hb.size) hsx).mono ?_
      rintro e w1 ⟨cs1, G1, rfl, ho1, hG1, hb1⟩
      obtain ⟨gAitems, gnitems, gcitems, gAparts, gnparts, gcparts, gAnames, gnnames, gcnames, gAcls, gncls, gccls, gAlevels, gnlevels, gclevels, rfl, _⟩ := Vector_open (own_rep _ _ _ _ ho1)
      have hf1 := hf.next hb1
      have hl1 := hf.lt
      obtain ⟨u0, hu0⟩ := hf1.cell (k * 8) (by omega)
      have hz0 := hf1.frozen (k * 8)
      obtain ⟨u1, hu1⟩ := hf1.cell (k * 8 + 1) (by omega)
      have hz1 := hf1.frozen (k * 8 + 1)
      obtain ⟨u2, hu2⟩ := hf1.cell (k * 8 + 2) (by omega)
      have hz2 := hf1.frozen (k * 8 + 2)
      obtain ⟨u3, hu3⟩ := hf1.cell (k * 8 + 3) (by omega)
      have hz3 := hf1.frozen (k * 8 + 3)
      obtain ⟨u4, hu4⟩ := hf1.cell (k * 8 + 4) (by omega)
      have hz4 := hf1.frozen (k * 8 + 4)
      obtain ⟨u5, hu5⟩ := hf1.cell (k * 8 + 5) (by omega)
      have hz5 := hf1.frozen (k * 8 + 5)
      obtain ⟨u6, hu6⟩ := hf1.cell (k * 8 + 6) (by omega)
      have hz6 := hf1.frozen (k * 8 + 6)
      obtain ⟨u7, hu7⟩ := hf1.cell (k * 8 + 7) (by omega)
      have hz7 := hf1.frozen (k * 8 + 7)
      go_wp2_with fail
      have hfp := ((((((((hf1.put (by omega) (.int .i64 x.kind)).put (by omega) (.slice gAitems gnitems gcitems)).put (by omega) (.slice gAparts gnparts gcparts)).put (by omega) (.slice gAnames gnnames gcnames)).put (by omega) (.slice gAcls gncls gccls)).put (by omega) (.slice gAlevels gnlevels gclevels)).put (by omega) (.int .i64 x.code)).put (by omega) (.int .i64 x.env))
      have hbp := (((((((((hb.trans (hb1.mono hb.size)).setCell (p := ⟨w.heap.size, k * 8, none⟩) (Nat.le_refl _) (.int .i64 x.kind)).setCell (p := ⟨w.heap.size, k * 8 + 1, none⟩) (Nat.le_refl _) (.slice gAitems gnitems gcitems)).setCell (p := ⟨w.heap.size, k * 8 + 2, none⟩) (Nat.le_refl _) (.slice gAparts gnparts gcparts)).setCell (p := ⟨w.heap.size, k * 8 + 3, none⟩) (Nat.le_refl _) (.slice gAnames gnnames gcnames)).setCell (p := ⟨w.heap.size, k * 8 + 4, none⟩) (Nat.le_refl _) (.slice gAcls gncls gccls)).setCell (p := ⟨w.heap.size, k * 8 + 5, none⟩) (Nat.le_refl _) (.slice gAlevels gnlevels gclevels)).setCell (p := ⟨w.heap.size, k * 8 + 6, none⟩) (Nat.le_refl _) (.int .i64 x.code)).setCell (p := ⟨w.heap.size, k * 8 + 7, none⟩) (Nat.le_refl _) (.int .i64 x.env))
      have hnG : w.heap.size ∉ G ++ G1 := by
        intro hm
        rcases List.mem_append.1 hm with hm | hm
        · have := hG.2 _ hm; omega
        · have := hG1.2 _ hm; omega
      have hoA := ownA_snoc (ownA_below ho hb1) ho1
      have hoB : ownA Try.prog (((((((((w1.setCell ⟨w.heap.size, k * 8, none⟩ (.int .i64 x.kind)).setCell ⟨w.heap.size, k * 8 + 1, none⟩ (.slice gAitems gnitems gcitems)).setCell ⟨w.heap.size, k * 8 + 2, none⟩ (.slice gAparts gnparts gcparts)).setCell ⟨w.heap.size, k * 8 + 3, none⟩ (.slice gAnames gnnames gcnames)).setCell ⟨w.heap.size, k * 8 + 4, none⟩ (.slice gAcls gncls gccls)).setCell ⟨w.heap.size, k * 8 + 5, none⟩ (.slice gAlevels gnlevels gclevels)).setCell ⟨w.heap.size, k * 8 + 6, none⟩ (.int .i64 x.code)).setCell ⟨w.heap.size, k * 8 + 7, none⟩ (.int .i64 x.env))) ((l.take (k + 1)).map Vec.toD) 34 (G ++ G1) (rows.map Row.v ++ [[.int .i64 x.kind, .slice gAitems gnitems gcitems, .slice gAparts gnparts gcparts, .slice gAnames gnnames gcnames, .slice gAcls gncls gccls, .slice gAlevels gnlevels gclevels, .int .i64 x.code, .int .i64 x.env]]) := ownA_same _ _ _ _ (fun g hg => (pk (by rintro rfl; exact hnG hg) (pk (by rintro rfl; exact hnG hg) (pk (by rintro rfl; exact hnG hg) (pk (by rintro rfl; exact hnG hg) (pk (by rintro rfl; exact hnG hg) (pk (by rintro rfl; exact hnG hg) (pk (by rintro rfl; exact hnG hg) (pk (by rintro rfl; exact hnG hg) (rfl)))))))))) (by rw [HX.out, List.map_append]; exact hoA)
      go_roundw
      case rel =>
        exact ⟨k + 1, rows ++ [⟨[.int .i64 x.kind, .slice gAitems gnitems gcitems, .slice gAparts gnparts gcparts, .slice gAnames gnnames gcnames, .slice gAcls gncls gccls, .slice gAlevels gnlevels gclevels, .int .i64 x.code, .int .i64 x.env], rfl⟩], G ++ G1, by omega, by go_num, by simp [HRK.out], by rw [List.flatMap_append, show (k + 1) * 8 = k * 8 + 8 by omega]; simpa [Row.v] using hfp, by rw [List.map_append]; exact hoB, hG.app (ownA_lt _ _ _ _ ho) hG1 (by omega), hbp⟩
      case measure => simp [intOf]; omega
    · obtain rfl : k = len := by omega
      rw [List.take_of_length_le (by rw [HL.out]; omega)] at ho
      go_wp2_with fail
      go_ret
      refine ⟨_, _, _, w.heap.size :: G, rfl, ?_, ?_, hb⟩
      · rw [own]
        exact ⟨34, _, k, k, 8, rows, G, Try.underlying32, by kernel_rfl, rfl, by unfold maxLen; omega, hf.own Row.len HRK.out (Nat.le_refl _) (by unfold maxLen; omega) (Nat.zero_le _), rfl, ho⟩
      · exact ⟨List.nodup_cons.2 ⟨hG.notin (by omega), hG.1⟩, fun g hg => by
          rcases List.mem_cons.1 hg with rfl | hg
          · omega
          · have := hG.2 g hg; omega⟩
set_option maxRecDepth 100000 in
set_option maxHeartbeats 8000000 in
theorem toVector_of (x : Vec) (ih : ∀ y ∈ x.parts, Vector_toP y) : Vector_toP x := by
  intro cs w h hz
  have hsz := Vector_sz x
  rw [hsz] at hz
  clear hsz
  obtain ⟨Aitems, nitems, citems, Aparts, nparts, cparts, Anames, nnames, cnames, Acls, ncls, ccls, Alevels, nlevels, clevels, rfl, wkind, ritems, rparts, rnames, rcls, rlevels, wcode, wenv⟩ := Vector_open h
  go_enter Try.func30, Try.ntmps30
  go_wp2_with fail
  refine (toItemS_any x.items _ _ _ _ (rep_in ritems (by repeat' (first | with_reducible exact (Below.refl w.heap.size w) | refine Below.setCell ?_ ?_ _ | refine Below.alloc ?_ ?_ _ | ((try simp only [wsize_alloc, wsize_set]); omega))) (by simp only [wsize_alloc, wsize_set]; omega)) (by omega)).mono ?_
  rintro e w1 ⟨A1, n1, c1, G1, rfl, o1, fr1, b1⟩
  obtain ⟨hc1, hf1⟩ := bcell b1
  have z1 := b1.size
  simp only [wsize_alloc, wsize_set] at hc1 hf1 z1 fr1
  have q1 : Below w.heap.size w w1 := Below.trans (by repeat' (first | with_reducible exact (Below.refl w.heap.size w) | refine Below.setCell ?_ ?_ _ | refine Below.alloc ?_ ?_ _ | ((try simp only [wsize_alloc, wsize_set]); omega))) (b1.mono (by simp only [wsize_alloc, wsize_set]; omega))
  have y1a : w.heap.size < w1.heap.size := by omega
  have y1b : w.heap.size + 1 < w1.heap.size := by omega
  have y1c : w.heap.size + 1 + 1 < w1.heap.size := by omega
  go_wp2_with fail
  refine (toVectorS_of x.parts ih _ _ _ _ (rep_in rparts (by repeat' (first | with_reducible exact q1 | refine Below.setCell ?_ ?_ _ | refine Below.alloc ?_ ?_ _ | ((try simp only [wsize_alloc, wsize_set]); omega))) (by simp only [wsize_alloc, wsize_set]; omega)) (by omega)).mono ?_
  rintro e w2 ⟨A2, n2, c2, G2, rfl, o2, fr2, b2⟩
  obtain ⟨hc2, hf2⟩ := bcell b2
  have z2 := b2.size
  simp only [wsize_alloc, wsize_set] at hc2 hf2 z2 fr2
  have q2 : Below w.heap.size w w2 := Below.trans (by repeat' (first | with_reducible exact q1 | refine Below.setCell ?_ ?_ _ | refine Below.alloc ?_ ?_ _ | ((try simp only [wsize_alloc, wsize_set]); omega))) (b2.mono (by simp only [wsize_alloc, wsize_set]; omega))
  have y2a : w.heap.size < w2.heap.size := by omega
  have y2b : w.heap.size + 1 < w2.heap.size := by omega
  have y2c : w.heap.size + 1 + 1 < w2.heap.size := by omega
  go_wp2_with fail
  refine (toStringS_r x.names _ _ _ _ (rep_in rnames (by repeat' (first | with_reducible exact q2 | refine Below.setCell ?_ ?_ _ | refine Below.alloc ?_ ?_ _ | ((try simp only [wsize_alloc, wsize_set]); omega))) (by simp only [wsize_alloc, wsize_set]; omega)) (by omega)).mono ?_
  rintro e w3 ⟨A3, n3, c3, G3, rfl, o3, fr3, b3⟩
  obtain ⟨hc3, hf3⟩ := bcell b3
  have z3 := b3.size
  simp only [wsize_alloc, wsize_set] at hc3 hf3 z3 fr3
  have q3 : Below w.heap.size w w3 := Below.trans (by repeat' (first | with_reducible exact q2 | refine Below.setCell ?_ ?_ _ | refine Below.alloc ?_ ?_ _ | ((try simp only [wsize_alloc, wsize_set]); omega))) (b3.mono (by simp only [wsize_alloc, wsize_set]; omega))
  have y3a : w.heap.size < w3.heap.size := by omega
  have y3b : w.heap.size + 1 < w3.heap.size := by omega
  have y3c : w.heap.size + 1 + 1 < w3.heap.size := by omega
  go_wp2_with fail
  refine (toStringS_r x.cls _ _ _ _ (rep_in rcls (by repeat' (first | with_reducible exact q3 | refine Below.setCell ?_ ?_ _ | refine Below.alloc ?_ ?_ _ | ((try simp only [wsize_alloc, wsize_set]); omega))) (by simp only [wsize_alloc, wsize_set]; omega)) (by omega)).mono ?_
  rintro e w4 ⟨A4, n4, c4, G4, rfl, o4, fr4, b4⟩
  obtain ⟨hc4, hf4⟩ := bcell b4
  have z4 := b4.size
  simp only [wsize_alloc, wsize_set] at hc4 hf4 z4 fr4
  have q4 : Below w.heap.size w w4 := Below.trans (by repeat' (first | with_reducible exact q3 | refine Below.setCell ?_ ?_ _ | refine Below.alloc ?_ ?_ _ | ((try simp only [wsize_alloc, wsize_set]); omega))) (b4.mono (by simp only [wsize_alloc, wsize_set]; omega))
  have y4a : w.heap.size < w4.heap.size := by omega
  have y4b : w.heap.size + 1 < w4.heap.size := by omega
  have y4c : w.heap.size + 1 + 1 < w4.heap.size := by omega
  go_wp2_with fail
  refine (toStringS_r x.levels _ _ _ _ (rep_in rlevels (by repeat' (first | with_reducible exact q4 | refine Below.setCell ?_ ?_ _ | refine Below.alloc ?_ ?_ _ | ((try simp only [wsize_alloc, wsize_set]); omega))) (by simp only [wsize_alloc, wsize_set]; omega)) (by omega)).mono ?_
  rintro e w5 ⟨A5, n5, c5, G5, rfl, o5, fr5, b5⟩
  obtain ⟨hc5, hf5⟩ := bcell b5
  have z5 := b5.size
  simp only [wsize_alloc, wsize_set] at hc5 hf5 z5 fr5
  have q5 : Below w.heap.size w w5 := Below.trans (by repeat' (first | with_reducible exact q4 | refine Below.setCell ?_ ?_ _ | refine Below.alloc ?_ ?_ _ | ((try simp only [wsize_alloc, wsize_set]); omega))) (b5.mono (by simp only [wsize_alloc, wsize_set]; omega))
  have y5a : w.heap.size < w5.heap.size := by omega
  have y5b : w.heap.size + 1 < w5.heap.size := by omega
  have y5c : w.heap.size + 1 + 1 < w5.heap.size := by omega
  go_wp2_with fail
  skip
  refine bodyPost_ret (v := .agg #[.int .i64 x.kind, .slice A1 n1 c1, .slice A2 n2 c2, .slice A3 n3 c3, .slice A4 n4 c4, .slice A5 n5 c5, .int .i64 x.code, .int .i64 x.env]) (by simp [results, Try.results30, go_sem, hc1, hc2, hc3, hc4, hc5, y1a, y1b, y1c, y2a, y2b, y2c, y3a, y3b, y3c, y4a, y4b, y4c, y5a, y5b, y5c]) rfl ⟨_, G1 ++ (G2 ++ (G3 ++ (G4 ++ (G5 ++ [])))), rfl, ?_, ?_, ?_⟩
  · refine Vector_own wkind ?_ ?_ ?_ ?_ ?_ wcode wenv
    · repeat' (first | with_reducible exact o1 | refine own_poke ?_ ?_ _ | refine own_below ?_ b2 | refine own_below ?_ b3 | refine own_below ?_ b4 | refine own_below ?_ b5 | (exact fr1.notin (by simp only []; omega)))
    · repeat' (first | with_reducible exact o2 | refine own_poke ?_ ?_ _ | refine own_below ?_ b3 | refine own_below ?_ b4 | refine own_below ?_ b5 | (exact fr2.notin (by simp only []; omega)))
    · repeat' (first | with_reducible exact o3 | refine own_poke ?_ ?_ _ | refine own_below ?_ b4 | refine own_below ?_ b5 | (exact fr3.notin (by simp only []; omega)))
    · repeat' (first | with_reducible exact o4 | refine own_poke ?_ ?_ _ | refine own_below ?_ b5 | (exact fr4.notin (by simp only []; omega)))
    · repeat' (first | with_reducible exact o5 | refine own_poke ?_ ?_ _ | (exact fr5.notin (by simp only []; omega)))
  · have k0 : Fresh w5.heap.size [] := Fresh.nil
    have j5 := Fresh.app fr5 (own_lt _ _ _ _ o5) k0 (by omega)
    have j4 := Fresh.app fr4 (own_lt _ _ _ _ o4) j5 (by omega)
    have j3 := Fresh.app fr3 (own_lt _ _ _ _ o3) j4 (by omega)
    have j2 := Fresh.app fr2 (own_lt _ _ _ _ o2) j3 (by omega)
    have j1 := Fresh.app fr1 (own_lt _ _ _ _ o1) j2 (by omega)
    exact j1.mono (by omega)
  · exact (by repeat' (first | with_reducible exact q5 | refine Below.setCell ?_ ?_ _ | refine Below.alloc ?_ ?_ _ | ((try simp only [wsize_alloc, wsize_set]); omega)))
theorem toVector_any : ∀ x : Vec, Vector_toP x := Vector_ind toVector_of
theorem toVectorS_any (l : List Vec) (A : Option Addr) (len cap : Nat) (w : World) (h : rep w w.heap.size (.sl (l.map Vec.toD)) [.slice A len cap]) (hz : szD (.sl (l.map Vec.toD)) ≤ 1048576) :
    Calls Try.prog 75 #[.slice A len cap] w (NewSl (l.map Vec.toD) 32 w) := toVectorS_of l (fun x _ => toVector_any x) A len cap w h hz
def Vector_eqP (x : Vec) : Prop := ∀ (cs cs' : List Value) (w : World), rep w w.heap.size x.toD cs → rep w w.heap.size x.toD cs' → Calls Try.prog 21 #[.agg cs.toArray, .agg cs'.toArray] w fun e w' => e = .returned (.bool true) ∧ Below w.heap.size w w'
set_option maxRecDepth 100000 in
set_option maxHeartbeats 8000000 in
theorem eqVectorS_of (l : List Vec) (ih : ∀ x ∈ l, Vector_eqP x) (A A' : Option Addr) (n n' c c' : Nat) (w : World) (h : rep w w.heap.size (.sl (l.map Vec.toD)) [.slice A n c]) (h' : rep w w.heap.size (.sl (l.map Vec.toD)) [.slice A' n' c']) :
    Calls Try.prog 61 #[.slice A n c, .slice A' n' c'] w fun e w' => e = .returned (.bool true) ∧ Below w.heap.size w w' := by
  obtain ⟨hll, hlc, hcm⟩ := rep_sl_len h
  obtain ⟨hll', hlc', hcm'⟩ := rep_sl_len h'
  rw [List.length_map] at hll hll'
  obtain rfl : n' = n := by omega
  have hd : ((n' : Int) != (n' : Int)) = false := by simp
  unfold maxLen at hcm
  have HI := Lib.hid ih
  clear hll hll' ih
  go_enter Try.func61, Try.ntmps61
  go_wp2_with fail
  go_loopw [5] (fun i wr => ∃ (k : Nat), k ≤ n' ∧ i = .int .i64 k ∧ Below w.heap.size w wr) (fun i _ => n' - (intOf i).toNat)
  case atStart => exact ⟨0, by omega, rfl, Below.refl _ _⟩
  case round =>
    obtain ⟨k, hk, rfl, hb⟩ := hrel
    by_cases hlt : k < n'
    · obtain ⟨b, off, x, Aitems, nitems, citems, Aparts, nparts, cparts, Anames, nnames, cnames, Acls, ncls, ccls, Alevels, nlevels, clevels, rfl, hbl, hx, hrx, hc0, hc1, hc2, hc3, hc4, hc5, hc6, hc7⟩ := Vector_at (rep_below h hb) hlt
      obtain ⟨b', off', x', Aitems', nitems', citems', Aparts', nparts', cparts', Anames', nnames', cnames', Acls', ncls', ccls', Alevels', nlevels', clevels', rfl, hbl', hx', hrx', hd0, hd1, hd2, hd3, hd4, hd5, hd6, hd7⟩ := Vector_at (rep_below h' hb) hlt
      obtain rfl : x = x' := by rw [hx] at hx'; injection hx'
      have HM := Lib.hid (List.mem_of_getElem? hx)
      clear hx hx'
      have i1 : (0 : Int) ≤ (k : Int) := by omega
      have i2 : (k : Int) < (n' : Int) := by omega
      have hbw : b < wr.heap.size := by have := hb.size; omega
      have hbw' : b' < wr.heap.size := by have := hb.size; omega
      have hr1 := rep_more hrx hb.size
      have hr2 := rep_more hrx' hb.size
      go_wp2_with fail
      go_region_held3 (fun W => (W.cell? ⟨b, off + k * 8, none⟩ = some (.int .i64 x.kind) ∧ W.cell? ⟨b, off + k * 8 + 1, none⟩ = some (.slice Aitems nitems citems) ∧ W.cell? ⟨b, off + k * 8 + 2, none⟩ = some (.slice Aparts nparts cparts) ∧ W.cell? ⟨b, off + k * 8 + 3, none⟩ = some (.slice Anames nnames cnames) ∧ W.cell? ⟨b, off + k * 8 + 4, none⟩ = some (.slice Acls ncls ccls) ∧ W.cell? ⟨b, off + k * 8 + 5, none⟩ = some (.slice Alevels nlevels clevels) ∧ W.cell? ⟨b, off + k * 8 + 6, none⟩ = some (.int .i64 x.code) ∧ W.cell? ⟨b, off + k * 8 + 7, none⟩ = some (.int .i64 x.env)) ∧ (W.cell? ⟨b', off' + k * 8, none⟩ = some (.int .i64 x.kind) ∧ W.cell? ⟨b', off' + k * 8 + 1, none⟩ = some (.slice Aitems' nitems' citems') ∧ W.cell? ⟨b', off' + k * 8 + 2, none⟩ = some (.slice Aparts' nparts' cparts') ∧ W.cell? ⟨b', off' + k * 8 + 3, none⟩ = some (.slice Anames' nnames' cnames') ∧ W.cell? ⟨b', off' + k * 8 + 4, none⟩ = some (.slice Acls' ncls' ccls') ∧ W.cell? ⟨b', off' + k * 8 + 5, none⟩ = some (.slice Alevels' nlevels' clevels') ∧ W.cell? ⟨b', off' + k * 8 + 6, none⟩ = some (.int .i64 x.code) ∧ W.cell? ⟨b', off' + k * 8 + 7, none⟩ = some (.int .i64 x.env)))
        (first | exact ⟨⟨hc0, hc1, hc2, hc3, hc4, hc5, hc6, hc7⟩, ⟨hd0, hd1, hd2, hd3, hd4, hd5, hd6, hd7⟩⟩ | exact ⟨⟨(hb1.cell hbw).trans hc0, (hb1.cell hbw).trans hc1, (hb1.cell hbw).trans hc2, (hb1.cell hbw).trans hc3, (hb1.cell hbw).trans hc4, (hb1.cell hbw).trans hc5, (hb1.cell hbw).trans hc6, (hb1.cell hbw).trans hc7⟩, ⟨(hb1.cell hbw').trans hd0, (hb1.cell hbw').trans hd1, (hb1.cell hbw').trans hd2, (hb1.cell hbw').trans hd3, (hb1.cell hbw').trans hd4, (hb1.cell hbw').trans hd5, (hb1.cell hbw').trans hd6, (hb1.cell hbw').trans hd7⟩⟩)
        (first | (go_at_call 21; refine (HI.out x HM.out _ _ _ (by first | with_reducible exact hr1 | exact rep_drew hr1 | exact rep_drewN hr1 _) (by first | with_reducible exact hr2 | exact rep_drew hr2 | exact rep_drewN hr2 _)).mono ?_; rintro e w1 ⟨rfl, hb1⟩))
      go_wp2_with fail
      go_roundw
      case rel => exact ⟨k + 1, by omega, by go_num, bth hb.drew hb1⟩
      case measure => simp [intOf]; omega
    · obtain rfl : k = n' := by omega
      go_wp2_with fail
      go_ret
      exact ⟨rfl, hb⟩
set_option maxHeartbeats 8000000 in
theorem eqVector_of (x : Vec) (ih : ∀ y ∈ x.parts, Vector_eqP y) : Vector_eqP x := by
  intro cs cs' w h h'
  obtain ⟨Aitems, nitems, citems, Aparts, nparts, cparts, Anames, nnames, cnames, Acls, ncls, ccls, Alevels, nlevels, clevels, rfl, wkind, ritems, rparts, rnames, rcls, rlevels, wcode, wenv⟩ := Vector_open h
  obtain ⟨Aitems', nitems', citems', Aparts', nparts', cparts', Anames', nnames', cnames', Acls', ncls', ccls', Alevels', nlevels', clevels', rfl, wkind', ritems', rparts', rnames', rcls', rlevels', wcode', wenv'⟩ := Vector_open h'
  have ikind : (x.kind != x.kind) = false := by simp
  have icode : (x.code != x.code) = false := by simp
  have ienv : (x.env != x.env) = false := by simp
  have q0 := ((Below.refl w.heap.size w).alloc (Nat.le_refl _) (.cells #[.int .i64 x.kind, .slice Aitems nitems citems, .slice Aparts nparts cparts, .slice Anames nnames cnames, .slice Acls ncls ccls, .slice Alevels nlevels clevels, .int .i64 x.code, .int .i64 x.env] 34)).alloc (by simp only [wsize_alloc]; omega) (.cells #[.int .i64 x.kind, .slice Aitems' nitems' citems', .slice Aparts' nparts' cparts', .slice Anames' nnames' cnames', .slice Acls' ncls' ccls', .slice Alevels' nlevels' clevels', .int .i64 x.code, .int .i64 x.env] 34)
  go_enter Try.func21, Try.ntmps21
  go_wp2_with fail
  refine (eqItemS_any x.items _ _ _ _ _ _ _ (rep_in ritems q0 q0.size) (rep_in ritems' q0 q0.size)).mono ?_
  rintro e w1 ⟨rfl, b1⟩
  obtain ⟨hc1, _⟩ := bcell b1
  have z1 := b1.size
  (try simp only [wsize_alloc] at hc1 z1)
  have y1a : w.heap.size < w1.heap.size := by omega
  have y1b : w.heap.size + 1 < w1.heap.size := by omega
  have q1 := bth q0 b1
  go_wp2_with fail
  refine (eqVectorS_of x.parts ih _ _ _ _ _ _ _ (rep_in rparts q1 q1.size) (rep_in rparts' q1 q1.size)).mono ?_
  rintro e w2 ⟨rfl, b2⟩
  obtain ⟨hc2, _⟩ := bcell b2
  have z2 := b2.size
  (try simp only [wsize_alloc] at hc2 z2)
  have y2a : w.heap.size < w2.heap.size := by omega
  have y2b : w.heap.size + 1 < w2.heap.size := by omega
  have q2 := bth q1 b2
  go_wp2_with fail
  refine (eqStringS_r x.names _ _ _ _ _ _ _ (rep_in rnames q2 q2.size) (rep_in rnames' q2 q2.size)).mono ?_
  rintro e w3 ⟨rfl, b3⟩
  obtain ⟨hc3, _⟩ := bcell b3
  have z3 := b3.size
  (try simp only [wsize_alloc] at hc3 z3)
  have y3a : w.heap.size < w3.heap.size := by omega
  have y3b : w.heap.size + 1 < w3.heap.size := by omega
  have q3 := bth q2 b3
  go_wp2_with fail
  refine (eqStringS_r x.cls _ _ _ _ _ _ _ (rep_in rcls q3 q3.size) (rep_in rcls' q3 q3.size)).mono ?_
  rintro e w4 ⟨rfl, b4⟩
  obtain ⟨hc4, _⟩ := bcell b4
  have z4 := b4.size
  (try simp only [wsize_alloc] at hc4 z4)
  have y4a : w.heap.size < w4.heap.size := by omega
  have y4b : w.heap.size + 1 < w4.heap.size := by omega
  have q4 := bth q3 b4
  go_wp2_with fail
  refine (eqStringS_r x.levels _ _ _ _ _ _ _ (rep_in rlevels q4 q4.size) (rep_in rlevels' q4 q4.size)).mono ?_
  rintro e w5 ⟨rfl, b5⟩
  obtain ⟨hc5, _⟩ := bcell b5
  have z5 := b5.size
  (try simp only [wsize_alloc] at hc5 z5)
  have y5a : w.heap.size < w5.heap.size := by omega
  have y5b : w.heap.size + 1 < w5.heap.size := by omega
  have q5 := bth q4 b5
  go_wp2_with fail
  go_ret
  exact ⟨rfl, q5⟩
theorem eqVector_any : ∀ x : Vec, Vector_eqP x := Vector_ind eqVector_of
theorem eqVectorS_any (l : List Vec) (A A' : Option Addr) (n n' c c' : Nat) (w : World) (h : rep w w.heap.size (.sl (l.map Vec.toD)) [.slice A n c]) (h' : rep w w.heap.size (.sl (l.map Vec.toD)) [.slice A' n' c']) :
    Calls Try.prog 61 #[.slice A n c, .slice A' n' c'] w fun e w' => e = .returned (.bool true) ∧ Below w.heap.size w w' := eqVectorS_of l (fun x _ => eqVector_any x) A A' n n' c c' w h h'
end Go.Proofs.Ytekcpadlmfaihaa
