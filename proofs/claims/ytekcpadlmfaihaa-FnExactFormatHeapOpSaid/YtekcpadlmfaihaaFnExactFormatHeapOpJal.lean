/- append of one element in a region that draws its order; blocks behind an append. Vectors as texts: what formatPlain and formatFull return. Vectors as texts: the loops of formatPlain. -/
import Derived.Test.YtekcpadlmfaihaaFnExactFormatHeapOpJae
import Derived.Deep.RegionLaw
import Derived.Test.YtekcpadlmfaihaaFnExactFormatHeapOpJak
namespace Go.Proofs.Ytekcpadlmfaihaa
open Go.RowKit
theorem Blk.c3 {w : World} {g : Nat} {t : TypeId} {a b c : Value} (q : Blk w g t [a, b, c]) : w.cell? ⟨g, 0, none⟩ = some a ∧ w.cell? ⟨g, 1, none⟩ = some b ∧ w.cell? ⟨g, 2, none⟩ = some c := ⟨q.cell 0, q.cell 1, q.cell 2⟩
theorem Blk.grown {w w' : World} {g : Nat} {t : TypeId} {cs : List Value} {row : Option Nat} (h : Blk w g t cs) (hg : w.grownBy w' row) (hr : row ≠ some g) : Blk w' g t cs := (hg.block g h.lt (Ne.symm hr)).trans h
theorem Own.ne {α : Type} {enc : α → List Value} {s : Nat} {e : TypeId} {w : World} {base n c : Nat} {A : Option Addr} {l : List α} (h : Own enc s e w base A n c l) {g : Nat} (hg : g < base ∨ w.heap.size ≤ g) : (Value.slice A n c).ownBlock ≠ some g := by
  intro he
  have := h.row g he
  omega
theorem Own.dw {α : Type} {enc : α → List Value} {s : Nat} {e : TypeId} {w : World} {base n c : Nat} {A : Option Addr} {l : List α} (h : Own enc s e w base A n c l) : Own enc s e w.drew base A n c l := h.kept (only_drew (only_refl _ none)) (by cases A with | none => exact .inl rfl | some b => exact .inr (by simp [Value.ownBlock]))
theorem Own.al {α : Type} {enc : α → List Value} {s : Nat} {e : TypeId} {w : World} {base n c : Nat} {A : Option Addr} {l : List α} {o : Obj} (h : Own enc s e w base A n c l) : Own enc s e (w.alloc o) base A n c l := h.alloc o
/-- append of one element onto a row of the call's own, in a region that draws its order. -/
theorem step_app1 {P : Program} {α : Type} (enc : α → List Value) {size bytes : Nat} {t e : TypeId} (hT : ElemTy P t e size bytes) (henc : ∀ x, (enc x).length = size) (hone : ∀ x, ∀ u ∈ enc x, u.oneCell' = true)
    {ops : Array Oper} {o : Oper} {a : Act} {Q : Exit → Act → World → Prop} {K : Act → World → Prop} {E : Prop} {w : World} (hgd : o.guard = none) (sl x : Operand)
    (ho : o.op = .call { callee := .builtin .append, args := #[sl, x], argTypes := #[t, t] })
    (base : Nat) (A : Option Addr) (n c : Nat) (l : List α) (hs : a.eval sl = .slice A n c) (hown : Own enc size e w base A n c l)
    (y : α) (b m : Nat) (hx : a.eval x = .slice (some ⟨b, 0, none⟩) 1 m) {te : TypeId} (hb : Blk w b te (enc y))
    (h63 : (n + 1) * bytes ≤ 140737488355328) (hn : n + 1 ≤ maxLen) (hbase : base ≤ w.heap.size)
    (h : ∀ g c' w', Own enc size e w' base (some ⟨g, 0, none⟩) (n + 1) c' (l ++ [y]) → w.grownBy w' (Value.slice A n c).ownBlock → Below base w w' → K (a.put o.dst (.slice (some ⟨g, 0, none⟩) (n + 1) c')) w') :
    if Region.wanted o (yielded ops a.tmps) = true then Oper.wp P o a w K Q else E := by
  obtain ⟨i, z, ht, hi, hz, h1, h2, h3, h4⟩ := hT.ok
  have hlt := hown.2.lt
  refine step_append_lies w hgd sl x t ho base e i z size bytes ht hi hz h1 h2 h3 h4 _ n _ hs hown.2 ⟨b, 0, none⟩ 1 m (enc y) hx (by rw [henc, Nat.one_mul]) (World.news_of_block (cs := (enc y).toArray) hb) (hone y) (by omega) hn h63 hbase _ rfl ?_
  intro g cap w' k1 k2 k3 k4
  refine h g cap w' ⟨by simp [hown.1], ?_⟩ k2 ((Below.refl _ _).grown k2 hbase (fun k hk => (hlt k hk).1))
  rw [List.flatMap_append]; simpa using k1
end Go.Proofs.Ytekcpadlmfaihaa
namespace Go.Proofs.Ytekcpadlmfaihaa
open Go.RowKit
def ffP (d : Nat) : Prop := ∀ (v : Vec) (cs : List Value) (w : World), okD d v = true → rep w w.heap.size v.toD cs → Calls Try.prog 90 #[av cs] w fun e w' => e = .returned (sv (fmtF v)) ∧ Below w.heap.size w w'
def fpP (d : Nat) : Prop := ∀ (v : Vec) (cs : List Value) (w : World), okD d v = true → rep w w.heap.size v.toD cs → Calls Try.prog 114 #[av cs] w fun e w' => e = .returned (sv (fmtP v)) ∧ Below w.heap.size w w'
theorem fmtP_0 {v : Vec} (h : v.kind = 0) : fmtP v = [78, 85, 76, 76] := by rw [fmtP, plB, if_pos h]
theorem fmtP_5 {v : Vec} (h : v.kind = 5) : fmtP v = [60, 102, 117, 110, 99, 116, 105, 111, 110, 62] := by rw [fmtP, plB, if_neg (by omega), if_pos h]
theorem atomK_ne {k : Int} (h : atomK k = true) : ¬ k = 0 ∧ ¬ k = 5 ∧ ¬ k = 4 := by simp [atomK] at h; omega
theorem fmtP_z {v : Vec} (h : atomK v.kind = true) (h0 : v.items.length = 0) : fmtP v = zeroT v.kind := by
  have := atomK_ne h
  rw [fmtP, plB, if_neg this.1, if_neg this.2.1, if_pos ⟨h, h0⟩]
theorem fmtP_1 {v : Vec} {x : Item} (h : atomK v.kind = true) (h0 : v.items.length = 1) (hn : v.names.length = 0) (hx : v.items[0]? = some x) : fmtP v = shw v.kind x := by
  have := atomK_ne h
  rw [fmtP, plB, if_neg this.1, if_neg this.2.1, if_neg (by omega), if_pos ⟨h, h0, hn⟩, hx]; rfl
theorem fmtP_c {v : Vec} (h0 : ¬ v.kind = 0) (h5 : ¬ v.kind = 5) (h1 : ¬ (atomK v.kind = true ∧ v.items.length = 0)) (h2 : ¬ (atomK v.kind = true ∧ v.items.length = 1 ∧ v.names.length = 0)) : fmtP v = opT v.kind ++ (jn (pcs v) ++ [41]) := by
  rw [fmtP, plB, if_neg h0, if_neg h5, if_neg h1, if_neg h2]; rfl
set_option maxRecDepth 100000 in
set_option maxHeartbeats 4000000 in
/-- The kinds that need no loop. -/
theorem formatPlain_s (d : Nat) (v : Vec) (cs : List Value) (w : World) (hok : okD d v = true) (h : rep w w.heap.size v.toD cs)
    (hs : v.kind = 0 ∨ v.kind = 5 ∨ (atomK v.kind = true ∧ v.items.length = 0) ∨ (atomK v.kind = true ∧ v.items.length = 1 ∧ v.names.length = 0)) :
    Calls Try.prog 114 #[av cs] w fun e w' => e = .returned (sv (fmtP v)) ∧ Below w.heap.size w w' := by
  have hf := FV.of (okD_shape hok)
  obtain ⟨Ai, ni, ci, Ap, np, cp, An, nn, cn, Ac, nc, cc, Al, nl, cl, rfl, hv⟩ := vec_open h
  have q0 := (Below.refl w.heap.size w).alloc (Nat.le_refl _) (.cells (vc v Ai ni ci Ap np cp An nn cn Ac nc cc Al nl cl).toArray 34)
  have li := hv.it.len
  have ln := hv.na.len
  rcases hs with hs | hs | ⟨ha, hz⟩ | ⟨ha, hz, hn⟩
  · have HP := Lib.hid (fmtP_0 hs)
    have k0 : (v.kind == 0) = true := by simpa using hs
    clear hs li ln
    go_enter Try.func114, Try.ntmps114
    go_wp2_with fail
    go_ret
    exact ⟨ret_str HP.out.symm, q0⟩
  · have HP := Lib.hid (fmtP_5 hs)
    have k0 : (v.kind == 0) = false := by simp [hs]
    have k5 : (v.kind == 5) = true := by simpa using hs
    clear hs li ln
    go_enter Try.func114, Try.ntmps114
    go_wp2_with fail
    go_ret
    exact ⟨ret_str HP.out.symm, q0⟩
  · have HP := Lib.hid (fmtP_z ha hz)
    obtain rfl : ni = 0 := by omega
    have hk : v.kind = 1 ∨ v.kind = 2 ∨ v.kind = 3 := by simp [atomK] at ha; omega
    obtain ⟨kd, its, prs, nms, cls, lvs, cod, env⟩ := v
    simp only at hk HP q0
    have HA := Lib.hid ha
    clear ha hz li ln
    rcases hk with rfl | rfl | rfl
    all_goals
      go_enter Try.func114, Try.ntmps114
      go_wp2_with fail
      refine (isAtomic_any _ _ _ (rep_next h q0)).mono ?_
      rw [HA.out]
      rintro e w1 ⟨rfl, hb1⟩
      obtain ⟨hc1, hf1⟩ := bcell hb1
      have hz1 := hb1.size
      simp only [wsize_alloc] at hc1 hf1 hz1
      have hzz : w.heap.size < w1.heap.size := by omega
      go_wp2_with fail
      go_ret
      refine ⟨ret_str (by rw [HP.out]; rfl), ?_⟩
      have q1 := bth q0 hb1
      have := q1.size
      (repeat' (first | with_reducible assumption | with_reducible exact Below.refl _ _ | with_reducible refine bel_dw ?_ | with_reducible refine bel_al ?_ ?_ | with_reducible refine bel_set ?_ ?_ | with_reducible refine bel_call ?_ (by with_reducible assumption) ?_ | ((try simp only [wsize_drew, wsize_alloc, wsize_set]); omega)))
  · have hi0 : 0 < v.items.length := by omega
    have hx : v.items[0]? = some v.items[0] := by simp
    have HP := Lib.hid (fmtP_1 ha hz hn hx)
    have hk : ¬ v.kind = 0 ∧ ¬ v.kind = 5 := ⟨(atomK_ne ha).1, (atomK_ne ha).2.1⟩
    have k0 : (v.kind == 0) = false := by simpa using hk.1
    have k5 : (v.kind == 5) = false := by simpa using hk.2
    have HT := Lib.hid (item_text (hf.it _ (List.getElem_mem hi0)) ha)
    obtain ⟨rfl⟩ : ni = 1 := by omega
    obtain ⟨rfl⟩ : nn = 0 := by omega
    obtain ⟨b, off, x, rfl, hbl, hx', e0, e1, e2⟩ := hv.it.at3 (k := 0) (by omega)
    rw [hx] at hx'; injection hx' with hx'
    rw [hx'] at HP HT
    simp only [Nat.zero_mul, Nat.add_zero] at e0 e1 e2
    have HA := Lib.hid ha
    clear ha hz hn hi0 hx hx' li ln hk
    go_enter Try.func114, Try.ntmps114
    go_wp2_with fail
    refine (isAtomic_any _ _ _ (rep_next h q0)).mono ?_
    rw [HA.out]
    rintro e w1 ⟨rfl, hb1⟩
    have q1 := bth q0 hb1
    obtain ⟨hc1, hf1⟩ := bcell hb1
    have hz1 := hb1.size
    simp only [wsize_alloc] at hc1 hf1 hz1
    go_wp2_with fail
    refine (isAtomic_any _ _ _ (rep_next (rep_next h q0) hb1)).mono ?_
    rw [HA.out]
    rintro e w2 ⟨rfl, hb2⟩
    have q2 := bth q1 hb2
    have kv : Blk w2 w.heap.size 34 (vc v (some ⟨b, off, none⟩) 1 ci Ap np cp An 0 cn Ac nc cc Al nl cl) := (Blk.new'.next hb1).next hb2
    have f0 := (q2.cell (p := ⟨b, off, none⟩) hbl).trans e0
    have f1 := (q2.cell (p := ⟨b, off + 1, none⟩) hbl).trans e1
    have f2 := (q2.cell (p := ⟨b, off + 2, none⟩) hbl).trans e2
    obtain ⟨g0, g1, g2, g3, g4, g5, g6, g7⟩ := kv.c8
    clear hc1 hf1 e0 e1 e2
    have yw : w.heap.size < w2.heap.size := kv.lt
    have yb : b < w2.heap.size := by omega
    go_upto_region 9 with fail
    go_region_held3 (fun W => W.cell? ⟨w.heap.size, 0, none⟩ = some (.int .i64 v.kind) ∧ W.cell? ⟨w.heap.size, 1, none⟩ = some (.slice (some ⟨b, off, none⟩) 1 ci) ∧ W.cell? ⟨b, off, none⟩ = some (.int .i64 x.num) ∧ W.cell? ⟨b, off + 1, none⟩ = some (.int .i64 x.den) ∧ W.cell? ⟨b, off + 2, none⟩ = some (sv x.text))
      (first | go_keep | trivial)
      (first | (go_at_call 125; refine (formatItem_any _ x _ ?_).mono ?_; (have := HT.out; omega); rintro e w3 ⟨rfl, hb3⟩; obtain ⟨hc3, hf3⟩ := bcell hb3; simp only [wsize_drew] at hc3 hf3))
    all_goals
      go_wp2_with fail
      go_ret
      refine ⟨ret_str HP.out.symm, ?_⟩
      have := q2.size
      (repeat' (first | with_reducible assumption | with_reducible exact Below.refl _ _ | with_reducible refine bel_dw ?_ | with_reducible refine bel_al ?_ ?_ | with_reducible refine bel_set ?_ ?_ | with_reducible refine bel_call ?_ (by with_reducible assumption) ?_ | ((try simp only [wsize_drew, wsize_alloc, wsize_set]); omega)))
end Go.Proofs.Ytekcpadlmfaihaa
namespace Go.Proofs.Ytekcpadlmfaihaa
open Go.RowKit
theorem fmtF_le3 {d : Nat} (hd : d ≤ 3) {p : Vec} (h : okD d p = true) : (fmtF p).length ≤ 68921000000000000 := Nat.le_trans (fmtF_len d p h) (lim_3 hd)
theorem pcs_B {d : Nat} (hd : d ≤ 3) {v : Vec} (h : okD d v = true) : ∀ x ∈ pcs v, x.length ≤ 100000000000000000 := fun x hx => by
  have h1 := pcs_le (d := d) (fun d' p _ hp => fmtF_len d' p hp) h x hx
  have h2 := lim_3 (d := d - 1) (by omega)
  split at h1 <;> omega
def fpL (v : Vec) (w : World) (o n : Nat) (cs : List Value) (v3 vi : Value) (wr : World) : Prop := ∃ (k : Nat) (Ao : Option Addr) (co : Nat), k ≤ n ∧ vi = .int .i64 k ∧ v3 = .slice Ao (o + k) co ∧ Own encS 1 9 wr (w.heap.size + 1) Ao (o + k) co ((pcs v).take (o + k)) ∧ Blk wr w.heap.size 34 cs ∧ Below w.heap.size w wr
set_option maxRecDepth 100000 in
set_option maxHeartbeats 8000000 in
theorem formatPlain_l (d : Nat) (hd : d ≤ 3) (ih : ∀ d', d = d' + 1 → ffP d') (v : Vec) (cs : List Value) (w : World) (hok : okD d v = true) (h : rep w w.heap.size v.toD cs)
    (n0 : ¬ v.kind = 0) (n5 : ¬ v.kind = 5) (nz : ¬ (atomK v.kind = true ∧ v.items.length = 0)) (n1 : ¬ (atomK v.kind = true ∧ v.items.length = 1 ∧ v.names.length = 0)) :
    Calls Try.prog 114 #[av cs] w fun e w' => e = .returned (sv (fmtP v)) ∧ Below w.heap.size w w' := by
  have hf := FV.of (okD_shape hok)
  have HP := Lib.hid (fmtP_c n0 n5 nz n1)
  have HB := Lib.hid (pcs_B hd hok)
  have HIH := Lib.hid ih
  have HOK := Lib.hid hok
  obtain ⟨Ai, ni, ci, Ap, np, cp, An, nn, cn, Ac, nc, cc, Al, nl, cl, rfl, hv⟩ := vec_open h
  have q0 := (Below.refl w.heap.size w).alloc (Nat.le_refl _) (.cells (vc v Ai ni ci Ap np cp An nn cn Ac nc cc Al nl cl).toArray 34)
  have li := hv.it.len
  have ln := hv.na.len
  have lp := hv.pab.2.2
  have hlen := hf.len
  have hatom := hf.ni
  rw [li, lp] at hlen
  rw [li] at hatom
  have k0 : (v.kind == 0) = false := by simpa using n0
  have k5 : (v.kind == 5) = false := by simpa using n5
  have hw3 : (atomK v.kind = true ∧ ((ni : Int) == 0) = false ∧ ((ni : Int) == 1) = false) ∨ (atomK v.kind = true ∧ ((ni : Int) == 0) = false ∧ ((ni : Int) == 1) = true ∧ ((nn : Int) == 0) = false) ∨ atomK v.kind = false := by
    cases ha : atomK v.kind with
    | false => exact .inr (.inr rfl)
    | true =>
      have z : ¬ ni = 0 := fun hz => nz ⟨ha, by omega⟩
      by_cases h1 : ni = 1
      · have : ¬ nn = 0 := fun hz => n1 ⟨ha, by omega, by omega⟩
        exact .inr (.inl ⟨rfl, by simp; omega, by simp; omega, by simp; omega⟩)
      · exact .inl ⟨rfl, by simp; omega, by simp; omega⟩
  have LI := Lib.hid li
  have LP := Lib.hid lp
  have HN := Lib.hid hf.names
  have HT := Lib.hid (fun x (hx : x ∈ v.items) (h0 : 0 < ni) => item_text (hf.it x hx) (hatom h0))
  clear hok ih n0 n5 nz n1 li ln lp hatom
  rcases hw3 with ⟨ha, hz, h1⟩ | ⟨ha, hz, h1, hnn⟩ | ha
  all_goals
    have HA := Lib.hid ha
    clear ha
    go_enter Try.func114, Try.ntmps114
    go_wp2_with fail
    refine (isAtomic_any _ _ _ (rep_next h q0)).mono ?_
    rw [HA.out]
    rintro e w1 ⟨rfl, hb1⟩
    have q1 := bth q0 hb1
    obtain ⟨hc1, hf1⟩ := bcell hb1
    have hz1 := hb1.size
    simp only [wsize_alloc] at hc1 hf1 hz1
    go_wp2_with fail
    refine (isAtomic_any _ _ _ (rep_next (rep_next h q0) hb1)).mono ?_
    rw [HA.out]
    rintro e w2 ⟨rfl, hb2⟩
    have q2 := bth q1 hb2
    have kv : Blk w2 w.heap.size 34 (vc v Ai ni ci Ap np cp An nn cn Ac nc cc Al nl cl) := (Blk.new'.next hb1).next hb2
    obtain ⟨g0, g1, g2, g3, g4, g5, g6, g7⟩ := kv.c8
    clear hc1 hf1 hb2 hb1 q1
    go_wp2_with fail
    clear g0 g1 g2 g3 g4 g5 g6 g7
    go_loopw [3, 52] (fun v3 v52 wr => fpL v w 0 ni (vc v Ai ni ci Ap np cp An nn cn Ac nc cc Al nl cl) v3 v52 wr) (fun _ v52 _ => ni - (intOf v52).toNat)
    case atStart => exact ⟨0, none, 0, by omega, rfl, rfl, Own.nil_, kv, q2⟩
    case round =>
      clear kv q2
      obtain ⟨k, Ao, co, hk, rfl, rfl, ho, kv, bb⟩ := hrel
      have z0 := kv.lt
      obtain ⟨g0, g1, g2, g3, g4, g5, g6, g7⟩ := kv.c8
      by_cases hlt : k < ni
      · obtain ⟨b, off, x, rfl, hbl, hx, e0, e1, e2⟩ := (hv.it.below bb).at3 hlt
        have HX := Lib.hid (take_snoc' (pcs_item hx))
        have ht60 := HT.out x (List.mem_of_getElem? hx) (by omega)
        have hl1 := lbl_len (nam v.names k)
        have hl2 := nam_len HN.out k
        have hl3 := shw_len (kind := v.kind) ht60
        clear hx
        rw [Nat.zero_add] at ho
        have rv := rep_in h bb (by omega)
        have ki : Blk (wr.alloc (.cells #[.int .i64 x.num, .int .i64 x.den, sv x.text] 101)) wr.heap.size 101 [.int .i64 x.num, .int .i64 x.den, sv x.text] := Blk.new'
        have kv1 := kv.al (o := .cells #[.int .i64 x.num, .int .i64 x.den, sv x.text] 101)
        have rv1 := rep_al (o := .cells #[.int .i64 x.num, .int .i64 x.den, sv x.text] 101) rv
        have ho1 := ho.al (o := .cells #[.int .i64 x.num, .int .i64 x.den, sv x.text] 101)
        have bb1 := bel_al (o := .cells #[.int .i64 x.num, .int .i64 x.den, sv x.text] 101) bb (by omega)
        have hne := ho.ne (g := wr.heap.size) (.inr (Nat.le_refl _))
        have hne2 := ho.ne (g := w.heap.size) (.inl (by omega))
        have i1 : ¬ 9223372036854775807 < (lbl (nam v.names k)).length + (shw v.kind x).length := by omega
        go_upto_region 14 with fail
        have zW : wr.heap.size < (wr.alloc (.cells #[.int .i64 x.num, .int .i64 x.den, sv x.text] 101)).heap.size := by simp only [wsize_alloc]; omega
        generalize wr.alloc (.cells #[.int .i64 x.num, .int .i64 x.den, sv x.text] 101) = W1 at ki kv1 rv1 ho1 bb1 zW ⊢
        clear g0 g1 g2 g3 g4 g5 g6 g7 kv rv ho bb e0 e1 e2
        obtain ⟨g0, g1, g2, g3, g4, g5, g6, g7⟩ := kv1.c8
        obtain ⟨e0, e1, e2⟩ := ki.c3
        have yw : w.heap.size < W1.heap.size := by omega
        go_region_held3 (fun W => (W.cell? ⟨w.heap.size, 0, none⟩ = some (.int .i64 v.kind) ∧ W.cell? ⟨w.heap.size, 1, none⟩ = some (.slice (some ⟨b, off, none⟩) ni ci) ∧ W.cell? ⟨w.heap.size, 2, none⟩ = some (.slice Ap np cp) ∧ W.cell? ⟨w.heap.size, 3, none⟩ = some (.slice An nn cn) ∧ W.cell? ⟨w.heap.size, 4, none⟩ = some (.slice Ac nc cc) ∧ W.cell? ⟨w.heap.size, 5, none⟩ = some (.slice Al nl cl) ∧ W.cell? ⟨w.heap.size, 6, none⟩ = some (.int .i64 v.code) ∧ W.cell? ⟨w.heap.size, 7, none⟩ = some (.int .i64 v.env)) ∧ (W.cell? ⟨wr.heap.size, 0, none⟩ = some (.int .i64 x.num) ∧ W.cell? ⟨wr.heap.size, 1, none⟩ = some (.int .i64 x.den) ∧ W.cell? ⟨wr.heap.size, 2, none⟩ = some (sv x.text)))
          (first | (refine ⟨Blk.c8 (t := 34) ?_, Blk.c3 (t := 101) ?_⟩ <;> (repeat' (first | with_reducible assumption | with_reducible exact Blk.new' | with_reducible exact Blk.newd | with_reducible apply Blk.set8 | (with_reducible refine Blk.pk ?_ ?_; ((try simp only [wsize_drew, wsize_alloc, wsize_set]); omega)) | with_reducible refine Blk.dw ?_ | with_reducible refine Blk.al ?_ | with_reducible refine Blk.next ?_ (by with_reducible assumption))); done) | go_keep)
          (first
            | (go_at_call 127; refine (nameAt_any v _ k _ (by (repeat' (first | with_reducible assumption | with_reducible refine rep_dw ?_ | with_reducible refine rep_al ?_ | with_reducible refine rep_next ?_ (by with_reducible assumption))))).mono ?_; rintro e w3 ⟨rfl, hb3⟩; obtain ⟨hc3, hf3⟩ := bcell hb3; have z3 := hb3.size; (try simp only [wsize_drew, wsize_alloc, wsize_set] at hc3 hf3 z3))
            | (go_at_call 126; refine (formatLabel_any _ _ ?_).mono ?_; (omega); rintro e w4 ⟨rfl, hb4⟩; obtain ⟨hc4, hf4⟩ := bcell hb4; have z4 := hb4.size; (try simp only [wsize_drew, wsize_alloc, wsize_set] at hc4 hf4 z4))
            | (go_at_call 125; refine (formatItem_any _ x _ ?_).mono ?_; (omega); rintro e w5 ⟨rfl, hb5⟩; obtain ⟨hc5, hf5⟩ := bcell hb5; have z5 := hb5.size; (try simp only [wsize_drew, wsize_alloc, wsize_set] at hc5 hf5 z5))
            | (refine step_app1 encS tyStr encS_len encS_one ?_ (.tmp 57) (.tmp 67) ?_ (w.heap.size + 1) Ao k co ((pcs v).take k) ?_ ?_ (lbl (nam v.names k) ++ shw v.kind x) w5.heap.size 1 ?_ (te := 9) ?_ ?_ ?_ ?_ ?_; (rfl); (rfl); (rfl); (focus ((repeat' (first | with_reducible assumption | with_reducible refine Own.dw ?_ | with_reducible refine Own.al ?_ | with_reducible refine Own.below ?_ (by with_reducible assumption))); done)); (rfl); (exact Blk.new'); (omega); (unfold maxLen; omega); (((try simp only [wsize_drew, wsize_alloc, wsize_set]); omega)); intro gg cg w6 ho6 hg6 hb6; have kv6 := Blk.grown (t := 34) (cs := vc v (some ⟨b, off, none⟩) ni ci Ap np cp An nn cn Ac nc cc Al nl cl) (g := w.heap.size) (by (repeat' (first | with_reducible assumption | with_reducible exact Blk.new' | with_reducible exact Blk.newd | with_reducible apply Blk.set8 | (with_reducible refine Blk.pk ?_ ?_; ((try simp only [wsize_drew, wsize_alloc, wsize_set]); omega)) | with_reducible refine Blk.dw ?_ | with_reducible refine Blk.al ?_ | with_reducible refine Blk.next ?_ (by with_reducible assumption)))) hg6 hne2; have ki6 := Blk.grown (t := 101) (cs := [.int .i64 x.num, .int .i64 x.den, sv x.text]) (g := wr.heap.size) (by (repeat' (first | with_reducible assumption | with_reducible exact Blk.new' | with_reducible exact Blk.newd | with_reducible apply Blk.set8 | (with_reducible refine Blk.pk ?_ ?_; ((try simp only [wsize_drew, wsize_alloc, wsize_set]); omega)) | with_reducible refine Blk.dw ?_ | with_reducible refine Blk.al ?_ | with_reducible refine Blk.next ?_ (by with_reducible assumption)))) hg6 hne))
        all_goals
          go_wp2_with fail
          go_roundw
          case rel =>
            refine ⟨k + 1, some ⟨gg, 0, none⟩, cg, by omega, by go_num, by rw [Nat.zero_add], by rw [Nat.zero_add, HX.out]; exact ho6, kv6, ?_⟩
            have b5 : Below w.heap.size w w5 := by (repeat' (first | with_reducible assumption | with_reducible exact Below.refl _ _ | with_reducible refine bel_dw ?_ | with_reducible refine bel_al ?_ ?_ | with_reducible refine bel_set ?_ ?_ | with_reducible refine bel_call ?_ (by with_reducible assumption) ?_ | ((try simp only [wsize_drew, wsize_alloc, wsize_set]); omega)))
            exact (bel_al b5 (by omega)).trans (hb6.mono (by omega))
          case measure => simp only [intOf]; omega
      · obtain rfl : k = ni := by omega
        rw [Nat.zero_add] at ho
        clear hlt hk
        go_wp2_with fail
        clear g0 g1 g2 g3 g4 g5 g6 g7
        go_loopw [3, 73] (fun v3 v73 wr => fpL v w k np (vc v Ai k ci Ap np cp An nn cn Ac nc cc Al nl cl) v3 v73 wr) (fun _ v73 _ => np - (intOf v73).toNat)
        case atStart => exact ⟨0, Ao, co, by omega, rfl, by rw [Nat.zero_add, Nat.add_zero], ho, kv, bb⟩
        case round =>
          clear ho kv bb z0
          obtain ⟨j, Aj, cj, hj, rfl, rfl, ho, kv, bb⟩ := hrel
          have z0 := kv.lt
          obtain ⟨g0, g1, g2, g3, g4, g5, g6, g7⟩ := kv.c8
          by_cases hlt : j < np
          · obtain ⟨b, off, x, Bi, mi, di, Bp, mp, dp, Bn, mn, dn, Bc, mc, dc, Bl, ml, dl, rfl, hbl, hx, hrx, hvx, e0, e1, e2, e3, e4, e5, e6, e7⟩ := parts_at (rep_below hv.pa bb) hlt
            have hk4 : v.kind = 4 := hf.np (by rw [LP.out]; omega)
            have hi0 : k = 0 := by
              rcases Nat.eq_zero_or_pos k with h0 | h0
              · exact h0
              · have := hf.ni (by rw [LI.out]; exact h0)
                rw [hk4] at this; simp [atomK] at this
            have hit : v.items = [] := List.length_eq_zero_iff.1 (by rw [LI.out]; exact hi0)
            have HX : Hid ((pcs v).take (k + j + 1) = (pcs v).take (k + j) ++ [lbl (nam v.names j) ++ fmtF x]) := Lib.hid (take_snoc' (by rw [hi0, Nat.zero_add]; exact pcs_part hx hit))
            obtain ⟨d', hdd, hokx⟩ := okD_part HOK.out (List.mem_of_getElem? hx)
            have HC := Lib.hid (fun cs w => HIH.out d' hdd x cs w hokx)
            have hl1 := lbl_len (nam v.names j)
            have hl2 := nam_len HN.out j
            have hl3 := fmtF_le3 (by omega) hokx
            clear hx hk4 hi0 hit hdd hokx
            have rv := rep_in h bb (by omega)
            have rx := rep_al (o := (.cells #[.int .i64 x.kind, .slice Bi mi di, .slice Bp mp dp, .slice Bn mn dn, .slice Bc mc dc, .slice Bl ml dl, .int .i64 x.code, .int .i64 x.env] 34)) (rep_more hrx bb.size)
            have ki : Blk (wr.alloc (.cells #[.int .i64 x.kind, .slice Bi mi di, .slice Bp mp dp, .slice Bn mn dn, .slice Bc mc dc, .slice Bl ml dl, .int .i64 x.code, .int .i64 x.env] 34)) wr.heap.size 34 [.int .i64 x.kind, .slice Bi mi di, .slice Bp mp dp, .slice Bn mn dn, .slice Bc mc dc, .slice Bl ml dl, .int .i64 x.code, .int .i64 x.env] := Blk.new'
            have kv1 := kv.al (o := (.cells #[.int .i64 x.kind, .slice Bi mi di, .slice Bp mp dp, .slice Bn mn dn, .slice Bc mc dc, .slice Bl ml dl, .int .i64 x.code, .int .i64 x.env] 34))
            have rv1 := rep_al (o := (.cells #[.int .i64 x.kind, .slice Bi mi di, .slice Bp mp dp, .slice Bn mn dn, .slice Bc mc dc, .slice Bl ml dl, .int .i64 x.code, .int .i64 x.env] 34)) rv
            have ho1 := ho.al (o := (.cells #[.int .i64 x.kind, .slice Bi mi di, .slice Bp mp dp, .slice Bn mn dn, .slice Bc mc dc, .slice Bl ml dl, .int .i64 x.code, .int .i64 x.env] 34))
            have bb1 := bel_al (o := (.cells #[.int .i64 x.kind, .slice Bi mi di, .slice Bp mp dp, .slice Bn mn dn, .slice Bc mc dc, .slice Bl ml dl, .int .i64 x.code, .int .i64 x.env] 34)) bb (by omega)
            have hne := ho.ne (g := wr.heap.size) (.inr (Nat.le_refl _))
            have hne2 := ho.ne (g := w.heap.size) (.inl (by omega))
            have i1 : ¬ 9223372036854775807 < (lbl (nam v.names j)).length + (fmtF x).length := by omega
            go_upto_region 19 with fail
            have zW : wr.heap.size < (wr.alloc (.cells #[.int .i64 x.kind, .slice Bi mi di, .slice Bp mp dp, .slice Bn mn dn, .slice Bc mc dc, .slice Bl ml dl, .int .i64 x.code, .int .i64 x.env] 34)).heap.size := by simp only [wsize_alloc]; omega
            generalize wr.alloc (.cells #[.int .i64 x.kind, .slice Bi mi di, .slice Bp mp dp, .slice Bn mn dn, .slice Bc mc dc, .slice Bl ml dl, .int .i64 x.code, .int .i64 x.env] 34) = W1 at ki kv1 rv1 rx ho1 bb1 zW ⊢
            clear g0 g1 g2 g3 g4 g5 g6 g7 kv rv ho bb e0 e1 e2 e3 e4 e5 e6 e7 hrx
            obtain ⟨g0, g1, g2, g3, g4, g5, g6, g7⟩ := kv1.c8
            obtain ⟨e0, e1, e2, e3, e4, e5, e6, e7⟩ := ki.c8
            have yw : w.heap.size < W1.heap.size := by omega
            go_region_held3 (fun W => (W.cell? ⟨w.heap.size, 0, none⟩ = some (.int .i64 v.kind) ∧ W.cell? ⟨w.heap.size, 1, none⟩ = some (.slice Ai k ci) ∧ W.cell? ⟨w.heap.size, 2, none⟩ = some (.slice (some ⟨b, off, none⟩) np cp) ∧ W.cell? ⟨w.heap.size, 3, none⟩ = some (.slice An nn cn) ∧ W.cell? ⟨w.heap.size, 4, none⟩ = some (.slice Ac nc cc) ∧ W.cell? ⟨w.heap.size, 5, none⟩ = some (.slice Al nl cl) ∧ W.cell? ⟨w.heap.size, 6, none⟩ = some (.int .i64 v.code) ∧ W.cell? ⟨w.heap.size, 7, none⟩ = some (.int .i64 v.env)) ∧ (W.cell? ⟨wr.heap.size, 0, none⟩ = some (.int .i64 x.kind) ∧ W.cell? ⟨wr.heap.size, 1, none⟩ = some (.slice Bi mi di) ∧ W.cell? ⟨wr.heap.size, 2, none⟩ = some (.slice Bp mp dp) ∧ W.cell? ⟨wr.heap.size, 3, none⟩ = some (.slice Bn mn dn) ∧ W.cell? ⟨wr.heap.size, 4, none⟩ = some (.slice Bc mc dc) ∧ W.cell? ⟨wr.heap.size, 5, none⟩ = some (.slice Bl ml dl) ∧ W.cell? ⟨wr.heap.size, 6, none⟩ = some (.int .i64 x.code) ∧ W.cell? ⟨wr.heap.size, 7, none⟩ = some (.int .i64 x.env)))
              (first | (refine ⟨Blk.c8 (t := 34) ?_, Blk.c8 (t := 34) ?_⟩ <;> (repeat' (first | with_reducible assumption | with_reducible exact Blk.new' | with_reducible exact Blk.newd | with_reducible apply Blk.set8 | (with_reducible refine Blk.pk ?_ ?_; ((try simp only [wsize_drew, wsize_alloc, wsize_set]); omega)) | with_reducible refine Blk.dw ?_ | with_reducible refine Blk.al ?_ | with_reducible refine Blk.next ?_ (by with_reducible assumption))); done) | go_keep)
              (first
                | (go_at_call 127; refine (nameAt_any v _ j _ (by (repeat' (first | with_reducible assumption | with_reducible refine rep_dw ?_ | with_reducible refine rep_al ?_ | with_reducible refine rep_next ?_ (by with_reducible assumption))))).mono ?_; rintro e w3 ⟨rfl, hb3⟩; obtain ⟨hc3, hf3⟩ := bcell hb3; have z3 := hb3.size; (try simp only [wsize_drew, wsize_alloc, wsize_set] at hc3 hf3 z3))
                | (go_at_call 126; refine (formatLabel_any _ _ ?_).mono ?_; (omega); rintro e w4 ⟨rfl, hb4⟩; obtain ⟨hc4, hf4⟩ := bcell hb4; have z4 := hb4.size; (try simp only [wsize_drew, wsize_alloc, wsize_set] at hc4 hf4 z4))
                | (go_at_call 90; refine (HC.out [.int .i64 x.kind, .slice Bi mi di, .slice Bp mp dp, .slice Bn mn dn, .slice Bc mc dc, .slice Bl ml dl, .int .i64 x.code, .int .i64 x.env] _ (by (repeat' (first | with_reducible assumption | with_reducible refine rep_dw ?_ | with_reducible refine rep_al ?_ | with_reducible refine rep_next ?_ (by with_reducible assumption))))).mono ?_; rintro e w5 ⟨rfl, hb5⟩; obtain ⟨hc5, hf5⟩ := bcell hb5; have z5 := hb5.size; (try simp only [wsize_drew, wsize_alloc, wsize_set] at hc5 hf5 z5))
                | (refine step_app1 encS tyStr encS_len encS_one ?_ (.tmp 78) (.tmp 86) ?_ (w.heap.size + 1) Aj (k + j) cj ((pcs v).take (k + j)) ?_ ?_ (lbl (nam v.names j) ++ fmtF x) w5.heap.size 1 ?_ (te := 9) ?_ ?_ ?_ ?_ ?_; (rfl); (rfl); (rfl); (focus ((repeat' (first | with_reducible assumption | with_reducible refine Own.dw ?_ | with_reducible refine Own.al ?_ | with_reducible refine Own.below ?_ (by with_reducible assumption))); done)); (rfl); (exact Blk.new'); (omega); (unfold maxLen; omega); (((try simp only [wsize_drew, wsize_alloc, wsize_set]); omega)); intro gg cg w6 ho6 hg6 hb6; have kv6 := Blk.grown (t := 34) (cs := vc v Ai k ci (some ⟨b, off, none⟩) np cp An nn cn Ac nc cc Al nl cl) (g := w.heap.size) (by (repeat' (first | with_reducible assumption | with_reducible exact Blk.new' | with_reducible exact Blk.newd | with_reducible apply Blk.set8 | (with_reducible refine Blk.pk ?_ ?_; ((try simp only [wsize_drew, wsize_alloc, wsize_set]); omega)) | with_reducible refine Blk.dw ?_ | with_reducible refine Blk.al ?_ | with_reducible refine Blk.next ?_ (by with_reducible assumption)))) hg6 hne2; have ki6 := Blk.grown (t := 34) (cs := [.int .i64 x.kind, .slice Bi mi di, .slice Bp mp dp, .slice Bn mn dn, .slice Bc mc dc, .slice Bl ml dl, .int .i64 x.code, .int .i64 x.env]) (g := wr.heap.size) (by (repeat' (first | with_reducible assumption | with_reducible exact Blk.new' | with_reducible exact Blk.newd | with_reducible apply Blk.set8 | (with_reducible refine Blk.pk ?_ ?_; ((try simp only [wsize_drew, wsize_alloc, wsize_set]); omega)) | with_reducible refine Blk.dw ?_ | with_reducible refine Blk.al ?_ | with_reducible refine Blk.next ?_ (by with_reducible assumption)))) hg6 hne))
            all_goals
              go_wp2_with fail
              go_roundw
              case rel =>
                refine ⟨j + 1, some ⟨gg, 0, none⟩, cg, by omega, by go_num, rfl, by rw [← Nat.add_assoc, HX.out]; exact ho6, kv6, ?_⟩
                have b5 : Below w.heap.size w w5 := by (repeat' (first | with_reducible assumption | with_reducible exact Below.refl _ _ | with_reducible refine bel_dw ?_ | with_reducible refine bel_al ?_ ?_ | with_reducible refine bel_set ?_ ?_ | with_reducible refine bel_call ?_ (by with_reducible assumption) ?_ | ((try simp only [wsize_drew, wsize_alloc, wsize_set]); omega)))
                exact (bel_al b5 (by omega)).trans (hb6.mono (by omega))
              case measure => simp only [intOf]; omega
          · obtain rfl : j = np := by omega
            have hr := ho.reads encS_len
            have HT2 : Hid ((pcs v).take (k + j) = pcs v) := Lib.hid (List.take_of_length_le (by rw [pcs_len, LI.out, LP.out]; omega))
            rw [HT2.out] at hr
            have hjl := jn_len (pcs v) 100000000000000000 HB.out
            have hjb : ((jn (pcs v)).length : Int) ≤ 5000000000000000200 := by
              rw [pcs_len, LI.out, LP.out] at hjl
              have := Nat.mul_le_mul_right (100000000000000000 + 2) hlen
              omega
            clear hjl hlt hj
            cases hk4 : (v.kind == 4) with
            | true =>
              have HO : Hid (opT v.kind = [108, 105, 115, 116, 40]) := Lib.hid (by rw [opT, if_pos (by simpa using hk4)])
              go_wp2_with fail
              refine (joinTexts_any (pcs v) _ _ _ _ hr (by omega) 100000000000000000 (by omega) HB.out).mono ?_
              rintro e w9 ⟨rfl, rfl⟩
              go_wp2_with fail
              go_ret
              exact ⟨ret_str (by rw [HP.out, HO.out]; simp), bb⟩
            | false =>
              have HO : Hid (opT v.kind = [99, 40]) := Lib.hid (by rw [opT, if_neg (by simpa using hk4)])
              go_wp2_with fail
              refine (joinTexts_any (pcs v) _ _ _ _ hr (by omega) 100000000000000000 (by omega) HB.out).mono ?_
              rintro e w9 ⟨rfl, rfl⟩
              go_wp2_with fail
              go_ret
              exact ⟨ret_str (by rw [HP.out, HO.out]; simp), bb⟩
end Go.Proofs.Ytekcpadlmfaihaa
