/- Vectors as texts: what formatFull and FormatVector of the program return. Vectors as texts: what l4Format returns. -/
import Derived.Test.YtekcpadlmfaihaaFnExactFormatHeapOpJal
namespace Go.Proofs.Ytekcpadlmfaihaa
open Go.RowKit
theorem formatPlain_of (d : Nat) (hd : d ≤ 3) (ih : ∀ d', d = d' + 1 → ffP d') : fpP d := by
  intro v cs w hok h
  by_cases hs : v.kind = 0 ∨ v.kind = 5 ∨ (atomK v.kind = true ∧ v.items.length = 0) ∨ (atomK v.kind = true ∧ v.items.length = 1 ∧ v.names.length = 0)
  · exact formatPlain_s d v cs w hok h hs
  · exact formatPlain_l d hd ih v cs w hok h (fun e => hs (.inl e)) (fun e => hs (.inr (.inl e))) (fun e => hs (.inr (.inr (.inl e)))) (fun e => hs (.inr (.inr (.inr e))))
theorem txtV_ok0 {l : List Str} (hn : l.length ≤ 40) (hl : ∀ x ∈ l, x.length ≤ 60) : okD 0 (txtV l) = true := by
  have h := txtV_ok hn hl
  unfold isVec at h
  simp only [Bool.and_eq_true] at h
  have h2 := okD_shape h.1
  rw [okD, h2]; rfl
theorem fmtP_txt (l : List Str) : fmtP (txtV l) = txP l := by
  rw [fmtP, txP, txtV]; simp only; rw [fmtL]
/-- A text vector made and written. -/
theorem txtPlain (l : List Str) (cs : List Value) (F : List Nat) (w : World) (hn : l.length ≤ 40) (hl : ∀ x ∈ l, x.length ≤ 60) (h : own Try.prog w (txtV l).toD 34 F cs) :
    Calls Try.prog 114 #[av cs] w fun e w' => e = .returned (sv (txP l)) ∧ Below w.heap.size w w' := by
  have := formatPlain_of 0 (by omega) (fun d' h => by omega) (txtV l) cs w (txtV_ok0 hn hl) (own_rep _ _ _ _ h)
  rw [fmtP_txt] at this
  exact this
set_option maxRecDepth 100000 in
set_option maxHeartbeats 4000000 in
theorem formatFull_of (d : Nat) (hd : d ≤ 3) (fp : fpP d) : ffP d := by
  intro v cs w hok h
  have hf := FV.of (okD_shape hok)
  have hlp := fmtP_len (d := d) (fun d' p _ hp => fmtF_len d' p hp) hok
  have hl3 := lim_3 hd
  have HW := Lib.hid (fmtF_eq v)
  have HC := Lib.hid (fun cs w => fp v cs w hok)
  have tl := txP_len (l := v.levels) hf.lev.1 hf.lev.2
  have tc := txP_len (l := v.cls) (by have := hf.cls.1; omega) hf.cls.2
  obtain ⟨Ai, ni, ci, Ap, np, cp, An, nn, cn, Ac, nc, cc, Al, nl, cl, rfl, hv⟩ := vec_open h
  have q0 := (Below.refl w.heap.size w).alloc (Nat.le_refl _) (.cells (vc v Ai ni ci Ap np cp An nn cn Ac nc cc Al nl cl).toArray 34)
  have HLC := Lib.hid hv.ca.len
  have HLL := Lib.hid hv.la.len
  have hnl : nl ≤ 20 := by rw [← HLL.out]; exact hf.lev.1
  have hnc : nc ≤ 3 := by rw [← HLC.out]; exact hf.cls.1
  have HSL := Lib.hid hf.lev.2
  have HSC := Lib.hid hf.cls.2
  clear fp hok
  go_enter Try.func90, Try.ntmps90
  go_wp2_with fail
  refine (HC.out _ _ (rep_next h q0)).mono ?_
  rintro e w1 ⟨rfl, hb1⟩
  have q1 := bth q0 hb1
  have kv : Blk w1 w.heap.size 34 (vc v Ai ni ci Ap np cp An nn cn Ac nc cc Al nl cl) := Blk.new'.next hb1
  obtain ⟨g0, g1, g2, g3, g4, g5, g6, g7⟩ := kv.c8
  by_cases z : nl = 0
  · obtain rfl := z
    by_cases z : nc = 0
    · obtain rfl := z
      go_wp2_with fail
      go_ret
      exact ⟨ret_str (by rw [HW.out, wrS, if_pos ⟨HLL.out, HLC.out⟩]), q1⟩
    · have zi : (0 : Int) < nc := by omega
      have zb : ((nc : Int) == 0) = false := by simp; omega
      go_wp2_with fail
      refine (implTextVector_any v.cls _ _ _ _ (hv.ca.below q1 |>.more q1.size) (by omega) HSC.out).mono ?_
      rintro e w2 ⟨cs2, F2, rfl, o2, fr2, hb2⟩
      go_wp2_with fail
      refine (txtPlain v.cls cs2 F2 _ (by rw [HLC.out]; omega) HSC.out o2).mono ?_
      rintro e w3 ⟨rfl, hb3⟩
      go_wp2_with fail
      go_ret
      refine ⟨ret_str ?_, bth (bth q1 hb2) hb3⟩
      rw [HW.out, wrS, if_neg (by rw [HLC.out]; omega), lvT, if_pos HLL.out, clT, if_neg (by rw [HLC.out]; omega)]
      simp
  · have zi : (0 : Int) < nl := by omega
    have zb : ((nl : Int) == 0) = false := by simp; omega
    go_wp2_with fail
    refine (implTextVector_any v.levels _ _ _ _ (hv.la.below q1 |>.more q1.size) (by omega) HSL.out).mono ?_
    rintro e w2 ⟨cs2, F2, rfl, o2, fr2, hb2⟩
    go_wp2_with fail
    refine (txtPlain v.levels cs2 F2 _ (by rw [HLL.out]; omega) HSL.out o2).mono ?_
    rintro e w3 ⟨rfl, hb3⟩
    have q3 := bth (bth q1 hb2) hb3
    have kv3 := (kv.next hb2).next hb3
    clear g0 g1 g2 g3 g4 g5 g6 g7
    obtain ⟨g0, g1, g2, g3, g4, g5, g6, g7⟩ := kv3.c8
    by_cases z : nc = 0
    · obtain rfl := z
      go_wp2_with fail
      go_ret
      refine ⟨ret_str ?_, q3⟩
      rw [HW.out, wrS, if_neg (by rw [HLL.out]; omega), lvT, if_neg (by rw [HLL.out]; omega), clT, if_pos HLC.out]
      simp
    · have zi2 : (0 : Int) < nc := by omega
      have zb2 : ((nc : Int) == 0) = false := by simp; omega
      go_wp2_with fail
      refine (implTextVector_any v.cls _ _ _ _ (hv.ca.below q3 |>.more q3.size) (by omega) HSC.out).mono ?_
      rintro e w4 ⟨cs4, F4, rfl, o4, fr4, hb4⟩
      go_wp2_with fail
      refine (txtPlain v.cls cs4 F4 _ (by rw [HLC.out]; omega) HSC.out o4).mono ?_
      rintro e w5 ⟨rfl, hb5⟩
      go_wp2_with fail
      go_ret
      refine ⟨ret_str ?_, bth (bth q3 hb4) hb5⟩
      rw [HW.out, wrS, if_neg (by rw [HLL.out]; omega), lvT, if_neg (by rw [HLL.out]; omega), clT, if_neg (by rw [HLC.out]; omega)]
      simp
theorem formatFull_any (d : Nat) (hd : d ≤ 3) : ffP d := by
  induction d with
  | zero => exact formatFull_of 0 hd (formatPlain_of 0 hd fun d' h => by omega)
  | succ d ih => exact formatFull_of (d + 1) hd (formatPlain_of (d + 1) hd fun d' h => by
      have : d' = d := by omega
      rw [this]; exact ih (by omega))
def fmtV (v : Vec) : Str := if isVec v then fmtF v else []
theorem isVec_ok {v : Vec} (h : isVec v = true) : okD 3 v = true := by unfold isVec at h; simp only [Bool.and_eq_true] at h; exact h.1
set_option maxHeartbeats 2000000 in
theorem implFormatVector_any (v : Vec) (cs : List Value) (w : World) (h : rep w w.heap.size v.toD cs) (hbig : bigV v) :
    Calls Try.prog 57 #[av cs] w fun e w' => e = .returned (sv (fmtV v)) ∧ Below w.heap.size w w' := by
  obtain ⟨Ai, ni, ci, Ap, np, cp, An, nn, cn, Ac, nc, cc, Al, nl, cl, rfl, hv⟩ := vec_open h
  have q0 := (Below.refl w.heap.size w).alloc (Nat.le_refl _) (.cells (vc v Ai ni ci Ap np cp An nn cn Ac nc cc Al nl cl).toArray 34)
  go_enter Try.func57, Try.ntmps57
  go_wp2_with fail
  refine (implIsVector_any v _ _ (rep_next h q0) hbig).mono ?_
  rintro e w1 ⟨rfl, hb1⟩
  have q1 := bth q0 hb1
  obtain ⟨hc1, hf1⟩ := bcell hb1
  simp only [wsize_alloc] at hc1 hf1
  cases hi : isVec v with
  | false =>
    have HI := Lib.hid hi
    go_wp2_with fail
    go_ret
    exact ⟨ret_str (by rw [fmtV, HI.out]; rfl), q1⟩
  | true =>
    have HI := Lib.hid hi
    go_wp2_with fail
    refine (formatFull_any 3 (by omega) v _ _ (isVec_ok HI.out) (rep_next (rep_next h q0) hb1)).mono ?_
    rintro e w2 ⟨rfl, hb2⟩
    go_wp2_with fail
    go_ret
    exact ⟨ret_str (by rw [fmtV, HI.out, if_pos rfl]), bth q1 hb2⟩
end Go.Proofs.Ytekcpadlmfaihaa
namespace Go.Proofs.Ytekcpadlmfaihaa
open Go.RowKit
def lfP (d : Nat) : Prop := ∀ (v : Vec) (cs : List Value) (w : World), okD d v = true → rep w w.heap.size v.toD cs → Calls Try.prog 88 #[av cs] w fun e w' => e = .returned (sv (fmtF v)) ∧ Below w.heap.size w w'
def txC : Prop := ∀ (l : List Str) (cs : List Value) (w : World), l.length ≤ 20 → (∀ x ∈ l, x.length ≤ 60) → rep w w.heap.size (txtV l).toD cs → Calls Try.prog 88 #[av cs] w fun e w' => e = .returned (sv (txP l)) ∧ Below w.heap.size w w'
/-- The piece of an index. -/
def pcB (v : Vec) (k : Nat) : Str := if v.kind = 4 then ((v.parts[k]?).map fmtF).getD [] else ((v.items[k]?).map (shw v.kind)).getD []
theorem pcs_pc {v : Vec} (hf : FV v) {k : Nat} (hk : k < (pcs v).length) : (pcs v)[k]? = some (lbl (nam v.names k) ++ pcB v k) := by
  rw [pcs_len] at hk
  by_cases h4 : v.kind = 4
  · have hi0 : v.items.length = 0 := by
      rcases Nat.eq_zero_or_pos v.items.length with h0 | h0
      · exact h0
      · have := hf.ni h0; rw [h4] at this; simp [atomK] at this
    have hx : v.parts[k]? = some (v.parts[k]'(by omega)) := by simp
    rw [pcs_part hx (List.length_eq_zero_iff.1 hi0), pcB, if_pos h4, hx]; rfl
  · have hp0 : v.parts.length = 0 := by
      rcases Nat.eq_zero_or_pos v.parts.length with h0 | h0
      · exact h0
      · exact absurd (hf.np h0) h4
    have hx : v.items[k]? = some (v.items[k]'(by omega)) := by simp
    rw [pcs_item hx, pcB, if_neg h4, hx]; rfl
theorem kind_pcs {v : Vec} (hf : FV v) {k : Nat} (hk : k < (pcs v).length) : ¬ v.kind = 5 ∧ lenV v = (pcs v).length := by
  rw [pcs_len] at hk ⊢
  have h5 : ¬ v.kind = 5 := fun h => by have := hf.n5 h; omega
  exact ⟨h5, by rw [lenV, if_neg h5]⟩
theorem zeroT_at {v : Vec} (h : v.kind = 1 ∨ v.kind = 2 ∨ v.kind = 3) : (#[sv [], sv [108, 111, 103, 105, 99, 97, 108, 40, 48, 41], sv [110, 117, 109, 101, 114, 105, 99, 40, 48, 41], sv [99, 104, 97, 114, 97, 99, 116, 101, 114, 40, 48, 41]] : Array Value)[v.kind.toNat]? = some (sv (zeroT v.kind)) := by
  rcases h with h | h | h <;> (rw [h]; rfl)
theorem zeroT_get {v : Vec} (h : v.kind = 1 ∨ v.kind = 2 ∨ v.kind = 3) (hl : v.kind.toNat < 4) : ([sv [], sv [108, 111, 103, 105, 99, 97, 108, 40, 48, 41], sv [110, 117, 109, 101, 114, 105, 99, 40, 48, 41], sv [99, 104, 97, 114, 97, 99, 116, 101, 114, 40, 48, 41]] : List Value)[v.kind.toNat] = sv (zeroT v.kind) := by
  obtain ⟨k, i, p, n, c, l, cd, e⟩ := v
  simp only at h hl ⊢
  rcases h with rfl | rfl | rfl <;> rfl
set_option maxRecDepth 100000 in
set_option maxHeartbeats 8000000 in
theorem l4Format_w (d : Nat) (hd : d ≤ 3) (ih : ∀ d', d = d' + 1 → lfP d') (v : Vec) (cs : List Value) (w : World) (hok : okD d v = true) (h : rep w w.heap.size v.toD cs) (hT : ¬ (v.levels.length = 0 ∧ v.cls.length = 0) → txC) (n0 : ¬ v.kind = 0) :
    Calls Try.prog 88 #[av cs] w fun e w' => e = .returned (sv (fmtF v)) ∧ Below w.heap.size w w' := by
  have hf := FV.of (okD_shape hok)
  have HB := Lib.hid (pcs_B hd hok)
  have HIH := Lib.hid ih
  have HOK := Lib.hid hok
  have HW := Lib.hid (fmtF_eq v)
  have HF := Lib.hid hf
  have HTX := Lib.hid hT
  have hlp := fmtP_len (d := d) (fun d' p _ hp => fmtF_len d' p hp) hok
  have hl3 := lim_3 hd
  have tl := txP_len (l := v.levels) hf.lev.1 hf.lev.2
  have tc := txP_len (l := v.cls) (by have := hf.cls.1; omega) hf.cls.2
  obtain ⟨Ai, ni, ci, Ap, np, cp, An, nn, cn, Ac, nc, cc, Al, nl, cl, rfl, hv⟩ := vec_open h
  have q0 := (Below.refl w.heap.size w).alloc (Nat.le_refl _) (.cells (vc v Ai ni ci Ap np cp An nn cn Ac nc cc Al nl cl).toArray 34)
  have LI := Lib.hid hv.it.len
  have LP := Lib.hid hv.pab.2.2
  have LN := Lib.hid hv.na.len
  have HLC := Lib.hid hv.ca.len
  have HLL := Lib.hid hv.la.len
  have hlen := hf.len
  have hlv := lenV_le v
  have hjl := jn_len (pcs v) 100000000000000000 HB.out
  have hjb : ((jn (pcs v)).length : Int) ≤ 5000000000000000200 := by
    rw [pcs_len] at hjl
    have := Nat.mul_le_mul_right (100000000000000000 + 2) hlen
    omega
  have k0 : (v.kind == 0) = false := by simpa using n0
  obtain ⟨M, hM⟩ : ∃ M, M = (pcs v).length := ⟨_, rfl⟩
  have hM40 : M ≤ 40 := by rw [hM, pcs_len]; exact hlen
  have HMl := Lib.hid hM
  clear hok ih hT hjl hM hf n0
  go_enter Try.func88, Try.ntmps88
  go_wp2_with fail
  refine (l4Len_any v _ _ (rep_next h q0) (by omega)).mono ?_
  rintro e w1 ⟨rfl, hb1⟩
  have q1 := bth q0 hb1
  have kv : Blk w1 w.heap.size 34 (vc v Ai ni ci Ap np cp An nn cn Ac nc cc Al nl cl) := Blk.new'.next hb1
  clear hb1
  go_wp2_with fail
  go_loopw [4, 5] (fun v4 v5 wr => ∃ k : Nat, k ≤ M ∧ v5 = .int .i64 k ∧ v4 = sv (jn ((pcs v).take k)) ∧ Blk wr w.heap.size 34 (vc v Ai ni ci Ap np cp An nn cn Ac nc cc Al nl cl) ∧ Below w.heap.size w wr) (fun _ v5 _ => M - (intOf v5).toNat)
  case atStart => exact ⟨0, by omega, rfl, rfl, kv, q1⟩
  case round =>
    clear kv q1
    obtain ⟨k, hk, rfl, rfl, kv, bb⟩ := hrel
    have z0 := kv.lt
    obtain ⟨g0, g1, g2, g3, g4, g5, g6, g7⟩ := kv.c8
    by_cases hlt : k < M
    · have hlt' : k < (pcs v).length := by rw [← HMl.out]; exact hlt
      obtain ⟨h5, hln⟩ := kind_pcs HF.out hlt'
      have hln2 : lenV v = M := by rw [hln, ← HMl.out]
      have k5 : (v.kind != 5) = true := by simpa using h5
      have hin : (k : Int) < (lenV v : Int) := by omega
      have hpc := pcs_pc HF.out hlt'
      have hpl := HB.out _ (List.mem_of_getElem? hpc)
      rw [List.length_append] at hpl
      have hjt : ((jn ((pcs v).take k)).length : Int) ≤ 5000000000000000200 := by
        have h1 := jn_len ((pcs v).take k) 100000000000000000 (fun y hy => HB.out y (List.mem_of_mem_take hy))
        have h2 : ((pcs v).take k).length ≤ 40 := by have := List.length_take_le k (pcs v); omega
        have := Nat.mul_le_mul_right (100000000000000000 + 2) h2
        omega
      have HJ := Lib.hid (jn_take hpc)
      have HL := Lib.hid hln2
      have hl1 := lbl_len (nam v.names k)
      have hl2 := nam_len HF.out.names k
      clear hpc h5 hln hln2 hlt'
      have hkw : (k = 0 ∧ ¬ (0 : Int) < k) ∨ (¬ k = 0 ∧ (0 : Int) < k) := by omega
      have hnw : (nn = 0 ∧ ¬ (0 : Int) < nn) ∨ ((0 : Int) < nn ∧ k < nn) := by
        have h1 := HF.out.nn
        rw [LN.out, HL.out] at h1
        omega
      have hjs : (jn ((pcs v).take k)).length + 2 + ((lbl (nam v.names k)).length + (pcB v k).length) ≤ 6000000000000000000 := by omega
      cases k4 : (v.kind == 4) with
      | false =>
        have hk4 : ¬ v.kind = 4 := by simpa using k4
        have hp0 : np = 0 := by
          rcases Nat.eq_zero_or_pos v.parts.length with h0 | h0
          · rw [← LP.out]; exact h0
          · exact absurd (HF.out.np h0) hk4
        have hki : k < ni := by have := HMl.out; rw [pcs_len, LI.out, LP.out] at this; omega
        obtain ⟨b, off, x, rfl, hbl, hx, e0, e1, e2⟩ := (hv.it.below bb).at3 hki
        have hxm := List.mem_of_getElem? hx
        have hio := HF.out.it x hxm
        have ht60 := item_text hio (HF.out.ni (by rw [LI.out]; omega))
        have HPB := Lib.hid (show pcB v k = shw v.kind x by rw [pcB, if_neg hk4, hx]; rfl)
        rw [HPB.out] at hjs
        have HIO := Lib.hid hio
        have yb : b < wr.heap.size := by omega
        have bi0 : (0 : Int) ≤ (k : Int) := by omega
        have bi1 : (k : Int) < (ni : Int) := by omega
        clear hx hxm hio hp0 hk4 hpl
        rcases hkw with ⟨hk0, hki0⟩ | ⟨hk0, hki0⟩
        all_goals
          have HK0 := Lib.hid hk0
          clear hk0
          rcases hnw with ⟨hn0, hnn⟩ | ⟨hnn, hkn⟩
          · have HNM := Lib.hid (show nam v.names k = [] from nam_nil (by rw [LN.out]; exact hn0) k)
            clear hn0
            have i0 : ¬ 9223372036854775807 < (jn ((pcs v).take k)).length + (shw v.kind x).length := by omega
            have i1 : ¬ 9223372036854775807 < (jn ((pcs v).take k)).length + 2 + (shw v.kind x).length := by omega
            go_upto_region 14 with fail
            go_region_held3 (fun W => W.cell? ⟨w.heap.size, 0, none⟩ = some (.int .i64 v.kind) ∧ W.cell? ⟨w.heap.size, 1, none⟩ = some (.slice (some ⟨b, off, none⟩) ni ci) ∧ W.cell? ⟨b, off + k * 3, none⟩ = some (.int .i64 x.num) ∧ W.cell? ⟨b, off + k * 3 + 1, none⟩ = some (.int .i64 x.den) ∧ W.cell? ⟨b, off + k * 3 + 2, none⟩ = some (sv x.text)) (first | go_keep | trivial)
              (first | (go_at_call 109; refine (l4Show_any _ x _ ?_ HIO.out).mono ?_; (omega); rintro e w3 ⟨rfl, hb3⟩; obtain ⟨hc3, hf3⟩ := bcell hb3; have z3 := hb3.size; (try simp only [wsize_drew, wsize_alloc, wsize_set] at hc3 hf3 z3)))
            all_goals
              go_wp2_with fail
              go_roundw
              case rel =>
                refine ⟨k + 1, by omega, by go_num, ?_, by (repeat' (first | with_reducible assumption | with_reducible exact Blk.new' | with_reducible exact Blk.newd | with_reducible apply Blk.set8 | (with_reducible refine Blk.pk ?_ ?_; ((try simp only [wsize_drew, wsize_alloc, wsize_set]); omega)) | with_reducible refine Blk.dw ?_ | with_reducible refine Blk.al ?_ | with_reducible refine Blk.next ?_ (by with_reducible assumption))), by (repeat' (first | with_reducible assumption | with_reducible exact Below.refl _ _ | with_reducible refine bel_dw ?_ | with_reducible refine bel_al ?_ ?_ | with_reducible refine bel_set ?_ ?_ | with_reducible refine bel_call ?_ (by with_reducible assumption) ?_ | ((try simp only [wsize_drew, wsize_alloc, wsize_set]); omega)))⟩
                first | (rw [HJ.out, if_pos HK0.out, HNM.out, lbl_nil, HPB.out, HK0.out]; simp [jn]; done) | (rw [HJ.out, if_neg HK0.out, HNM.out, lbl_nil, HPB.out]; simp; done)
              case measure => simp only [intOf]; omega
          · obtain ⟨nb, no, nx, rfl, hnbl, hnx, hnc⟩ := (hv.na.below bb).at_ hkn
            have nc0 := hnc 0 _ rfl
            simp only [Nat.mul_one, Nat.add_zero] at nc0
            have HNM := Lib.hid (show nam v.names k = nx by rw [nam, hnx]; rfl)
            rw [HNM.out] at hjs hl1 hl2
            clear hnc hnx
            go_wp2_with fail
            refine (l4Label_any _ _ (by omega)).mono ?_
            rintro e w2 ⟨rfl, hb2⟩
            obtain ⟨hc2, hf2⟩ := bcell hb2; have z2 := hb2.size; (try simp only [wsize_drew, wsize_alloc, wsize_set] at hc2 hf2 z2)
            have yb2 : b < w2.heap.size := by omega
            have yw2 : w.heap.size < w2.heap.size := by omega
            have i0 : ¬ 9223372036854775807 < (jn ((pcs v).take k)).length + (lbl nx).length + (shw v.kind x).length := by omega
            have i1 : ¬ 9223372036854775807 < (jn ((pcs v).take k)).length + ((lbl nx).length + 2) + (shw v.kind x).length := by omega
            have i2 : ¬ 9223372036854775807 < (jn ((pcs v).take k)).length + ((lbl nx).length + 1 + 1) + (shw v.kind x).length := by omega
            go_upto_region 14 with fail
            go_region_held3 (fun W => W.cell? ⟨w.heap.size, 0, none⟩ = some (.int .i64 v.kind) ∧ W.cell? ⟨w.heap.size, 1, none⟩ = some (.slice (some ⟨b, off, none⟩) ni ci) ∧ W.cell? ⟨b, off + k * 3, none⟩ = some (.int .i64 x.num) ∧ W.cell? ⟨b, off + k * 3 + 1, none⟩ = some (.int .i64 x.den) ∧ W.cell? ⟨b, off + k * 3 + 2, none⟩ = some (sv x.text)) (first | go_keep | trivial)
              (first | (go_at_call 109; refine (l4Show_any _ x _ ?_ HIO.out).mono ?_; (omega); rintro e w3 ⟨rfl, hb3⟩; obtain ⟨hc3, hf3⟩ := bcell hb3; have z3 := hb3.size; (try simp only [wsize_drew, wsize_alloc, wsize_set] at hc3 hf3 z3)))
            all_goals
              go_wp2_with fail
              go_roundw
              case rel =>
                refine ⟨k + 1, by omega, by go_num, ?_, by (repeat' (first | with_reducible assumption | with_reducible exact Blk.new' | with_reducible exact Blk.newd | with_reducible apply Blk.set8 | (with_reducible refine Blk.pk ?_ ?_; ((try simp only [wsize_drew, wsize_alloc, wsize_set]); omega)) | with_reducible refine Blk.dw ?_ | with_reducible refine Blk.al ?_ | with_reducible refine Blk.next ?_ (by with_reducible assumption))), by (repeat' (first | with_reducible assumption | with_reducible exact Below.refl _ _ | with_reducible refine bel_dw ?_ | with_reducible refine bel_al ?_ ?_ | with_reducible refine bel_set ?_ ?_ | with_reducible refine bel_call ?_ (by with_reducible assumption) ?_ | ((try simp only [wsize_drew, wsize_alloc, wsize_set]); omega)))⟩
                first | (rw [HJ.out, if_pos HK0.out, HNM.out, HPB.out, HK0.out]; simp [jn]; done) | (rw [HJ.out, if_neg HK0.out, HNM.out, HPB.out]; simp; done)
              case measure => simp only [intOf]; omega
      | true =>
        have hk4 : v.kind = 4 := by simpa using k4
        have hi0 : ni = 0 := by
          rcases Nat.eq_zero_or_pos v.items.length with h0 | h0
          · rw [← LI.out]; exact h0
          · have := HF.out.ni h0; rw [hk4] at this; simp [atomK] at this
        have hkp : k < np := by have := HMl.out; rw [pcs_len, LI.out, LP.out] at this; omega
        obtain ⟨b, off, x, Bi, mi, di, Bp, mp, dp, Bn, mn, dn, Bc, mc, dc, Bl, ml, dl, rfl, hbl, hx, hrx, hvx, e0, e1, e2, e3, e4, e5, e6, e7⟩ := parts_at (rep_below hv.pa bb) hkp
        have HPB := Lib.hid (show pcB v k = fmtF x by rw [pcB, if_pos hk4, hx]; rfl)
        rw [HPB.out] at hjs
        obtain ⟨d', hdd, hokx⟩ := okD_part HOK.out (List.mem_of_getElem? hx)
        have HC := Lib.hid (fun cs w => HIH.out d' hdd x cs w hokx)
        have rx := rep_more hrx bb.size
        have yb : b < wr.heap.size := by omega
        clear hx hi0 hk4 hpl hdd hokx hrx hvx
        rcases hkw with ⟨hk0, hki0⟩ | ⟨hk0, hki0⟩
        all_goals
          have HK0 := Lib.hid hk0
          clear hk0
          rcases hnw with ⟨hn0, hnn⟩ | ⟨hnn, hkn⟩
          · have HNM := Lib.hid (show nam v.names k = [] from nam_nil (by rw [LN.out]; exact hn0) k)
            clear hn0
            go_wp2_with fail
            refine (HC.out [.int .i64 x.kind, .slice Bi mi di, .slice Bp mp dp, .slice Bn mn dn, .slice Bc mc dc, .slice Bl ml dl, .int .i64 x.code, .int .i64 x.env] _ rx).mono ?_
            rintro e w3 ⟨rfl, hb3⟩
            obtain ⟨hc3, hf3⟩ := bcell hb3; have z3 := hb3.size; (try simp only [wsize_drew, wsize_alloc, wsize_set] at hc3 hf3 z3)
            go_wp2_with fail
            go_roundw
            case rel =>
              refine ⟨k + 1, by omega, by go_num, ?_, by (repeat' (first | with_reducible assumption | with_reducible exact Blk.new' | with_reducible exact Blk.newd | with_reducible apply Blk.set8 | (with_reducible refine Blk.pk ?_ ?_; ((try simp only [wsize_drew, wsize_alloc, wsize_set]); omega)) | with_reducible refine Blk.dw ?_ | with_reducible refine Blk.al ?_ | with_reducible refine Blk.next ?_ (by with_reducible assumption))), by (repeat' (first | with_reducible assumption | with_reducible exact Below.refl _ _ | with_reducible refine bel_dw ?_ | with_reducible refine bel_al ?_ ?_ | with_reducible refine bel_set ?_ ?_ | with_reducible refine bel_call ?_ (by with_reducible assumption) ?_ | ((try simp only [wsize_drew, wsize_alloc, wsize_set]); omega)))⟩
              first | (rw [HJ.out, if_pos HK0.out, HNM.out, lbl_nil, HPB.out, HK0.out]; simp [jn]; done) | (rw [HJ.out, if_neg HK0.out, HNM.out, lbl_nil, HPB.out]; simp; done)
            case measure => simp only [intOf]; omega
          · obtain ⟨nb, no, nx, rfl, hnbl, hnx, hnc⟩ := (hv.na.below bb).at_ hkn
            have nc0 := hnc 0 _ rfl
            simp only [Nat.mul_one, Nat.add_zero] at nc0
            have HNM := Lib.hid (show nam v.names k = nx by rw [nam, hnx]; rfl)
            rw [HNM.out] at hjs hl1 hl2
            clear hnc hnx
            go_wp2_with fail
            refine (l4Label_any _ _ (by omega)).mono ?_
            rintro e w2 ⟨rfl, hb2⟩
            obtain ⟨hc2, hf2⟩ := bcell hb2; have z2 := hb2.size; (try simp only [wsize_drew, wsize_alloc, wsize_set] at hc2 hf2 z2)
            have yb2 : b < w2.heap.size := by omega
            have yw2 : w.heap.size < w2.heap.size := by omega
            go_wp2_with fail
            refine (HC.out [.int .i64 x.kind, .slice Bi mi di, .slice Bp mp dp, .slice Bn mn dn, .slice Bc mc dc, .slice Bl ml dl, .int .i64 x.code, .int .i64 x.env] _ (rep_next rx hb2)).mono ?_
            rintro e w3 ⟨rfl, hb3⟩
            obtain ⟨hc3, hf3⟩ := bcell hb3; have z3 := hb3.size; (try simp only [wsize_drew, wsize_alloc, wsize_set] at hc3 hf3 z3)
            go_wp2_with fail
            go_roundw
            case rel =>
              refine ⟨k + 1, by omega, by go_num, ?_, by (repeat' (first | with_reducible assumption | with_reducible exact Blk.new' | with_reducible exact Blk.newd | with_reducible apply Blk.set8 | (with_reducible refine Blk.pk ?_ ?_; ((try simp only [wsize_drew, wsize_alloc, wsize_set]); omega)) | with_reducible refine Blk.dw ?_ | with_reducible refine Blk.al ?_ | with_reducible refine Blk.next ?_ (by with_reducible assumption))), by (repeat' (first | with_reducible assumption | with_reducible exact Below.refl _ _ | with_reducible refine bel_dw ?_ | with_reducible refine bel_al ?_ ?_ | with_reducible refine bel_set ?_ ?_ | with_reducible refine bel_call ?_ (by with_reducible assumption) ?_ | ((try simp only [wsize_drew, wsize_alloc, wsize_set]); omega)))⟩
              first | (rw [HJ.out, if_pos HK0.out, HNM.out, HPB.out, HK0.out]; simp [jn]; done) | (rw [HJ.out, if_neg HK0.out, HNM.out, HPB.out]; simp; done)
            case measure => simp only [intOf]; omega
    · obtain rfl : k = M := by omega
      have HT2 : Hid ((pcs v).take k = pcs v) := Lib.hid (List.take_of_length_le (by rw [← HMl.out]; omega))
      rw [HT2.out]
      have hws : (v.kind = 5 ∧ k = 0) ∨ (¬ v.kind = 5 ∧ lenV v = k) := by
        by_cases h5 : v.kind = 5
        · have := HF.out.n5 h5
          exact .inl ⟨h5, by rw [HMl.out, pcs_len]; omega⟩
        · exact .inr ⟨h5, by rw [HMl.out, pcs_len, lenV, if_neg h5]⟩
      have hcase : ((v.kind != 5) = false ∧ (k : Int) < (lenV v : Int)) ∨ ((v.kind != 5) = true ∧ ¬ (k : Int) < (lenV v : Int)) := by
        rcases hws with ⟨h5, hk0⟩ | ⟨h5, hl5⟩
        · exact .inl ⟨by simpa using h5, by rw [lenV, if_pos h5]; omega⟩
        · exact .inr ⟨by simpa using h5, by omega⟩
      have HWS := Lib.hid hws
      clear hws hlt hk
      rcases hcase with ⟨k5, hin⟩ | ⟨k5, hin⟩
      all_goals
        go_upto_if 60 with fail
        go_cut [4] (fun s4 wx => s4 = sv (fmtP v) ∧ Blk wx w.heap.size 34 (vc v Ai ni ci Ap np cp An nn cn Ac nc cc Al nl cl) ∧ Below w.heap.size w wx)
        case first =>
          rcases HWS.out with ⟨h5, hk0⟩ | ⟨h5, hl5⟩
          · first
              | (exfalso; rw [h5] at k5; revert k5; decide)
              | skip
            all_goals
              have b5 : (v.kind == 5) = true := by simpa using h5
              have HP := Lib.hid (fmtP_5 h5)
              clear h5 hk0
              go_wp2_with fail
              go_meet
              exact ⟨by rw [HP.out], kv, bb⟩
          · first
              | (exfalso; exact h5 (by simpa using k5))
              | skip
            all_goals
              have b5 : (v.kind == 5) = false := by simpa using h5
              cases k4 : (v.kind == 4) with
              | true =>
                have hk4 : v.kind = 4 := by simpa using k4
                have HP := Lib.hid (fmtP_c (v := v) (by omega) h5 (by simp [hk4, atomK]) (by simp [hk4, atomK]))
                have HO : Hid (opT v.kind = [108, 105, 115, 116, 40]) := Lib.hid (by rw [opT, if_pos hk4])
                clear h5 hk4 hl5
                go_wp2_with fail
                go_meet
                exact ⟨by rw [HP.out, HO.out]; simp, kv, bb⟩
              | false =>
                have hk4 : ¬ v.kind = 4 := by simpa using k4
                have hkk := HF.out.kind
                have hn0 : ¬ v.kind = 0 := by simpa using k0
                have hka : v.kind = 1 ∨ v.kind = 2 ∨ v.kind = 3 := by omega
                have hat : atomK v.kind = true := by simp [atomK]; omega
                have hit : v.items.length = k := by
                  have h1 : v.parts.length = 0 := by
                    rcases Nat.eq_zero_or_pos v.parts.length with h0 | h0
                    · exact h0
                    · exact absurd (HF.out.np h0) hk4
                  have h2 := HMl.out
                  rw [pcs_len] at h2
                  omega
                have HIT := Lib.hid hit
                have HAT := Lib.hid hat
                have HN0 := Lib.hid hn0
                have HN5 := Lib.hid h5
                have HK4 := Lib.hid hk4
                have HL5 := Lib.hid hl5
                by_cases hz : k = 0
                · have HP := Lib.hid (fmtP_z hat (by omega))
                  have b0 : ((lenV v : Int) == 0) = true := by simp; omega
                  have HZ := zeroT_at hka
                  have i0 : (0 : Int) ≤ v.kind := hkk.1
                  have i4 : v.kind < 4 := by omega
                  have i4n : v.kind.toNat < 4 := by omega
                  have HKA := Lib.hid hka
                  clear hz hit hat hn0 h5 hk4 hl5 hka HZ
                  go_wp2_with fail
                  go_meet
                  exact ⟨by rw [HP.out]; exact zeroT_get HKA.out _, kv.al, bel_al bb (by omega)⟩
                · have b0 : ((lenV v : Int) == 0) = false := by simp; omega
                  have HO : Hid (opT v.kind = [99, 40]) := Lib.hid (by rw [opT, if_neg hk4])
                  by_cases h1 : k = 1
                  · have b1 : ¬ (1 : Int) < (lenV v : Int) := by omega
                    by_cases hnn : nn = 0
                    · have b2 : ¬ (0 : Int) < (nn : Int) := by omega
                      obtain ⟨x0, hx⟩ : ∃ x0, v.items[0]? = some x0 := ⟨v.items[0]'(by omega), by simp⟩
                      have HP := Lib.hid (fmtP_1 hat (by omega) (by rw [LN.out]; exact hnn) hx)
                      have HS : Hid (jn (pcs v) = shw v.kind x0) := Lib.hid (by
                        have h2 := jn_take (pcs_item hx)
                        rw [if_pos rfl, List.take_of_length_le (by rw [← HMl.out]; omega)] at h2
                        rw [h2, nam_nil (by rw [LN.out]; exact hnn), lbl_nil, List.nil_append])
                      clear hz h1 hnn hit hat hn0 h5 hk4 hl5 hka hx
                      go_wp2_with fail
                      go_meet
                      exact ⟨by rw [HP.out, ← HS.out], kv, bb⟩
                    · have b2 : (0 : Int) < (nn : Int) := by omega
                      have HP := Lib.hid (fmtP_c (v := v) hn0 h5 (by omega) (by rw [LN.out]; omega))
                      clear hz h1 hnn hit hat hn0 h5 hk4 hl5 hka
                      go_wp2_with fail
                      go_meet
                      exact ⟨by rw [HP.out, HO.out]; simp, kv, bb⟩
                  · have b1 : (1 : Int) < (lenV v : Int) := by omega
                    have HP := Lib.hid (fmtP_c (v := v) hn0 h5 (by omega) (by omega))
                    clear hz h1 hit hat hn0 h5 hk4 hl5 hka
                    go_wp2_with fail
                    go_meet
                    exact ⟨by rw [HP.out, HO.out]; simp, kv, bb⟩
        case rest =>
          obtain ⟨rfl, kv2, bb2⟩ := hcut
          obtain ⟨W, hW⟩ : ∃ W : World, W = wc := ⟨_, rfl⟩
          subst hW
          clear g0 g1 g2 g3 g4 g5 g6 g7 kv bb HWS
          obtain ⟨g0, g1, g2, g3, g4, g5, g6, g7⟩ := kv2.c8
          have z2 := kv2.lt
          have hnl : nl ≤ 20 := by rw [← HLL.out]; exact HF.out.lev.1
          have hnc : nc ≤ 3 := by rw [← HLC.out]; exact HF.out.cls.1
          by_cases zl : nl = 0
          · obtain rfl := zl
            by_cases zc : nc = 0
            · obtain rfl := zc
              go_wp2_with fail
              go_ret
              exact ⟨ret_str (by rw [HW.out, wrS, if_pos ⟨HLL.out, HLC.out⟩]), bb2⟩
            · have zi : (0 : Int) < nc := by omega
              have HX := Lib.hid (HTX.out (by rw [HLC.out]; omega))
              go_wp2_with fail
              refine (specTextVector_any v.cls _ _ _ _ (hv.ca.below bb2 |>.more bb2.size) (by omega) HF.out.cls.2).mono ?_
              rintro e w2 ⟨cs2, F2, rfl, o2, fr2, hb2⟩
              go_wp2_with fail
              refine (HX.out v.cls cs2 _ (by rw [HLC.out]; omega) HF.out.cls.2 (own_rep _ _ _ _ o2)).mono ?_
              rintro e w3 ⟨rfl, hb3⟩
              have kv3 := (kv2.next hb2).next hb3
              clear g0 g1 g2 g3 g4 g5 g6 g7
              obtain ⟨g0, g1, g2, g3, g4, g5, g6, g7⟩ := kv3.c8
              go_wp2_with fail
              go_ret
              refine ⟨ret_str ?_, bth (bth bb2 hb2) hb3⟩
              rw [HW.out, wrS, if_neg (by rw [HLC.out]; omega), lvT, if_pos HLL.out, clT, if_neg (by rw [HLC.out]; omega)]
              simp
          · have zi : (0 : Int) < nl := by omega
            have HX := Lib.hid (HTX.out (by rw [HLL.out]; omega))
            go_wp2_with fail
            refine (specTextVector_any v.levels _ _ _ _ (hv.la.below bb2 |>.more bb2.size) (by omega) HF.out.lev.2).mono ?_
            rintro e w2 ⟨cs2, F2, rfl, o2, fr2, hb2⟩
            go_wp2_with fail
            refine (HX.out v.levels cs2 _ (by rw [HLL.out]; omega) HF.out.lev.2 (own_rep _ _ _ _ o2)).mono ?_
            rintro e w3 ⟨rfl, hb3⟩
            have q3 := bth (bth bb2 hb2) hb3
            have kv3 := (kv2.next hb2).next hb3
            clear g0 g1 g2 g3 g4 g5 g6 g7
            obtain ⟨g0, g1, g2, g3, g4, g5, g6, g7⟩ := kv3.c8
            by_cases zc : nc = 0
            · obtain rfl := zc
              go_wp2_with fail
              go_ret
              refine ⟨ret_str ?_, q3⟩
              rw [HW.out, wrS, if_neg (by rw [HLL.out]; omega), lvT, if_neg (by rw [HLL.out]; omega), clT, if_pos HLC.out]
              simp
            · have zi2 : (0 : Int) < nc := by omega
              go_wp2_with fail
              refine (specTextVector_any v.cls _ _ _ _ (hv.ca.below q3 |>.more q3.size) (by omega) HF.out.cls.2).mono ?_
              rintro e w4 ⟨cs4, F4, rfl, o4, fr4, hb4⟩
              go_wp2_with fail
              refine (HX.out v.cls cs4 _ (by rw [HLC.out]; omega) HF.out.cls.2 (own_rep _ _ _ _ o4)).mono ?_
              rintro e w5 ⟨rfl, hb5⟩
              have kv5 := (kv3.next hb4).next hb5
              clear g0 g1 g2 g3 g4 g5 g6 g7
              obtain ⟨g0, g1, g2, g3, g4, g5, g6, g7⟩ := kv5.c8
              go_wp2_with fail
              go_ret
              refine ⟨ret_str ?_, bth (bth q3 hb4) hb5⟩
              rw [HW.out, wrS, if_neg (by rw [HLL.out]; omega), lvT, if_neg (by rw [HLL.out]; omega), clT, if_neg (by rw [HLC.out]; omega)]
              simp
set_option maxHeartbeats 2000000 in
theorem l4Format_0 (d : Nat) (v : Vec) (cs : List Value) (w : World) (hok : okD d v = true) (h : rep w w.heap.size v.toD cs) (n0 : v.kind = 0) :
    Calls Try.prog 88 #[av cs] w fun e w' => e = .returned (sv (fmtF v)) ∧ Below w.heap.size w w' := by
  have hsh := okD_shape hok
  have h1 : fmtF v = [78, 85, 76, 76] := by
    rw [fmtF_eq, fmtP_0 n0, wrS, if_pos]
    simp only [shapeOK, Bool.and_eq_true] at hsh
    have hC2 : shP v.kind v.code v.env v.items.length v.parts.length v.names.length v.cls.length v.levels.length := of_decide_eq_true hsh.1.2
    obtain ⟨c1, c2, c3, c4, c5⟩ := hC2
    refine ⟨?_, (c5 n0).2⟩
    rcases Nat.eq_zero_or_pos v.levels.length with h0 | h0
    · exact h0
    · have := c1 h0; omega
  have H1 := Lib.hid h1
  have k0 : (v.kind == 0) = true := by simpa using n0
  clear h1 n0
  obtain ⟨Ai, ni, ci, Ap, np, cp, An, nn, cn, Ac, nc, cc, Al, nl, cl, rfl, hv⟩ := vec_open h
  have q0 := (Below.refl w.heap.size w).alloc (Nat.le_refl _) (.cells (vc v Ai ni ci Ap np cp An nn cn Ac nc cc Al nl cl).toArray 34)
  go_enter Try.func88, Try.ntmps88
  go_wp2_with fail
  go_ret
  exact ⟨ret_str H1.out.symm, q0⟩
theorem l4Format_txt : txC := by
  intro l cs w hn hl h
  have := l4Format_w 0 (by omega) (fun d' h => by omega) (txtV l) cs w (txtV_ok0 (by omega) hl) h (fun hne => absurd ⟨rfl, rfl⟩ hne) (by simp [txtV])
  rw [fmtF_eq, fmtP_txt, wrS, if_pos ⟨rfl, rfl⟩] at this
  exact this
theorem l4Format_any (d : Nat) (hd : d ≤ 3) : lfP d := by
  induction d with
  | zero =>
    intro v cs w hok h
    by_cases n0 : v.kind = 0
    · exact l4Format_0 0 v cs w hok h n0
    · exact l4Format_w 0 hd (fun d' h => by omega) v cs w hok h (fun _ => l4Format_txt) n0
  | succ d ih =>
    intro v cs w hok h
    by_cases n0 : v.kind = 0
    · exact l4Format_0 _ v cs w hok h n0
    · exact l4Format_w (d + 1) hd (fun d' h => by
        have : d' = d := by omega
        rw [this]; exact ih (by omega)) v cs w hok h (fun _ => l4Format_txt) n0
set_option maxHeartbeats 2000000 in
theorem specFormatVector_any (v : Vec) (cs : List Value) (w : World) (h : rep w w.heap.size v.toD cs) (hbig : bigV v) :
    Calls Try.prog 54 #[av cs] w fun e w' => e = .returned (sv (fmtV v)) ∧ Below w.heap.size w w' := by
  obtain ⟨Ai, ni, ci, Ap, np, cp, An, nn, cn, Ac, nc, cc, Al, nl, cl, rfl, hv⟩ := vec_open h
  have q0 := (Below.refl w.heap.size w).alloc (Nat.le_refl _) (.cells (vc v Ai ni ci Ap np cp An nn cn Ac nc cc Al nl cl).toArray 34)
  go_enter Try.func54, Try.ntmps54
  go_wp2_with fail
  refine (specIsVector_any v _ _ (rep_next h q0) hbig).mono ?_
  rintro e w1 ⟨rfl, hb1⟩
  have q1 := bth q0 hb1
  obtain ⟨hc1, hf1⟩ := bcell hb1
  simp only [wsize_alloc] at hc1 hf1
  cases hi : isVec v with
  | false =>
    have HI := Lib.hid hi
    go_wp2_with fail
    go_ret
    exact ⟨ret_str (by rw [fmtV, HI.out]; rfl), q1⟩
  | true =>
    have HI := Lib.hid hi
    go_wp2_with fail
    refine (l4Format_any 3 (by omega) v _ _ (isVec_ok HI.out) (rep_next (rep_next h q0) hb1)).mono ?_
    rintro e w2 ⟨rfl, hb2⟩
    go_wp2_with fail
    go_ret
    exact ⟨ret_str (by rw [fmtV, HI.out, if_pos rfl]), bth q1 hb2⟩
end Go.Proofs.Ytekcpadlmfaihaa
