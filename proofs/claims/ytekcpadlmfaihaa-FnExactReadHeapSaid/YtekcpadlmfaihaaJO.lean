/- How often each cell is referred to: what cellCounts returns. -/
import Derived.Test.YtekcpadlmfaihaaJN
set_option linter.unusedSimpArgs false
set_option linter.unusedVariables false
namespace Go.Proofs.Ytekcpadlmfaihaa
open Go.RowKit
theorem ret_two {a b c d : Value} (h : a = c) (h' : b = d) : Ending.returned (.tuple #[a, b]) = .returned (.tuple #[c, d]) := by rw [h, h']
theorem inR_no {h : Hp} {k : Int} {l : List Int} {i : Nat} (hi : l[i]? = some k) (hk : ¬ (0 ≤ k ∧ k < h.cells.length)) : l.all (inR h) = false := all_bad hi (by simpa [inR] using hk)
/-- Two results: counts, and whether there are any. -/
def CtR (h : Hp) (n : Nat) (w : World) (e : Ending) (w' : World) : Prop :=
  ((refs h).all (inR h) = false ∧ e = .returned (.tuple #[.slice none 0 0, .bool false]) ∧ Below w.heap.size w w') ∨
  ((refs h).all (inR h) = true ∧ ∃ g c, e = .returned (.tuple #[.slice (some ⟨g, 0, none⟩) n c, .bool true]) ∧ Own encI 1 3 w' w.heap.size (some ⟨g, 0, none⟩) n c (cnts n (refs h)) ∧ Below w.heap.size w w')
theorem cnts_le {n : Nat} {l : List Int} {i : Nat} (hi : i < n) : ∃ v : Int, (cnts n l)[i]? = some v ∧ 0 ≤ v ∧ v ≤ l.length := ⟨_, cnts_at l hi, by omega, by have := List.count_le_length (a := (i : Int)) (l := l); omega⟩
theorem refs_part {h : Hp} {p : Nat} {x : Cel} (hx : h.cells[p]? = some x) : (h.slots ++ (h.cells.take p).flatMap (·.parts)).length + x.parts.length ≤ (refs h).length := by
  have e : h.cells = h.cells.take p ++ x :: h.cells.drop (p + 1) := by
    obtain ⟨hp, rfl⟩ := List.getElem?_eq_some_iff.1 hx
    rw [List.getElem_cons_drop hp, List.take_append_drop]
  unfold refs
  conv => rhs; rw [e]
  simp only [List.length_append, List.flatMap_append, List.flatMap_cons]
  omega
theorem refs_no {h : Hp} {p : Nat} {x : Cel} (hx : h.cells[p]? = some x) (hn : x.parts.all (inR h) = false) : (refs h).all (inR h) = false := by
  rw [List.all_eq_false] at hn ⊢
  obtain ⟨k, hk, hb⟩ := hn
  exact ⟨k, by unfold refs; exact List.mem_append_right _ (List.mem_flatMap.2 ⟨x, List.mem_of_getElem? hx, hk⟩), hb⟩
theorem refs_le (h : Hp) : (refs h).length ≤ szD h.toD := by
  have h1 := Heap_sz h
  have h2 : ∀ l : List Cel, (l.flatMap (·.parts)).length ≤ szDs (l.map Cel.toD) := fun l => by
    induction l with
    | nil => simp
    | cons c t ih =>
      have := Cell_sz c
      rw [List.flatMap_cons, List.length_append, List.map_cons, szDs]
      simp only [szD, List.length_map] at this
      omega
  have h3 := h2 h.cells
  unfold refs
  rw [List.length_append]
  simp only [szD, List.length_map] at h1
  omega
theorem made_zeros (n : Nat) : (madeCells #[.int .i64 0] n).toList = (List.replicate n (0 : Int)).flatMap encI := by
  rw [toList_madeCells_one]
  induction n with
  | zero => rfl
  | succ n ih => rw [List.replicate_succ, List.replicate_succ, List.flatMap_cons, ← ih]; rfl
set_option maxRecDepth 100000 in
set_option maxHeartbeats 8000000 in
theorem cellCounts_any (h : Hp) (hz : szD h.toD ≤ 1048576) (hcl : h.cells.length ≤ 1048576) (hsl : (refs h).length ≤ 1048576) (cs : List Value) (w : World) (hr : rep w w.heap.size h.toD cs) : Calls Try.prog 45 #[av cs] w (CtR h h.cells.length w) := by
  obtain ⟨A, n, c, Am, nm, cm, As, ns, ca, rfl, rc, rn, rs, wc⟩ := Heap_open hr
  have hl := (rep_sl_len rc).1
  rw [List.length_map] at hl
  obtain ⟨As', ns', ca', he, _, hsm, hs, _⟩ := (repI _ _ _ _).1 rs
  injection he with he; injection he with f1 f2 f3; subst f1 f2 f3
  have hn : n ≤ 1048576 := by omega
  have q0 := (Below.refl w.heap.size w).alloc (Nat.le_refl _) (.cells #[.slice A n c, .slice Am nm cm, .slice As ns ca, .int .i64 h.copies] 48)
  obtain ⟨i0, hi0, hz0, hz1, hz2⟩ := info_parts intInfo
  have hmk := fun W => run_make_rowN (P := Try.prog) 41 3 i0 _ Try.underlying41 hi0 hz0 .i64 .i64 n n (Nat.le_refl _) (by rw [hz2]; omega) (by omega) W
  rw [hz1, Nat.mul_one] at hmk
  have kh : Blk ((w.alloc (.cells #[.slice A n c, .slice Am nm cm, .slice As ns ca, .int .i64 h.copies] 48)).alloc (.cells (madeCells #[.int .i64 0] n) 3)) w.heap.size 48 [.slice A n c, .slice Am nm cm, .slice As ns ca, .int .i64 h.copies] := (Blk.new' (l := [.slice A n c, .slice Am nm cm, .slice As ns ca, .int .i64 h.copies])).al
  have q1 := q0.alloc (by simp only [wsize_alloc]; omega) (.cells (madeCells #[.int .i64 0] n) 3)
  have o0 : Own encI 1 3 ((w.alloc (.cells #[.slice A n c, .slice Am nm cm, .slice As ns ca, .int .i64 h.copies] 48)).alloc (.cells (madeCells #[.int .i64 0] n) 3)) (w.heap.size + 1) (some ⟨w.heap.size + 1, 0, none⟩) n n (cnts n []) :=
    Own.new_ encI_len _ _ _ (by rw [cnts_nil]; exact made_zeros n) (cnts_len n []) (by unfold maxLen; omega) (by simp only [wsize_alloc]; omega) (by simp only [wsize_alloc])
  have HL := Lib.hid hl
  have hsl' := hsl
  rw [refs, List.length_append] at hsl'
  have hss : h.slots.length = ns := hs.len
  have HSS := Lib.hid hss
  have hns : ns ≤ 1048576 := by omega
  clear hl hss
  go_enter Try.func45, Try.ntmps45
  go_wp2_with fail
  clear hmk
  go_loopw [18] (fun v wr => ∃ m : Nat, m ≤ ns ∧ v = .int .i64 m ∧ Own encI 1 3 wr (w.heap.size + 1) (some ⟨w.heap.size + 1, 0, none⟩) n n (cnts n (h.slots.take m)) ∧ (h.slots.take m).all (inR h) = true ∧ Blk wr w.heap.size 48 [.slice A n c, .slice Am nm cm, .slice As ns ca, .int .i64 h.copies] ∧ Below w.heap.size w wr) (fun v _ => ns - (intOf v).toNat)
  case atStart => exact ⟨0, by omega, rfl, o0, by simp, kh, q1⟩
  case round =>
    clear kh o0 q1
    obtain ⟨m, hm, rfl, o0, hall, kh, bb⟩ := hrel
    obtain ⟨g0, g1, g2, g3⟩ := kh.c4
    have HAL := Lib.hid hall
    clear hall
    by_cases hlt : m < ns
    · obtain ⟨b, off, k, rfl, hbl, hk, hc0⟩ := (hs.below bb).atI hlt
      have im : (m : Int) < (ns : Int) := by omega
      by_cases hin : 0 ≤ k ∧ k < (n : Int)
      · obtain ⟨i, rfl⟩ : ∃ i : Nat, k = i := ⟨k.toNat, by omega⟩
        have hi : i < n := by omega
        obtain ⟨v, hv, hv0, hvl⟩ := cnts_le (l := h.slots.take m) hi
        have hvb : v ≤ 1048576 := by have := List.length_take_le m h.slots; omega
        obtain ⟨_, _, v', e1, _, hv', hcv⟩ := (o0.reads encI_len).atI hi
        injection e1 with e1; injection e1 with e1 e2; subst e1 e2
        rw [hv] at hv'; injection hv' with hv'; subst hv'
        rw [Nat.zero_add] at hcv
        have zf := (o0.fil).1.frozen i
        have HV := Lib.hid hv
        have HK := Lib.hid hk
        have i1 : (i : Int) < (n : Int) := by omega
        have i0 : (0 : Int) ≤ (i : Int) := by omega
        have hne : ¬ (n : Int) ≤ (i : Int) := by omega
        clear hin hv hk
        go_wp2_with fail
        go_roundw
        case rel =>
          have o1 := Own.set_ encI_len o0 i 0 v (v + 1) (.int .i64 (v + 1)) HV.out (by omega) rfl
          rw [Nat.mul_one, Nat.add_zero] at o1
          have hvc : v = ((List.count (i : Int) (h.slots.take m) : Nat) : Int) := by
            have := cnts_at (h.slots.take m) hi
            rw [HV.out] at this; injection this
          refine ⟨m + 1, by omega, by go_num, ?_, ?_, ?_, ?_⟩
          · rw [take_snoc' HK.out, ← cnts_snoc _ hi, ← hvc]; exact o1
          · exact all_snoc HK.out HAL.out (by simp [inR]; rw [HL.out]; omega)
          · exact kh.pk (by simp only; omega)
          · exact bel_set bb (by simp only; omega)
        case measure => simp [intOf]; omega
      · have hno := inR_no (h := h) hk (by rw [HL.out]; exact hin)
        have HN : Hid ((refs h).all (inR h) = false) := Lib.hid (by rw [refs, List.all_append, hno]; rfl)
        by_cases h0 : k < 0
        · clear hin hno hk
          go_wp2_with fail
          go_ret2
          exact .inl ⟨HN.out, rfl, bb⟩
        · have h1 : (n : Int) ≤ k := by omega
          clear hin hno hk
          go_wp2_with fail
          go_ret2
          exact .inl ⟨HN.out, rfl, bb⟩
    · obtain rfl : m = ns := by omega
      have ha := HAL.out
      rw [List.take_of_length_le (by rw [HSS.out]; omega)] at o0 ha
      have HA := Lib.hid ha
      clear ha HAL
      go_wp2_with fail
      go_loopw [41] (fun v wr => ∃ p : Nat, p ≤ n ∧ v = .int .i64 p ∧ Own encI 1 3 wr (w.heap.size + 1) (some ⟨w.heap.size + 1, 0, none⟩) n n (cnts n (h.slots ++ (h.cells.take p).flatMap (·.parts))) ∧ (h.slots ++ (h.cells.take p).flatMap (·.parts)).all (inR h) = true ∧ Blk wr w.heap.size 48 [.slice A n c, .slice Am nm cm, .slice As m ca, .int .i64 h.copies] ∧ Below w.heap.size w wr) (fun v _ => n - (intOf v).toNat)
      case atStart => exact ⟨0, by omega, rfl, by simpa using o0, by simpa using HA.out, kh, bb⟩
      case round =>
        clear kh o0 bb g0 g1 g2 g3
        obtain ⟨p, hp, rfl, o0, hall, kh, bb⟩ := hrel
        obtain ⟨g0, g1, g2, g3⟩ := kh.c4
        have HAL := Lib.hid hall
        clear hall
        by_cases hlp : p < n
        · obtain ⟨b, off, x, Ai, ni, ci, Ap, np, cp, An, nn, cn, Ac, nc, cc, Al, nl, cl, Aq, nq, cq, rfl, hbl, hx, hrx, e0, e1, e2, e3, e4, e5, e6, e7, e8, e9⟩ := Cell_at (rep_below rc bb) hlp
          obtain ⟨_, _, _, _, _, _, _, _, _, _, _, _, _, _, _, _, _, _, hcs, _, _, rq⟩ := Cell_open hrx
          simp only [List.cons.injEq, Value.slice.injEq, true_and, and_true] at hcs
          obtain ⟨⟨rfl, rfl, rfl⟩, ⟨rfl, rfl, rfl⟩, ⟨rfl, rfl, rfl⟩, ⟨rfl, rfl, rfl⟩, ⟨rfl, rfl, rfl⟩, rfl, rfl, rfl⟩ := hcs
          obtain ⟨Aq', nq', cq', he, _, hqm, hq, _⟩ := (repI _ _ _ _).1 rq
          injection he with he; injection he with f1 f2 f3; subst f1 f2 f3
          have hpl : x.parts.length = nq := hq.len
          have hbd : (h.slots ++ (h.cells.take p).flatMap (·.parts)).length + nq ≤ 1048576 := by
            have := refs_part (h := h) hx
            omega
          have RQ0 : Reads encI 1 w w.heap.size Aq nq x.parts := hq.keep (fun p hp => (bb.cell hp).symm)
          have RQ := Lib.hid RQ0
          clear RQ0
          have HX := Lib.hid hx
          have HPL := Lib.hid hpl
          have HBD := Lib.hid hbd
          have hnq : nq ≤ 1048576 := by omega
          have z0 := bb.size
          have yb : b < wr.heap.size := by omega
          have yh := kh.lt
          have ip : (p : Int) < (n : Int) := by omega
          have kh2 := kh.al (o := .cells #[.int .i64 x.count, .int .i64 x.value.kind, .slice Ai ni ci, .slice Ap np cp, .slice An nn cn, .slice Ac nc cc, .slice Al nl cl, .int .i64 x.value.code, .int .i64 x.value.env, .slice Aq nq cq] 71)
          have bb2 := bel_al (o := .cells #[.int .i64 x.count, .int .i64 x.value.kind, .slice Ai ni ci, .slice Ap np cp, .slice An nn cn, .slice Ac nc cc, .slice Al nl cl, .int .i64 x.value.code, .int .i64 x.value.env, .slice Aq nq cq] 71) bb z0
          have o2 := o0.al (o := .cells #[.int .i64 x.count, .int .i64 x.value.kind, .slice Ai ni ci, .slice Ap np cp, .slice An nn cn, .slice Ac nc cc, .slice Al nl cl, .int .i64 x.value.code, .int .i64 x.value.env, .slice Aq nq cq] 71)
          clear hx hpl hbd rq
          go_wp2_with fail
          clear e0 e1 e2 e3 e4 e5 e6 e7 e8 e9 g0 g1 g2 g3
          obtain ⟨wo, hwo⟩ : ∃ wo : World, wo = wr := ⟨_, rfl⟩
          subst hwo
          go_loopw [48] (fun v wr => ∃ q : Nat, q ≤ nq ∧ v = .int .i64 q ∧ Own encI 1 3 wr (w.heap.size + 1) (some ⟨w.heap.size + 1, 0, none⟩) n n (cnts n ((h.slots ++ (h.cells.take p).flatMap (·.parts)) ++ x.parts.take q)) ∧ (x.parts.take q).all (inR h) = true ∧ Blk wr w.heap.size 48 [.slice (some ⟨b, off, none⟩) n c, .slice Am nm cm, .slice As m ca, .int .i64 h.copies] ∧ Below w.heap.size w wr) (fun v _ => nq - (intOf v).toNat)
          case atStart => exact ⟨0, by omega, rfl, by simpa using o2, by simp, kh2, bb2⟩
          case round =>
            clear kh2 o2 bb2
            obtain ⟨q, hqq, rfl, o2, hall, kh2, bb2⟩ := hrel
            obtain ⟨g0, g1, g2, g3⟩ := kh2.c4
            have HAQ := Lib.hid hall
            clear hall
            by_cases hlq : q < nq
            · obtain ⟨b3, o3, k, rfl, hb3, hk, hc0⟩ := (RQ.out.below bb2).atI hlq
              have iq : (q : Int) < (nq : Int) := by omega
              by_cases hin : 0 ≤ k ∧ k < (n : Int)
              · obtain ⟨i, rfl⟩ : ∃ i : Nat, k = i := ⟨k.toNat, by omega⟩
                have hi : i < n := by omega
                obtain ⟨v, hv, hv0, hvl⟩ := cnts_le (l := (h.slots ++ (h.cells.take p).flatMap (·.parts)) ++ x.parts.take q) hi
                have hvb : v ≤ 1048576 := by have := HBD.out; have := List.length_take_le q x.parts; rw [List.length_append, List.length_take, HPL.out] at hvl; omega
                obtain ⟨_, _, v', e1, _, hv', hcv⟩ := (o2.reads encI_len).atI hi
                injection e1 with e1; injection e1 with e1 e2; subst e1 e2
                rw [hv] at hv'; injection hv' with hv'; subst hv'
                rw [Nat.zero_add] at hcv
                have zf := (o2.fil).1.frozen i
                have HV := Lib.hid hv
                have HK := Lib.hid hk
                have i1 : (i : Int) < (n : Int) := by omega
                have i0 : (0 : Int) ≤ (i : Int) := by omega
                have hne : ¬ (n : Int) ≤ (i : Int) := by omega
                clear hin hv hk hvl
                go_wp2_with fail
                go_roundw
                case rel =>
                  have o3 := Own.set_ encI_len o2 i 0 v (v + 1) (.int .i64 (v + 1)) HV.out (by omega) rfl
                  rw [Nat.mul_one, Nat.add_zero] at o3
                  have hvc : v = ((List.count (i : Int) ((h.slots ++ (h.cells.take p).flatMap (·.parts)) ++ x.parts.take q) : Nat) : Int) := by
                    have := cnts_at ((h.slots ++ (h.cells.take p).flatMap (·.parts)) ++ x.parts.take q) hi
                    rw [HV.out] at this; injection this
                  refine ⟨q + 1, by omega, by go_num, ?_, ?_, ?_, ?_⟩
                  · rw [take_snoc' HK.out, ← List.append_assoc, ← cnts_snoc _ hi, ← hvc]; exact o3
                  · exact all_snoc HK.out HAQ.out (by simp [inR]; rw [HL.out]; omega)
                  · exact kh2.pk (by simp only; omega)
                  · exact bel_set bb2 (by simp only; omega)
                case measure => simp [intOf]; omega
              · have hno := inR_no (h := h) hk (by rw [HL.out]; exact hin)
                have HN : Hid ((refs h).all (inR h) = false) := Lib.hid (refs_no HX.out hno)
                by_cases h0 : k < 0
                · clear hin hno hk
                  go_wp2_with fail
                  go_ret2
                  exact .inl ⟨HN.out, rfl, bb2⟩
                · have h1 : (n : Int) ≤ k := by omega
                  clear hin hno hk
                  go_wp2_with fail
                  go_ret2
                  exact .inl ⟨HN.out, rfl, bb2⟩
            · obtain rfl : q = nq := by omega
              have e1 : h.slots ++ (h.cells.take (p + 1)).flatMap (·.parts) = (h.slots ++ (h.cells.take p).flatMap (·.parts)) ++ x.parts.take q := by
                rw [take_snoc' HX.out, List.flatMap_append, List.append_assoc, List.take_of_length_le (l := x.parts) (by rw [HPL.out]; omega)]; simp
              have E1 := Lib.hid e1
              clear e1
              go_wp2_with fail
              go_roundw
              case rel => exact ⟨p + 1, by omega, by go_num, by rw [E1.out]; exact o2, by rw [E1.out, List.all_append, HAL.out, HAQ.out]; rfl, kh2, bb2⟩
              case measure => simp [intOf]; omega
        · obtain rfl : p = n := by omega
          rw [List.take_of_length_le (by rw [HL.out]; omega)] at o0
          have ha := HAL.out
          rw [List.take_of_length_le (by rw [HL.out]; omega)] at ha
          have HA2 := Lib.hid ha
          clear ha
          go_wp2_with fail
          go_ret2
          refine .inr ⟨HA2.out, w.heap.size + 1, p, ?_, ?_, bb⟩
          · exact ret_two (by rw [HL.out]; rfl) rfl
          · rw [HL.out]; exact o0.mono (by omega)
end Go.Proofs.Ytekcpadlmfaihaa
