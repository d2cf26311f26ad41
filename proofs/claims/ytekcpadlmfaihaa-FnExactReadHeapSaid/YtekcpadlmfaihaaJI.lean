/- Numbers as texts: what FormatInt of the reference returns, for all ints. Numbers as texts: what FormatInt of the program returns. Strings in quotes: what QuoteString returns. Strings in quotes, numbers as texts: what QuoteString of the reference and FormatNumber return. Letters, digits, reserved words, syntactic names: what the functions of the program and of the reference return. -/
import Derived.Test.YtekcpadlmfaihaaJB
import Derived.Test.YtekcpadlmfaihaaJA
import Derived.Laws.IdiomStrings
import Derived.BigRegion
import Derived.Deep.DeepCutAuto
import Derived.Test.YtekcpadlmfaihaaJG
import Derived.Test.YtekcpadlmfaihaaJH
import Derived.Deep.RegionLaw
import Derived.Test.YtekcpadlmfaihaaJF
set_option linter.unusedSimpArgs false
set_option linter.unusedVariables false
namespace Go.Proofs.Ytekcpadlmfaihaa
open Go.RowKit
/-- The decimal form of a number. -/
def fmtI (n : Int) : Str := if n = 0 then [48] else if n < 0 then 45 :: dgs n.natAbs n.natAbs [] else dgs n.natAbs n.natAbs []
theorem digit_slice (d : Nat) (h : d < 10) : (List.drop d [48, 49, 50, 51, 52, 53, 54, 55, 56, 57]).take 1 = [(48 : UInt8) + UInt8.ofNat d] := by
  have : ∀ d : Fin 10, (List.drop d.val [48, 49, 50, 51, 52, 53, 54, 55, 56, 57]).take 1 = [(48 : UInt8) + UInt8.ofNat d.val] := by decide
  exact this ⟨d, h⟩
set_option maxHeartbeats 1000000 in
theorem specFormatInt_any (n : Int) (w : World) (h0 : -9223372036854775808 ≤ n) (h1 : n ≤ 9223372036854775807) :
    Calls Try.prog 55 #[.int .i64 n] w fun e w' => e = .returned (sv (fmtI n)) ∧ w = w' := by
  go_enter Try.func55, Try.ntmps55
  go_wp2
  go_loop [3, 4] (fun v i => ∃ (x : Int) (s : Str), i = .int .i64 x ∧ v = sv s ∧ x.natAbs + 2 * s.length ≤ n.natAbs + 1 ∧ (x ≠ 0 → x.natAbs + 2 * s.length ≤ n.natAbs) ∧ dgs n.natAbs n.natAbs [] = dgs x.natAbs x.natAbs s ∧ -9223372036854775808 ≤ x ∧ x ≤ 9223372036854775807) (fun _ i => (intOf i).natAbs)
  case atStart => exact ⟨n, [], rfl, rfl, by simp, by simp, rfl, h0, h1⟩
  case round =>
    obtain ⟨x, s, rfl, rfl, hl, hl', hdg, hx0, hx1⟩ := hrel
    have hsl : s.length ≤ 4611686018427387905 := by omega
    have HD := Lib.hid hdg
    clear hdg
    by_cases hx : x = 0
    · subst hx
      by_cases hn : n = 0
      · subst hn
        go_wp2
        go_ret
        exact ⟨rfl, rfl⟩
      · have hnb : (n == 0) = false := by simpa using hn
        go_wp2
        · go_ret
          exact ⟨ret_str (by rw [fmtI, if_neg hn, if_pos (by omega), HD.out]; rfl), rfl⟩
        · go_ret
          exact ⟨ret_str (by rw [fmtI, if_neg hn, if_neg (by omega), HD.out]; rfl), rfl⟩
    · have hnb : (x != 0) = true := by simpa using hx
      have hl2 := hl' hx
      clear hl'
      have e1 : (x.tmod 10).natAbs = x.natAbs % 10 := by rw [Int.natAbs_tmod]; rfl
      have e2 : (x.tdiv 10).natAbs = x.natAbs / 10 := by rw [Int.natAbs_tdiv]; rfl
      have b1 : -9 ≤ x.tmod 10 := by omega
      have b2 : x.tmod 10 ≤ 9 := by omega
      have b3 : -9223372036854775808 ≤ x.tdiv 10 ∧ x.tdiv 10 ≤ 9223372036854775807 := by omega
      have b4 : x.tdiv 10 = 0 → x.natAbs < 10 := by omega
      have HS := Lib.hid (dgs_step x.natAbs s (by omega))
      by_cases hneg : x.tmod 10 < 0
      · have hdi : (List.drop (-x.tmod 10).toNat [48, 49, 50, 51, 52, 53, 54, 55, 56, 57]).take 1 = [(48 : UInt8) + UInt8.ofNat (x.natAbs % 10)] := by
          rw [digit_slice _ (by omega)]
          have : (-x.tmod 10).toNat = x.natAbs % 10 := by omega
          rw [this]
        have E1 := Lib.hid e1
        have E2 := Lib.hid e2
        have B4 := Lib.hid b4
        have HDI := Lib.hid hdi
        clear e1 e2 b4 hdi
        go_wp2
        have ht : (-x.tmod 10 + 1).toNat - (-x.tmod 10).toNat = 1 := by omega
        rw [ht, HDI.out]
        have e2 := E2.out
        have b4 := B4.out
        clear ht
        go_round
        case rel => exact ⟨x.tdiv 10, (48 + UInt8.ofNat (x.natAbs % 10)) :: s, rfl, rfl, by rw [List.length_cons]; omega, by rw [List.length_cons]; omega, by rw [HD.out, HS.out, e2], b3.1, b3.2⟩
        case measure => simp only [intOf]; omega
      · have hdi : (List.drop (x.tmod 10).toNat [48, 49, 50, 51, 52, 53, 54, 55, 56, 57]).take 1 = [(48 : UInt8) + UInt8.ofNat (x.natAbs % 10)] := by
          rw [digit_slice _ (by omega)]
          have : (x.tmod 10).toNat = x.natAbs % 10 := by omega
          rw [this]
        have E1 := Lib.hid e1
        have E2 := Lib.hid e2
        have B4 := Lib.hid b4
        have HDI := Lib.hid hdi
        clear e1 e2 b4 hdi
        go_wp2
        have ht : (x.tmod 10 + 1).toNat - (x.tmod 10).toNat = 1 := by omega
        rw [ht, HDI.out]
        have e2 := E2.out
        have b4 := B4.out
        clear ht
        go_round
        case rel => exact ⟨x.tdiv 10, (48 + UInt8.ofNat (x.natAbs % 10)) :: s, rfl, rfl, by rw [List.length_cons]; omega, by rw [List.length_cons]; omega, by rw [HD.out, HS.out, e2], b3.1, b3.2⟩
        case measure => simp only [intOf]; omega
end Go.Proofs.Ytekcpadlmfaihaa
namespace Go.Proofs.Ytekcpadlmfaihaa
open Go.RowKit
theorem encB_len (b : UInt8) : (encB b).length = 1 := rfl
theorem encB_one (b : UInt8) : ∀ u ∈ encB b, u.oneCell' = true := by simp [encB, Value.oneCell']
theorem U8Info : (Try.prog.info? 5).map (fun i => (i.zero, i.size, i.bytes)) = some (some (.int .u8 0), 1, 1) := by kernel_rfl
theorem tyU8 : ElemTy Try.prog 104 5 1 1 := by
  obtain ⟨i0, hi, hz0, hz1, hz2⟩ := info_parts U8Info
  exact ⟨i0, _, Try.underlying104, hi, hz0, hz1, hz2, rfl, by omega⟩
/-- string of a slice of bytes. -/
theorem run_conv {w : World} {B n c g off : Nat} {l : List UInt8} (h : Reads encB 1 w B (some ⟨g, off, none⟩) n l) :
    (convert 104 9 (.slice (some ⟨g, off, none⟩) n c)).run Try.prog w = .ok (sv l) w := by
  have hl := h.len
  subst hl
  refine run_convert_bytes_back w _ _ 5 ⟨g, off, none⟩ c l Try.underlying104 Try.underlying5 Try.underlying9 (fun j hj => ?_)
  obtain ⟨b, o, x, e, hb, hx, hc⟩ := h.at_ hj
  injection e with e; injection e with e1 e2 e3; subst e1 e2
  have := hc 0 _ rfl
  rw [List.getElem?_eq_getElem hj] at hx; injection hx with hx; subst hx
  by_cases hj0 : j = 0
  · subst hj0; simpa [Addr.add] using this
  · simpa [Addr.add, hj0] using this
theorem Own.frozen {α : Type} {enc : α → List Value} {s : Nat} {e : TypeId} {w : World} {base n c g : Nat} {l : List α} (h : Own enc s e w base (some ⟨g, 0, none⟩) n c l) (i : Nat) : w.frozen? ⟨g, i, none⟩ = false := h.fil.1.frozen i
theorem newsB (w : World) (b off : Nat) (y : UInt8) (h : w.cell? ⟨b, off, none⟩ = some (.int .u8 y.toNat)) : ∀ j u, (encB y)[j]? = some u → w.cell? ⟨b, off + j, none⟩ = some u := by
  intro j u hu
  match j, hu with
  | 0, hu => simp [encB] at hu; subst hu; exact h
  | j + 1, hu => simp [encB] at hu
/-- The order turned round, so far. -/
def halfway (L cur : List UInt8) (i j : Nat) : Prop := cur.length = L.length ∧ ∀ q, q < L.length → cur[q]? = if q < i ∨ j < q then L[L.length - 1 - q]? else L[q]?
theorem halfway_start (L : List UInt8) : halfway L L 0 (L.length - 1) := ⟨rfl, fun q hq => by rw [if_neg (by omega)]⟩
theorem halfway_end {L cur : List UInt8} {i j : Nat} (h : halfway L cur i j) (hij : i + j + 1 = L.length) (hle : j ≤ i) : cur = L.reverse := by
  apply List.ext_getElem?
  intro q
  by_cases hq : q < L.length
  · rw [h.2 q hq, List.getElem?_reverse hq]
    split
    · rfl
    · have : L.length - 1 - q = q := by omega
      rw [this]
  · rw [List.getElem?_eq_none (by rw [h.1]; omega), List.getElem?_eq_none (by rw [List.length_reverse]; omega)]
theorem halfway_step {L cur : List UInt8} {i j : Nat} {x y : UInt8} (h : halfway L cur i j) (hij : i + j + 1 = L.length) (hlt : i < j) (hx : cur[i]? = some x) (hy : cur[j]? = some y) : halfway L ((cur.set i y).set j x) (i + 1) (j - 1) := by
  have hi := h.2 i (by omega)
  have hj := h.2 j (by omega)
  rw [if_neg (by omega), hx] at hi
  rw [if_neg (by omega), hy] at hj
  refine ⟨by simp [h.1], fun q hq => ?_⟩
  have hl := h.1
  rw [List.getElem?_set, List.getElem?_set]
  by_cases e1 : j = q
  · subst e1
    have : L.length - 1 - j = i := by omega
    rw [if_pos rfl, if_pos (by simp; omega), if_pos (by omega), this, hi]
  · rw [if_neg e1]
    by_cases e2 : i = q
    · subst e2
      have : L.length - 1 - i = j := by omega
      rw [if_pos rfl, if_pos (by omega), if_pos (by omega), this, hj]
    · rw [if_neg e2, h.2 q hq]
      by_cases e3 : q < i ∨ j < q
      · rw [if_pos e3, if_pos (by omega)]
      · rw [if_neg e3, if_neg (by omega)]
def fiR (w : World) (n : Int) (v0 v3 : Value) (wr : World) : Prop := ∃ (x : Int) (A : Option Addr) (k c : Nat) (l : List UInt8), v0 = .int .i64 x ∧ v3 = .slice A k c ∧ Own encB 1 5 wr w.heap.size A k c l ∧
  dgs n.natAbs n.natAbs [] = dgs x.natAbs x.natAbs l.reverse ∧ -9223372036854775808 ≤ x ∧ x ≤ 9223372036854775807 ∧ Below w.heap.size w wr ∧ (x ≠ 0 → x.natAbs * 10 ^ k ≤ n.natAbs) ∧ k ≤ 19 ∧ (x = 0 → 0 < k)
theorem pow_small {k m : Nat} {x : Nat} (h : x * 10 ^ k ≤ m) (hx : x ≠ 0) (hm : m ≤ 9223372036854775808) : k ≤ 18 := by
  rcases Nat.lt_or_ge k 19 with h1 | h1
  · omega
  · have := Nat.pow_le_pow_right (n := 10) (by omega) h1
    have h2 : 10 ^ k ≤ x * 10 ^ k := Nat.le_mul_of_pos_left _ (by omega)
    have h3 : (10 : Nat) ^ 19 = 10000000000000000000 := by decide
    omega
theorem digitU (d : Nat) (h : d < 10) : (((48 : UInt8) + UInt8.ofNat d).toNat : Int) = 48 + d := by
  have : ∀ d : Fin 10, (((48 : UInt8) + UInt8.ofNat d.val).toNat : Int) = 48 + (d.val : Int) := by decide
  exact this ⟨d, h⟩
theorem pow_step {x k m : Nat} (h : x * 10 ^ k ≤ m) : x / 10 * 10 ^ (k + 1) ≤ m := by
  have h1 : x / 10 * 10 ≤ x := Nat.div_mul_le_self x 10
  have h2 : x / 10 * 10 ^ (k + 1) = x / 10 * 10 * 10 ^ k := by rw [Nat.pow_succ, Nat.mul_assoc, Nat.mul_comm 10]
  rw [h2]
  exact Nat.le_trans (Nat.mul_le_mul_right _ h1) h
def fiC (w : World) (n : Int) (s3 : Value) (wx : World) : Prop := ∃ (g c m : Nat) (L : List UInt8), s3 = .slice (some ⟨g, 0, none⟩) m c ∧ Own encB 1 5 wx w.heap.size (some ⟨g, 0, none⟩) m c L ∧ Below w.heap.size w wx ∧ L.reverse = fmtI n ∧ 0 < m ∧ m ≤ 20
set_option maxRecDepth 100000 in
set_option maxHeartbeats 2000000 in
theorem implFormatInt_any (n : Int) (w : World) (h0 : -9223372036854775808 ≤ n) (h1 : n ≤ 9223372036854775807) :
    Calls Try.prog 58 #[.int .i64 n] w fun e w' => e = .returned (sv (fmtI n)) ∧ Below w.heap.size w w' := by
  by_cases hn0 : n = 0
  · subst hn0
    go_enter Try.func58, Try.ntmps58
    go_wp2
    go_ret
    exact ⟨rfl, Below.refl _ _⟩
  have hnb : (n == 0) = false := by simpa using hn0
  go_enter Try.func58, Try.ntmps58
  go_wp2
  go_loopw [0, 3] (fun v0 v3 wr => fiR w n v0 v3 wr) (fun v0 _ _ => (intOf v0).natAbs)
  case atStart => exact ⟨n, none, 0, 0, [], rfl, rfl, Own.nil_, rfl, h0, h1, Below.refl _ _, fun _ => by simp, by omega, fun h => absurd h hn0⟩
  case round =>
    obtain ⟨x, A, k, c, l, rfl, rfl, ho, hdg, hx0, hx1, hb, hpw, hk, hkp⟩ := hrel
    have hlen := ho.len
    have HD := Lib.hid hdg
    clear hdg
    by_cases hx : x = 0
    · subst hx
      have hk0 := hkp rfl
      clear hpw hkp
      have hD0 : dgs n.natAbs n.natAbs [] = l.reverse := HD.out
      obtain ⟨g, rfl⟩ : ∃ g, A = some ⟨g, 0, none⟩ := by
        rcases ho.cases with h | h
        · omega
        · exact h
      have H0 := Lib.hid hD0
      clear HD hD0
      go_upto_if 28 with fail
      go_cut [3, 4] (fun s3 _ wx => fiC w n s3 wx)
      case first =>
        go_wp2_with (first | (at_builtin; refine wpList_app1 encB tyU8 encB_len encB_one rfl _ _ rfl w.heap.size _ k c _ rfl (ho.alloc _) 45 _ 0 1 rfl (newsB _ _ _ _ ?_) ?_ ?_ ?_ ?_; (exact Blk.new'.cell 0); (omega); (unfold maxLen; omega); (have := hb.size; simp; omega); intro g1 c1 w1 ho1 hg1 hb1 hat1))
        · have hneg : n < 0 := by assumption
          go_meet
          exact ⟨g1, c1, k + 1, l ++ [45], rfl, ho1, (hb.alloc hb.size _).trans hb1, by rw [List.reverse_append, ← H0.out, fmtI, if_neg hn0, if_pos hneg]; rfl, by omega, by omega⟩
        · have hneg : ¬ n < 0 := by omega
          go_meet
          exact ⟨g, c, k, l, rfl, ho, hb, by rw [← H0.out, fmtI, if_neg hn0, if_neg (by omega)], hk0, by omega⟩
      case rest =>
        obtain ⟨g2, c2, m, L, rfl, ho2, hb2, hL, hm0, hm1⟩ := hcut
        obtain ⟨W, hW⟩ : ∃ W : World, W = wc := ⟨_, rfl⟩
        subst hW
        have hm := ho2.len
        go_wp2_with fail
        go_loopw [6, 7] (fun v6 v7 wr => ∃ (i j : Nat) (cur : List UInt8), v6 = .int .i64 i ∧ v7 = .int .i64 j ∧ i + j + 1 = m ∧ i ≤ j + 1 ∧ Own encB 1 5 wr w.heap.size (some ⟨g2, 0, none⟩) m c2 cur ∧ halfway L cur i j ∧ Below w.heap.size w wr) (fun v6 _ _ => m - (intOf v6).toNat)
        case atStart =>
          have hst := halfway_start L
          rw [hm] at hst
          exact ⟨0, m - 1, L, rfl, by go_num, by omega, by omega, ho2, hst, hb2⟩
        case round =>
          clear ho2 hb2 ho hb
          obtain ⟨i, j, cur, rfl, rfl, hij, hle, ho, hhw, hb⟩ := hrel
          by_cases hlt : i < j
          · have hcl := ho.len
            obtain ⟨x, hx⟩ : ∃ x, cur[i]? = some x := ⟨cur[i]'(by omega), by simp⟩
            obtain ⟨y, hy⟩ : ∃ y, cur[j]? = some y := ⟨cur[j]'(by omega), by simp⟩
            obtain ⟨b1, o1, x1, ee, hb1, hx1, hc1⟩ := (ho.reads encB_len).at_ (k := i) (by omega)
            injection ee with ee; injection ee with e1 e2 e3; subst e1 e2
            obtain ⟨b1, o1, y1, ee, hb1, hy1, hd1⟩ := (ho.reads encB_len).at_ (k := j) (by omega)
            injection ee with ee; injection ee with e1 e2 e3; subst e1 e2
            have k1 := hc1 0 _ rfl
            have k2 := hd1 0 _ rfl
            simp only [Nat.zero_add, Nat.mul_one, Nat.add_zero] at k1 k2
            rw [hx] at hx1; injection hx1 with hx1; subst hx1
            rw [hy] at hy1; injection hy1 with hy1; subst hy1
            have him : i < m := by omega
            have hjm : j < m := by omega
            have hf1 : wr.frozen? ⟨g2, i, none⟩ = false := ho.frozen i
            have hf2 : wr.frozen? ⟨g2, j, none⟩ = false := ho.frozen j
            have hne : ¬ i = j := by omega
            have hne' : ¬ j = i := by omega
            clear hc1 hd1
            go_upto_region 16 with fail
            go_region
            have s1 := ho.set_ encB_len i 0 x y (.int .u8 y.toNat) hx (by omega) rfl
            have s2 := s1.set_ encB_len j 0 y x (.int .u8 x.toNat) (by rw [List.getElem?_set_ne hne]; exact hy) (by omega) rfl
            simp only [Nat.mul_one, Nat.add_zero] at s2
            have t2 := bel_dw (bel_set (p := ⟨g2, j, none⟩) (u := .int .u8 x.toNat) (bel_set (p := ⟨g2, i, none⟩) (u := .int .u8 y.toNat) hb ho.lt.1) ho.lt.1)
            have hst := halfway_step hhw (by omega) hlt hx hy
            have S2 := Lib.hid s2
            have HST := Lib.hid hst
            clear s1 s2 hst hx hy hhw
            go_wp2
            refine ⟨⟨i + 1, j - 1, (cur.set i y).set j x, by go_num, ?_, by omega, by omega, S2.out, HST.out, t2⟩, ?_⟩
            · have : ((j - 1 : Nat) : Int) = (j : Int) - 1 := by omega
              rw [this]
            · simp only [intOf]; omega
          · have hL2 := halfway_end hhw (by omega) (by omega)
            obtain ⟨b1, o1, x1, ee, hb1, hx1, hc1⟩ := (ho.reads encB_len).at_ (k := i) (by omega)
            have hcv := fun (c : Nat) => run_conv (c := c) (ho.reads encB_len)
            have HL2 := Lib.hid hL2
            clear hL2 hc1 hx1 ee
            go_wp2
            go_ret
            exact ⟨ret_str (by rw [HL2.out, hL]), hb⟩
    · have hnb' : (x != 0) = true := by simpa using hx
      have hp1 := hpw hx
      have hk18 := pow_small hp1 (by omega) (by omega)
      clear hpw hkp
      have e1 : (x.tmod 10).natAbs = x.natAbs % 10 := by rw [Int.natAbs_tmod]; rfl
      have e2 : (x.tdiv 10).natAbs = x.natAbs / 10 := by rw [Int.natAbs_tdiv]; rfl
      have b1 : -9 ≤ x.tmod 10 := by omega
      have b2 : x.tmod 10 ≤ 9 := by omega
      have b3 : -9223372036854775808 ≤ x.tdiv 10 ∧ x.tdiv 10 ≤ 9223372036854775807 := by omega
      have HS := Lib.hid (dgs_step x.natAbs l.reverse (by omega))
      have HP := Lib.hid hp1
      have E1 := Lib.hid e1
      have E2 := Lib.hid e2
      clear hp1 e1 e2
      by_cases hneg : x.tmod 10 < 0
      · have hdi : (48 : Int) + -x.tmod 10 = (((48 : UInt8) + UInt8.ofNat (x.natAbs % 10)).toNat : Int) := by rw [digitU _ (by omega)]; have := E1.out; omega
        have HDI := Lib.hid hdi
        clear hdi
        go_wp2_with (first | (at_builtin; refine wpList_app1 encB tyU8 encB_len encB_one rfl _ _ rfl w.heap.size _ k c _ rfl (ho.alloc _) (48 + UInt8.ofNat (x.natAbs % 10)) _ 0 1 rfl (newsB _ _ _ _ ?_) ?_ ?_ ?_ ?_; (rw [← HDI.out]; exact Blk.new'.cell 0); (omega); (unfold maxLen; omega); (have := hb.size; simp; omega); intro g1 c1 w1 ho1 hg1 hb1 hat1))
        go_roundw
        case rel => exact ⟨x.tdiv 10, some ⟨g1, 0, none⟩, k + 1, c1, l ++ [48 + UInt8.ofNat (x.natAbs % 10)], rfl, rfl, ho1, by rw [HD.out, HS.out, List.reverse_append, E2.out]; rfl, b3.1, b3.2, (hb.alloc hb.size _).trans hb1, fun _ => by rw [E2.out]; exact pow_step HP.out, by omega, fun _ => by omega⟩
        case measure => simp only [intOf]; have := E2.out; omega
      · have hdi : (48 : Int) + x.tmod 10 = (((48 : UInt8) + UInt8.ofNat (x.natAbs % 10)).toNat : Int) := by rw [digitU _ (by omega)]; have := E1.out; omega
        have HDI := Lib.hid hdi
        clear hdi
        go_wp2_with (first | (at_builtin; refine wpList_app1 encB tyU8 encB_len encB_one rfl _ _ rfl w.heap.size _ k c _ rfl (ho.alloc _) (48 + UInt8.ofNat (x.natAbs % 10)) _ 0 1 rfl (newsB _ _ _ _ ?_) ?_ ?_ ?_ ?_; (rw [← HDI.out]; exact Blk.new'.cell 0); (omega); (unfold maxLen; omega); (have := hb.size; simp; omega); intro g1 c1 w1 ho1 hg1 hb1 hat1))
        go_roundw
        case rel => exact ⟨x.tdiv 10, some ⟨g1, 0, none⟩, k + 1, c1, l ++ [48 + UInt8.ofNat (x.natAbs % 10)], rfl, rfl, ho1, by rw [HD.out, HS.out, List.reverse_append, E2.out]; rfl, b3.1, b3.2, (hb.alloc hb.size _).trans hb1, fun _ => by rw [E2.out]; exact pow_step HP.out, by omega, fun _ => by omega⟩
        case measure => simp only [intOf]; have := E2.out; omega
end Go.Proofs.Ytekcpadlmfaihaa
namespace Go.Proofs.Ytekcpadlmfaihaa
open Go.RowKit
def hx (n : Nat) : UInt8 := ([48, 49, 50, 51, 52, 53, 54, 55, 56, 57, 97, 98, 99, 100, 101, 102] : List UInt8)[n]?.getD 48
abbrev hexL : List UInt8 := [48, 49, 50, 51, 52, 53, 54, 55, 56, 57, 97, 98, 99, 100, 101, 102]
theorem wrapU8 {n : Int} (h : 0 ≤ n) (h' : n ≤ 255) : IntKind.u8.wrap n = n := by
  simp [IntKind.wrap, IntKind.signed, IntKind.bits]; omega
theorem hx_at {q : Nat} (h : q < 16) : hx q = hexL[q] := by simp [hx, hexL, h]
def qB (b : UInt8) : Str := if b = 34 ∨ b = 92 then [92, b] else if b = 10 then [92, 110] else if b.toNat < 32 ∨ 126 < b.toNat then [92, 120, hx (b.toNat / 16), hx (b.toNat % 16)] else [b]
def quo (s : Str) : Str := 34 :: (s.flatMap qB ++ [34])
theorem qB_len (b : UInt8) : (qB b).length ≤ 4 := by unfold qB; split <;> (try split) <;> (try split) <;> simp
theorem step_appB {ops : Array Oper} {o : Oper} {a : Act} {Q : Exit → Act → World → Prop} {K : Act → World → Prop} {E : Prop} {w : World} (hgd : o.guard = none) (sl x : Operand)
    (ho : o.op = .call { callee := .builtin .append, args := #[sl, x], argTypes := #[104, 104] })
    (base : Nat) (A : Option Addr) (n c : Nat) (l : List UInt8) (hs : a.eval sl = .slice A n c) (hown : Own encB 1 5 w base A n c l)
    (b c2 : Nat) (ys : List UInt8) (hx : a.eval x = .slice (some ⟨b, 0, none⟩) ys.length c2) {te : TypeId} (hb : Blk w b te (ys.flatMap encB))
    (hm : 0 < ys.length) (h63 : (n + ys.length) ≤ 140737488355328) (hn : n + ys.length ≤ maxLen) (hbase : base ≤ w.heap.size)
    (h : ∀ g c' w', Own encB 1 5 w' base (some ⟨g, 0, none⟩) (n + ys.length) c' (l ++ ys) → Below base w w' → K (a.put o.dst (.slice (some ⟨g, 0, none⟩) (n + ys.length) c')) w') :
    if Region.wanted o (yielded ops a.tmps) = true then Oper.wp Try.prog o a w K Q else E := by
  obtain ⟨i, z, ht, hi, hz, i1, i2, i3, i4⟩ := tyU8.ok
  have hlt := hown.2.lt
  have hone : ∀ u ∈ ys.flatMap encB, u.oneCell' = true := fun u hu => by
    obtain ⟨y, _, hy⟩ := List.mem_flatMap.1 hu
    exact encB_one y u hy
  refine step_append_lies w hgd sl x _ ho base _ i z 1 1 ht hi hz i1 i2 i3 i4 _ n _ hs hown.2 ⟨b, 0, none⟩ ys.length c2 (ys.flatMap encB) hx (by rw [flat_length encB_len]) (World.news_of_block (cs := (ys.flatMap encB).toArray) hb) hone hm hn (by omega) hbase _ rfl ?_
  intro g cap w' k1 k2 k3 k4
  refine h g cap w' ⟨by simp [hown.1], ?_⟩ ((Below.refl _ _).grown k2 hbase (fun k hk => (hlt k hk).1))
  rw [List.flatMap_append]; exact k1
theorem wpList_appB {ops : Array Oper} {o : Oper} {a : Act} {Q : Exit → Act → World → Prop} {rest : List Oper} {w : World} (hgd : o.guard = none) (sl x : Operand)
    (ho : o.op = .call { callee := .builtin .append, args := #[sl, x], argTypes := #[104, 104] })
    (base : Nat) (A : Option Addr) (n c : Nat) (l : List UInt8) (hs : a.eval sl = .slice A n c) (hown : Own encB 1 5 w base A n c l)
    (b c2 : Nat) (ys : List UInt8) (hx : a.eval x = .slice (some ⟨b, 0, none⟩) ys.length c2) {te : TypeId} (hb : Blk w b te (ys.flatMap encB))
    (hm : 0 < ys.length) (h63 : (n + ys.length) ≤ 140737488355328) (hn : n + ys.length ≤ maxLen) (hbase : base ≤ w.heap.size)
    (h : ∀ g c' w', Own encB 1 5 w' base (some ⟨g, 0, none⟩) (n + ys.length) c' (l ++ ys) → Below base w w' → wpList Try.prog ops Q rest (a.put o.dst (.slice (some ⟨g, 0, none⟩) (n + ys.length) c')) w') :
    wpList Try.prog ops Q (o :: rest) a w := by
  obtain ⟨i, z, ht, hi, hz, i1, i2, i3, i4⟩ := tyU8.ok
  have hlt := hown.2.lt
  have hone : ∀ u ∈ ys.flatMap encB, u.oneCell' = true := fun u hu => by
    obtain ⟨y, _, hy⟩ := List.mem_flatMap.1 hu
    exact encB_one y u hy
  refine wpList_append_lies w hgd sl x _ ho base _ i z 1 1 ht hi hz i1 i2 i3 i4 _ n _ hs hown.2 ⟨b, 0, none⟩ ys.length c2 (ys.flatMap encB) hx (by rw [flat_length encB_len]) (World.news_of_block (cs := (ys.flatMap encB).toArray) hb) hone hm hn (by omega) hbase _ rfl ?_
  intro g cap w' k1 k2 k3 k4
  refine h g cap w' ⟨by simp [hown.1], ?_⟩ ((Below.refl _ _).grown k2 hbase (fun k hk => (hlt k hk).1))
  rw [List.flatMap_append]; exact k1
theorem u8ne {b c : UInt8} (h : b ≠ c) : ((b.toNat : Int) == (c.toNat : Int)) = false := by
  rw [beq_eq_false_iff_ne]
  intro hh
  exact h (UInt8.toNat_inj.1 (by omega))
theorem u8eq {b c : UInt8} (h : b = c) : ((b.toNat : Int) == (c.toNat : Int)) = true := by rw [h]; simp
theorem quo_snoc {s l ys : Str} {k : Nat} {x : UInt8} (hl : l = 34 :: (s.take k).flatMap qB) (hx : s.take (k + 1) = s.take k ++ [x]) (hq : qB x = ys) : l ++ ys = 34 :: (s.take (k + 1)).flatMap qB := by
  rw [hl, hx, List.flatMap_append, List.flatMap_cons, List.flatMap_nil, List.append_nil, hq, List.cons_append]
set_option maxRecDepth 100000 in
set_option maxHeartbeats 2000000 in
theorem implQuote_any (s : Str) (w : World) (hs : (s.length : Int) ≤ 1000000000) :
    Calls Try.prog 134 #[sv s] w fun e w' => e = .returned (sv (quo s)) ∧ Below w.heap.size w w' := by
  go_enter Try.func134, Try.ntmps134
  have hn : Own encB 1 5 (w.alloc (.cells #[.int .u8 34] 5)) w.heap.size (some ⟨w.heap.size, 0, none⟩) 1 1 [34] := Own.new_ encB_len w [34] _ rfl rfl (by unfold maxLen; omega) (Nat.le_refl _) rfl
  have hb0 := (Below.refl w.heap.size w).alloc (Nat.le_refl _) (.cells #[.int .u8 34] 5)
  go_wp2
  go_loopw [3, 4] (fun v3 v4 wr => ∃ (k m c : Nat) (A : Option Addr) (l : List UInt8), v4 = .int .i64 k ∧ k ≤ s.length ∧ v3 = .slice A m c ∧ Own encB 1 5 wr w.heap.size A m c l ∧ l = 34 :: (s.take k).flatMap qB ∧ m ≤ 4 * k + 1 ∧ Below w.heap.size w wr) (fun _ v4 _ => s.length - (intOf v4).toNat)
  case atStart => exact ⟨0, 1, 1, _, [34], rfl, by omega, rfl, hn, rfl, by omega, hb0⟩
  case round =>
    clear hn hb0
    obtain ⟨k, m, c, A, l, rfl, hk, rfl, ho, hl, hm, hb⟩ := hrel
    have HL := Lib.hid hl
    clear hl
    by_cases hlt : k < s.length
    · have hbk : s[k]? = some s[k] := by simp
      have HX := Lib.hid (take_snoc' hbk)
      have h256 : s[k].toNat < 256 := s[k].toNat_lt
      clear hbk
      by_cases h34 : s[k] = 34
      · have e34 : ((s[k].toNat : Int) == 34) = true := u8eq (c := 34) h34
        have HQ := Lib.hid (show qB s[k] = [92, s[k]] from by rw [qB, if_pos (.inl h34)])
        clear h34
        go_wp2_with (first | (at_builtin; refine wpList_appB rfl _ _ rfl w.heap.size A m c _ rfl (ho.alloc _) _ 2 [92, s[k]] rfl Blk.new' (by simp) ?_ ?_ ?_ ?_; (simp only [List.length_cons, List.length_nil]; omega); (unfold maxLen; simp only [List.length_cons, List.length_nil]; omega); (have := hb.size; simp; omega); intro g1 c1 w1 ho1 hb1))
        go_roundw
        case rel => exact ⟨k + 1, _, c1, some ⟨g1, 0, none⟩, l ++ [92, s[k]], by go_num, by omega, rfl, ho1, quo_snoc HL.out HX.out HQ.out, by (try simp only [List.length_cons, List.length_nil]); omega, (hb.alloc hb.size _).trans hb1⟩
        case measure => simp only [intOf]; omega
      by_cases h92 : s[k] = 92
      · have e34 : ((s[k].toNat : Int) == 34) = false := u8ne (c := 34) h34
        have e92 : ((s[k].toNat : Int) == 92) = true := u8eq (c := 92) h92
        have HQ := Lib.hid (show qB s[k] = [92, s[k]] from by rw [qB, if_pos (.inr h92)])
        clear h34 h92
        go_wp2_with (first | (at_builtin; refine wpList_appB rfl _ _ rfl w.heap.size A m c _ rfl (ho.alloc _) _ 2 [92, s[k]] rfl Blk.new' (by simp) ?_ ?_ ?_ ?_; (simp only [List.length_cons, List.length_nil]; omega); (unfold maxLen; simp only [List.length_cons, List.length_nil]; omega); (have := hb.size; simp; omega); intro g1 c1 w1 ho1 hb1))
        go_roundw
        case rel => exact ⟨k + 1, _, c1, some ⟨g1, 0, none⟩, l ++ [92, s[k]], by go_num, by omega, rfl, ho1, quo_snoc HL.out HX.out HQ.out, by (try simp only [List.length_cons, List.length_nil]); omega, (hb.alloc hb.size _).trans hb1⟩
        case measure => simp only [intOf]; omega
      by_cases h10 : s[k] = 10
      · have e34 : ((s[k].toNat : Int) == 34) = false := u8ne (c := 34) h34
        have e92 : ((s[k].toNat : Int) == 92) = false := u8ne (c := 92) h92
        have e10 : ((s[k].toNat : Int) == 10) = true := u8eq (c := 10) h10
        have HQ := Lib.hid (show qB s[k] = [92, 110] from by rw [qB, if_neg (by simp [h34, h92]), if_pos h10])
        clear h34 h92 h10
        go_wp2_with (first | (at_builtin; refine wpList_appB rfl _ _ rfl w.heap.size A m c _ rfl (ho.alloc _) _ 2 [92, 110] rfl Blk.new' (by simp) ?_ ?_ ?_ ?_; (simp only [List.length_cons, List.length_nil]; omega); (unfold maxLen; simp only [List.length_cons, List.length_nil]; omega); (have := hb.size; simp; omega); intro g1 c1 w1 ho1 hb1))
        go_roundw
        case rel => exact ⟨k + 1, _, c1, some ⟨g1, 0, none⟩, l ++ [92, 110], by go_num, by omega, rfl, ho1, quo_snoc HL.out HX.out HQ.out, by (try simp only [List.length_cons, List.length_nil]); omega, (hb.alloc hb.size _).trans hb1⟩
        case measure => simp only [intOf]; omega
      by_cases hctl : s[k].toNat < 32 ∨ 126 < s[k].toNat
      · have e34 : ((s[k].toNat : Int) == 34) = false := u8ne (c := 34) h34
        have e92 : ((s[k].toNat : Int) == 92) = false := u8ne (c := 92) h92
        have e10 : ((s[k].toNat : Int) == 10) = false := u8ne (c := 10) h10
        have HQ := Lib.hid (show qB s[k] = [92, 120, hx (s[k].toNat / 16), hx (s[k].toNat % 16)] from by rw [qB, if_neg (by simp [h34, h92]), if_neg h10, if_pos hctl])
        clear h34 h92 h10
        obtain ⟨q, hq1, hq2, hq3⟩ : ∃ q : Nat, q < 16 ∧ IntKind.u8.wrap ((s[k].toNat : Int) / 16) = (q : Int) ∧ q = s[k].toNat / 16 := ⟨s[k].toNat / 16, by omega, by rw [wrapU8 (by omega) (by omega)]; omega, rfl⟩
        obtain ⟨r, hr1, hr2, hr3⟩ : ∃ r : Nat, r < 16 ∧ (s[k].toNat : Int).tmod 16 = (r : Int) ∧ r = s[k].toNat % 16 := ⟨s[k].toNat % 16, by omega, by rw [Int.tmod_eq_emod_of_nonneg (by omega)]; omega, rfl⟩
        have HQ3 := Lib.hid hq3
        have HR3 := Lib.hid hr3
        clear hq3 hr3
        have hq5 : (q : Int) < 16 := by omega
        have hr5 : (r : Int) < 16 := by omega
        by_cases h32 : s[k].toNat < 32
        all_goals
          (try have d32 : decide ((s[k].toNat : Int) < 32) = true := by simp; omega)
          (try have d32 : decide ((s[k].toNat : Int) < 32) = false := by simp; omega)
          (try have d126 : decide ((126 : Int) < (s[k].toNat : Int)) = true := by simp; omega)
          go_upto_region 12 with fail
          go_region_law (first | (refine step_appB rfl _ _ rfl w.heap.size A m c _ rfl (ho.alloc _) _ 4 [92, 120, hexL[q], hexL[r]] rfl Blk.new' (by simp) ?_ ?_ ?_ ?_; (simp only [List.length_cons, List.length_nil]; omega); (unfold maxLen; simp only [List.length_cons, List.length_nil]; omega); (have := hb.size; simp; omega); intro g1 c1 w1 ho1 hb1))
          all_goals
            clear hq2 hr2
            go_wp2_with fail
            go_roundw
            case rel => exact ⟨k + 1, _, c1, some ⟨g1, 0, none⟩, l ++ [92, 120, hexL[q], hexL[r]], by go_num, by omega, rfl, ho1, quo_snoc HL.out HX.out (by rw [HQ.out, ← HQ3.out, ← HR3.out, hx_at hq1, hx_at hr1]), by (try simp only [List.length_cons, List.length_nil]); omega, by first | exact (hb.alloc hb.size _).trans hb1 | exact ((bel_dw hb).alloc hb.size _).trans hb1 | exact bel_dw ((hb.alloc hb.size _).trans hb1)⟩
            case measure => simp only [intOf]; omega
      · have e34 : ((s[k].toNat : Int) == 34) = false := u8ne (c := 34) h34
        have e92 : ((s[k].toNat : Int) == 92) = false := u8ne (c := 92) h92
        have e10 : ((s[k].toNat : Int) == 10) = false := u8ne (c := 10) h10
        have d32 : decide ((s[k].toNat : Int) < 32) = false := by simp; omega
        have d126 : decide ((126 : Int) < (s[k].toNat : Int)) = false := by simp; omega
        have HQ := Lib.hid (show qB s[k] = [s[k]] from by rw [qB, if_neg (by simp [h34, h92]), if_neg h10, if_neg hctl])
        clear h34 h92 h10 hctl
        go_wp2_with (first | (at_builtin; refine wpList_appB rfl _ _ rfl w.heap.size A m c _ rfl (ho.alloc _) _ 1 [s[k]] rfl Blk.new' (by simp) ?_ ?_ ?_ ?_; (simp only [List.length_cons, List.length_nil]; omega); (unfold maxLen; simp only [List.length_cons, List.length_nil]; omega); (have := hb.size; simp; omega); intro g1 c1 w1 ho1 hb1))
        go_roundw
        case rel => exact ⟨k + 1, _, c1, some ⟨g1, 0, none⟩, l ++ [s[k]], by go_num, by omega, rfl, ho1, quo_snoc HL.out HX.out HQ.out, by (try simp only [List.length_cons, List.length_nil]); omega, (hb.alloc hb.size _).trans hb1⟩
        case measure => simp only [intOf]; omega
    · obtain rfl : k = s.length := by omega
      have hq : l = 34 :: s.flatMap qB := by rw [HL.out, List.take_length]
      have HQ := Lib.hid hq
      clear hq HL
      go_wp2_with (first | (at_builtin; refine wpList_appB rfl _ _ rfl w.heap.size A m c _ rfl (ho.alloc _) _ 1 [34] rfl Blk.new' (by simp) ?_ ?_ ?_ ?_; (simp only [List.length_cons, List.length_nil]; omega); (unfold maxLen; simp only [List.length_cons, List.length_nil]; omega); (have := hb.size; simp; omega); intro g1 c1 w1 ho1 hb1; simp only [List.length_cons, List.length_nil, Nat.zero_add] at ho1; have hcv := fun (c : Nat) => run_conv (c := c) (ho1.reads encB_len)))
      go_ret
      exact ⟨ret_str (by rw [HQ.out, quo, List.cons_append]), (hb.alloc hb.size _).trans hb1⟩
end Go.Proofs.Ytekcpadlmfaihaa
namespace Go.Proofs.Ytekcpadlmfaihaa
open Go.RowKit
theorem hex_slice {q : Nat} (h : q < 16) : (List.drop q hexL).take 1 = [hexL[q]] := by
  have : ∀ q : Fin 16, (List.drop q.val hexL).take 1 = [hexL[q.val]'q.isLt] := by decide
  exact this ⟨q, h⟩
theorem l1Hex_any (q : Nat) (w : World) (h : q < 16) : Calls Try.prog 132 #[.int .i64 q] w fun e w' => e = .returned (sv [hexL[q]]) ∧ w = w' := by
  have hq : (q : Int) < 16 := by omega
  have HS := Lib.hid (hex_slice h)
  go_enter Try.func132, Try.ntmps132
  go_wp2
  go_ret
  exact ⟨ret_str HS.out, rfl⟩
theorem and15 (n : Nat) (h : n < 256) : bits BinOp.and IntKind.i64 (n : Int) 15 = ((n % 16 : Nat) : Int) := by
  have : ∀ n : Fin 256, bits BinOp.and IntKind.i64 (n.val : Int) 15 = ((n.val % 16 : Nat) : Int) := by decide +kernel
  exact this ⟨n, h⟩
theorem quo_snoc' {s l ys : Str} {k : Nat} {x : UInt8} (hl : l = 34 :: (s.take k).flatMap qB) (hx : s.take (k + 1) = s.take k ++ [x]) (hq : qB x = ys) {m : Str} (hm : m = l ++ ys) : m = 34 :: (s.take (k + 1)).flatMap qB := hm.trans (quo_snoc hl hx hq)
theorem one_slice {s : Str} {k : Nat} (h : k < s.length) : (s.drop k).take 1 = [s[k]] := by
  rw [List.drop_eq_getElem_cons h]; rfl
set_option maxRecDepth 100000 in
set_option maxHeartbeats 2000000 in
theorem specQuote_any (s : Str) (w : World) (hs : (s.length : Int) ≤ 1000000000) :
    Calls Try.prog 122 #[sv s] w fun e w' => e = .returned (sv (quo s)) ∧ w = w' := by
  go_enter Try.func122, Try.ntmps122
  go_wp2
  go_loop [3, 4] (fun v3 v4 => ∃ (k : Nat) (l : Str), v4 = .int .i64 k ∧ k ≤ s.length ∧ v3 = sv l ∧ l = 34 :: (s.take k).flatMap qB ∧ l.length ≤ 4 * k + 1) (fun _ v4 => s.length - (intOf v4).toNat)
  case atStart => exact ⟨0, [34], rfl, by omega, rfl, rfl, by simp⟩
  case round =>
    obtain ⟨k, l, rfl, hk, rfl, hl, hll⟩ := hrel
    have HL := Lib.hid hl
    clear hl
    by_cases hlt : k < s.length
    · have hbk : s[k]? = some s[k] := by simp
      have HX := Lib.hid (take_snoc' hbk)
      have HO := Lib.hid (one_slice hlt)
      have h256 : s[k].toNat < 256 := s[k].toNat_lt
      clear hbk
      have et : ((k : Int) + 1).toNat - k = 1 := by omega
      have ET := Lib.hid et
      clear et
      by_cases h34 : s[k] = 34
      · have e34 : ((s[k].toNat : Int) == 34) = true := u8eq (c := 34) h34
        have HQ := Lib.hid (show qB s[k] = [92, s[k]] from by rw [qB, if_pos (.inl h34)])
        clear h34
        go_wp2
        go_round
        case rel => exact ⟨k + 1, l ++ [92, s[k]], by go_num, by omega, by rw [HO.out], quo_snoc HL.out HX.out HQ.out, by simp only [List.length_append, List.length_cons, List.length_nil]; omega⟩
        case measure => simp only [intOf]; omega
      by_cases h92 : s[k] = 92
      · have e34 : ((s[k].toNat : Int) == 34) = false := u8ne (c := 34) h34
        have e92 : ((s[k].toNat : Int) == 92) = true := u8eq (c := 92) h92
        have HQ := Lib.hid (show qB s[k] = [92, s[k]] from by rw [qB, if_pos (.inr h92)])
        clear h34 h92
        go_wp2
        go_round
        case rel => exact ⟨k + 1, l ++ [92, s[k]], by go_num, by omega, by rw [HO.out], quo_snoc HL.out HX.out HQ.out, by simp only [List.length_append, List.length_cons, List.length_nil]; omega⟩
        case measure => simp only [intOf]; omega
      by_cases h10 : s[k] = 10
      · have e34 : ((s[k].toNat : Int) == 34) = false := u8ne (c := 34) h34
        have e92 : ((s[k].toNat : Int) == 92) = false := u8ne (c := 92) h92
        have e10 : ((s[k].toNat : Int) == 10) = true := u8eq (c := 10) h10
        have HQ := Lib.hid (show qB s[k] = [92, 110] from by rw [qB, if_neg (by simp [h34, h92]), if_pos h10])
        clear h34 h92 h10
        go_wp2
        go_round
        case rel => exact ⟨k + 1, l ++ [92, 110], by go_num, by omega, rfl, quo_snoc HL.out HX.out HQ.out, by simp only [List.length_append, List.length_cons, List.length_nil]; omega⟩
        case measure => simp only [intOf]; omega
      have e34 : ((s[k].toNat : Int) == 34) = false := u8ne (c := 34) h34
      have e92 : ((s[k].toNat : Int) == 92) = false := u8ne (c := 92) h92
      have e10 : ((s[k].toNat : Int) == 10) = false := u8ne (c := 10) h10
      by_cases hctl : s[k].toNat < 32 ∨ 126 < s[k].toNat
      · have HQ := Lib.hid (show qB s[k] = [92, 120, hx (s[k].toNat / 16), hx (s[k].toNat % 16)] from by rw [qB, if_neg (by simp [h34, h92]), if_neg h10, if_pos hctl])
        clear h34 h92 h10
        by_cases h32 : s[k].toNat < 32
        all_goals
          (try have d32 : decide ((s[k].toNat : Int) < 32) = true := by simp; omega)
          (try have d32 : decide ((s[k].toNat : Int) < 32) = false := by simp; omega)
          (try have d126 : decide ((126 : Int) < (s[k].toNat : Int)) = true := by simp; omega)
          go_wp2_with fail
          rw [show (s[k].toNat : Int) / 16 = ((s[k].toNat / 16 : Nat) : Int) from by omega]
          refine (l1Hex_any _ _ (by omega)).mono ?_
          rintro e w' ⟨rfl, rfl⟩
          go_wp2_with fail
          rw [and15 _ h256]
          refine (l1Hex_any _ _ (by omega)).mono ?_
          rintro e w' ⟨rfl, rfl⟩
          go_wp2_with fail
          go_round
          case rel => exact ⟨k + 1, _, by go_num, by omega, rfl, quo_snoc HL.out HX.out (by rw [HQ.out, hx_at (by omega), hx_at (by omega)]), by simp only [List.length_append, List.length_cons, List.length_nil]; omega⟩
          case measure => simp only [intOf]; omega
      · have d32 : decide ((s[k].toNat : Int) < 32) = false := by simp; omega
        have d126 : decide ((126 : Int) < (s[k].toNat : Int)) = false := by simp; omega
        have HQ := Lib.hid (show qB s[k] = [s[k]] from by rw [qB, if_neg (by simp [h34, h92]), if_neg h10, if_neg hctl])
        clear h34 h92 h10 hctl
        go_wp2
        go_round
        case rel => exact ⟨k + 1, l ++ [s[k]], by go_num, by omega, by rw [HO.out], quo_snoc HL.out HX.out HQ.out, by simp only [List.length_append, List.length_cons, List.length_nil]; omega⟩
        case measure => simp only [intOf]; omega
    · obtain rfl : k = s.length := by omega
      have hq : l = 34 :: s.flatMap qB := by rw [HL.out, List.take_length]
      have HQ := Lib.hid hq
      clear hq HL
      go_wp2
      go_ret
      exact ⟨ret_str (by rw [HQ.out, quo, List.cons_append]), rfl⟩
theorem fmtI_le (n : Int) : (fmtI n).length ≤ n.natAbs + 1 := by
  have dl : ∀ (f k : Nat) (s : Str), (dgs f k s).length ≤ f + s.length := by
    intro f
    induction f with
    | zero => intro k s; simp [dgs]
    | succ f ih =>
      intro k s
      rw [dgs]; split
      · omega
      · have := ih (k / 10) ((48 + UInt8.ofNat (k % 10)) :: s)
        rw [List.length_cons] at this; omega
  unfold fmtI
  have := dl n.natAbs n.natAbs []
  simp only [List.length_nil] at this
  split
  · simp
  · split
    · rw [List.length_cons]; omega
    · omega
def fmtNum (x : Item) : Str := if isMiss x then [78, 65] else if isNum x then (if x.den = 1 then fmtI x.num else fmtI x.num ++ ([47] ++ fmtI x.den)) else []
theorem isNum_bd {x : Item} (h : isNum x = true) : (1 ≤ x.den ∧ x.den ≤ 999999999) ∧ -999999999 ≤ x.num ∧ x.num ≤ 999999999 := by
  simp [isNum] at h; omega
theorem miss_beq (x : Item) : isMiss x = (decide (x.num = 0) && (decide (x.den = 0) && x.text.isEmpty)) := by
  cases x; simp [isMiss]; rw [Bool.eq_iff_iff]; simp
theorem item_ways (a d : Int) (t : Str) : (a = 0 ∧ d = 0 ∧ t = []) ∨ (¬ a = 0 ∧ isMiss ⟨a, d, t⟩ = false) ∨ (a = 0 ∧ ¬ d = 0 ∧ isMiss ⟨a, d, t⟩ = false) ∨ (a = 0 ∧ d = 0 ∧ ¬ t = [] ∧ isMiss ⟨a, d, t⟩ = false) := by
  by_cases h1 : a = 0
  · by_cases h2 : d = 0
    · by_cases h3 : t = []
      · exact .inl ⟨h1, h2, h3⟩
      · exact .inr (.inr (.inr ⟨h1, h2, h3, by simp [isMiss, h3]⟩))
    · exact .inr (.inr (.inl ⟨h1, h2, by simp [isMiss, h2]⟩))
  · exact .inr (.inl ⟨h1, by simp [isMiss, h1]⟩)
set_option maxRecDepth 100000 in
set_option maxHeartbeats 2000000 in
theorem specFormatNumber_any (x : Item) (w : World) : Calls Try.prog 123 #[itv x] w fun e w' => e = .returned (sv (fmtNum x)) ∧ Below w.heap.size w w' := by
  obtain ⟨a, d, t⟩ := x
  have q0 := (Below.refl w.heap.size w).alloc (Nat.le_refl _) (.cells #[.int .i64 a, .int .i64 d, sv t] 101)
  have HF := Lib.hid (show fmtNum ⟨a, d, t⟩ = if isMiss ⟨a, d, t⟩ then [78, 65] else if isNum ⟨a, d, t⟩ then (if d = 1 then fmtI a else fmtI a ++ ([47] ++ fmtI d)) else [] from rfl)
  have HN := Lib.hid (fun h => isNum_bd (x := ⟨a, d, t⟩) h)
  rcases item_ways a d t with ⟨rfl, rfl, rfl⟩ | ⟨ha, hm⟩ | ⟨rfl, ha, hm⟩ | ⟨rfl, rfl, ha, hm⟩
  · go_enter Try.func123, Try.ntmps123
    go_wp2_with fail
    go_ret
    exact ⟨ret_str (by rw [HF.out]; rfl), q0⟩
  all_goals
    have HM := Lib.hid hm
    clear hm
    go_enter Try.func123, Try.ntmps123
    go_wp2_with fail
    refine (specIsNumber_any ⟨_, _, _⟩ _).mono ?_
    rintro e w1 ⟨rfl, hb1⟩
    obtain ⟨hc1, hf1⟩ := bcell hb1
    have hz1 := hb1.size
    simp only [wsize_alloc] at hc1 hf1 hz1
    generalize hN : isNum _ = b at HF ⊢
    have HM := HM.out
    cases b with
    | false =>
      have HN0 := Lib.hid hN
      clear hN
      go_wp2_with fail
      go_ret
      exact ⟨ret_str (by rw [HF.out, HM]; rfl), bth q0 hb1⟩
    | true =>
      obtain ⟨⟨d0, d1⟩, n0, n1⟩ := HN.out hN
      (try simp only at d0 d1 n0 n1)
      first
        | (exfalso; omega)
        | skip
      all_goals
        have HN0 := Lib.hid hN
        clear hN
        have HM0 := Lib.hid HM
        clear HM
        have l1 : (fmtI d).length ≤ 1000000000 := by have := fmtI_le d; omega
        first | (have l2 : (fmtI a).length ≤ 1000000000 := by have := fmtI_le a; omega) | (have l2 : (fmtI 0).length ≤ 1000000000 := by have := fmtI_le 0; omega)
        cases hd : (d == 1) with
        | true =>
          go_wp2_with (go_at_call 55; ((with_reducible refine (specFormatInt_any _ _ (by omega) (by omega)).mono ?_); rintro e w2 ⟨rfl, rfl⟩))
          go_ret
          exact ⟨ret_str (by rw [HF.out, HM0.out, if_neg (by simp), if_pos trivial, if_pos (by simpa using hd)]), bth q0 hb1⟩
        | false =>
          go_upto_region 7 with fail
          first
            | ((have i1 : ¬ 9223372036854775807 < (fmtI a).length + 1 := (by omega)); (have i2 : ¬ 9223372036854775807 < (fmtI a).length + ((fmtI d).length + 1) := (by omega)); (have i3 : ¬ 9223372036854775807 < (fmtI a).length + 1 + (fmtI d).length := (by omega)); (have i4 : ¬ 9223372036854775807 < (fmtI a).length + (1 + (fmtI d).length) := (by omega)))
            | ((have i1 : ¬ 9223372036854775807 < (fmtI 0).length + 1 := (by omega)); (have i2 : ¬ 9223372036854775807 < (fmtI 0).length + ((fmtI d).length + 1) := (by omega)); (have i3 : ¬ 9223372036854775807 < (fmtI 0).length + 1 + (fmtI d).length := (by omega)); (have i4 : ¬ 9223372036854775807 < (fmtI 0).length + (1 + (fmtI d).length) := (by omega)))
          first
            | (go_region_held3 (fun W => W.cell? ⟨w.heap.size, 0, none⟩ = some (.int .i64 a) ∧ W.cell? ⟨w.heap.size, 1, none⟩ = some (.int .i64 d)) (first | go_keep | (refine ⟨?_, ?_⟩ <;> (first | ((try rw [hc2 _ _ (by omega)]); (try rw [hc1 _ _ (by omega)]); go_keep)))) (first | (go_at_call 55; refine (specFormatInt_any _ _ ?_ ?_).mono ?_; (omega); (omega); rintro e w2 ⟨rfl, rfl⟩)))
            | (go_region_held3 (fun W => W.cell? ⟨w.heap.size, 0, none⟩ = some (.int .i64 0) ∧ W.cell? ⟨w.heap.size, 1, none⟩ = some (.int .i64 d)) (first | go_keep | (refine ⟨?_, ?_⟩ <;> (first | ((try rw [hc2 _ _ (by omega)]); (try rw [hc1 _ _ (by omega)]); go_keep)))) (first | (go_at_call 55; refine (specFormatInt_any _ _ ?_ ?_).mono ?_; (omega); (omega); rintro e w2 ⟨rfl, rfl⟩)))
          all_goals
            go_wp2_with fail
            go_ret
            refine ⟨ret_str (by rw [HF.out, HM0.out, if_neg (by simp), if_pos trivial, if_neg (by simpa using hd)]; simp), ?_⟩
            have q1 := bth q0 hb1
            (repeat' (first | with_reducible assumption | with_reducible exact Below.refl _ _ | with_reducible refine bel_dw ?_ | with_reducible refine bel_al ?_ ?_ | with_reducible refine bel_set ?_ ?_ | with_reducible refine bel_call ?_ (by with_reducible assumption) ?_ | ((try simp only [wsize_drew, wsize_alloc, wsize_set]); omega)))
set_option maxRecDepth 100000 in
set_option maxHeartbeats 2000000 in
theorem implFormatNumber_any (x : Item) (w : World) : Calls Try.prog 133 #[itv x] w fun e w' => e = .returned (sv (fmtNum x)) ∧ Below w.heap.size w w' := by
  obtain ⟨a, d, t⟩ := x
  have q0 := (Below.refl w.heap.size w).alloc (Nat.le_refl _) (.cells #[.int .i64 a, .int .i64 d, sv t] 101)
  have HF := Lib.hid (show fmtNum ⟨a, d, t⟩ = if isMiss ⟨a, d, t⟩ then [78, 65] else if isNum ⟨a, d, t⟩ then (if d = 1 then fmtI a else fmtI a ++ ([47] ++ fmtI d)) else [] from rfl)
  have HN := Lib.hid (fun h => isNum_bd (x := ⟨a, d, t⟩) h)
  rcases item_ways a d t with ⟨rfl, rfl, rfl⟩ | ⟨ha, hm⟩ | ⟨rfl, ha, hm⟩ | ⟨rfl, rfl, ha, hm⟩
  · go_enter Try.func133, Try.ntmps133
    go_wp2_with fail
    go_ret
    exact ⟨ret_str (by rw [HF.out]; rfl), q0⟩
  all_goals
    have HM := Lib.hid hm
    clear hm
    go_enter Try.func133, Try.ntmps133
    go_wp2_with fail
    refine (implIsNumber_any ⟨_, _, _⟩ _).mono ?_
    rintro e w1 ⟨rfl, hb1⟩
    obtain ⟨hc1, hf1⟩ := bcell hb1
    have hz1 := hb1.size
    simp only [wsize_alloc] at hc1 hf1 hz1
    generalize hN : isNum _ = b at HF ⊢
    have HM := HM.out
    cases b with
    | false =>
      have HN0 := Lib.hid hN
      clear hN
      go_wp2_with fail
      go_ret
      exact ⟨ret_str (by rw [HF.out, HM]; rfl), bth q0 hb1⟩
    | true =>
      obtain ⟨⟨d0, d1⟩, n0, n1⟩ := HN.out hN
      (try simp only at d0 d1 n0 n1)
      first
        | (exfalso; omega)
        | skip
      all_goals
        have HN0 := Lib.hid hN
        clear hN
        have HM0 := Lib.hid HM
        clear HM
        have l1 : (fmtI d).length ≤ 1000000000 := by have := fmtI_le d; omega
        first | (have l2 : (fmtI a).length ≤ 1000000000 := by have := fmtI_le a; omega) | (have l2 : (fmtI 0).length ≤ 1000000000 := by have := fmtI_le 0; omega)
        cases hd : (d == 1) with
        | true =>
          go_wp2_with (go_at_call 58; ((with_reducible refine (implFormatInt_any _ _ (by omega) (by omega)).mono ?_); rintro e w2 ⟨rfl, hb2⟩))
          go_ret
          exact ⟨ret_str (by rw [HF.out, HM0.out, if_neg (by simp), if_pos trivial, if_pos (by simpa using hd)]), bth (bth q0 hb1) hb2⟩
        | false =>
          go_upto_region 7 with fail
          first
            | ((have i1 : ¬ 9223372036854775807 < (fmtI a).length + 1 := (by omega)); (have i2 : ¬ 9223372036854775807 < (fmtI a).length + ((fmtI d).length + 1) := (by omega)); (have i3 : ¬ 9223372036854775807 < (fmtI a).length + 1 + (fmtI d).length := (by omega)); (have i4 : ¬ 9223372036854775807 < (fmtI a).length + (1 + (fmtI d).length) := (by omega)))
            | ((have i1 : ¬ 9223372036854775807 < (fmtI 0).length + 1 := (by omega)); (have i2 : ¬ 9223372036854775807 < (fmtI 0).length + ((fmtI d).length + 1) := (by omega)); (have i3 : ¬ 9223372036854775807 < (fmtI 0).length + 1 + (fmtI d).length := (by omega)); (have i4 : ¬ 9223372036854775807 < (fmtI 0).length + (1 + (fmtI d).length) := (by omega)))
          first
            | (go_region_held3 (fun W => W.cell? ⟨w.heap.size, 0, none⟩ = some (.int .i64 a) ∧ W.cell? ⟨w.heap.size, 1, none⟩ = some (.int .i64 d)) (first | go_keep | (refine ⟨?_, ?_⟩ <;> (first | ((try rw [hc2 _ _ (by omega)]); (try rw [hc1 _ _ (by omega)]); go_keep)))) (first | (go_at_call 58; refine (implFormatInt_any _ _ ?_ ?_).mono ?_; (omega); (omega); rintro e w2 ⟨rfl, hb2⟩; obtain ⟨hc2, hf2⟩ := bcell hb2; have hz2 := hb2.size; (try simp only [wsize_drew] at hc2 hf2 hz2))))
            | (go_region_held3 (fun W => W.cell? ⟨w.heap.size, 0, none⟩ = some (.int .i64 0) ∧ W.cell? ⟨w.heap.size, 1, none⟩ = some (.int .i64 d)) (first | go_keep | (refine ⟨?_, ?_⟩ <;> (first | ((try rw [hc2 _ _ (by omega)]); (try rw [hc1 _ _ (by omega)]); go_keep)))) (first | (go_at_call 58; refine (implFormatInt_any _ _ ?_ ?_).mono ?_; (omega); (omega); rintro e w2 ⟨rfl, hb2⟩; obtain ⟨hc2, hf2⟩ := bcell hb2; have hz2 := hb2.size; (try simp only [wsize_drew] at hc2 hf2 hz2))))
          all_goals
            go_wp2_with fail
            go_ret
            refine ⟨ret_str (by rw [HF.out, HM0.out, if_neg (by simp), if_pos trivial, if_neg (by simpa using hd)]; simp), ?_⟩
            have q1 := bth q0 hb1
            (repeat' (first | with_reducible assumption | with_reducible exact Below.refl _ _ | with_reducible refine bel_dw ?_ | with_reducible refine bel_al ?_ ?_ | with_reducible refine bel_set ?_ ?_ | with_reducible refine bel_call ?_ (by with_reducible assumption) ?_ | ((try simp only [wsize_drew, wsize_alloc, wsize_set]); omega)))
end Go.Proofs.Ytekcpadlmfaihaa
namespace Go.Proofs.Ytekcpadlmfaihaa
open Go.RowKit
def isL (c : UInt8) : Bool := decide (97 ≤ c.toNat ∧ c.toNat ≤ 122 ∨ 65 ≤ c.toNat ∧ c.toNat ≤ 90)
def isD (c : UInt8) : Bool := decide (48 ≤ c.toNat ∧ c.toNat ≤ 57)
theorem isLetter_any (c : UInt8) (w : World) : Calls Try.prog 112 #[.int .u8 (c.toNat : Int)] w fun e w' => e = .returned (.bool (isL c)) ∧ w = w' := by
  have hc := c.toNat_lt
  have hcase : (97 ≤ (c.toNat : Int) ∧ (c.toNat : Int) ≤ 122) ∨ (97 ≤ (c.toNat : Int) ∧ ¬ (c.toNat : Int) ≤ 122) ∨ (¬ 97 ≤ (c.toNat : Int) ∧ 65 ≤ (c.toNat : Int)) ∨ (¬ 97 ≤ (c.toNat : Int) ∧ ¬ 65 ≤ (c.toNat : Int)) := by omega
  rcases hcase with ⟨h1, h2⟩ | ⟨h1, h2⟩ | ⟨h1, h2⟩ | ⟨h1, h2⟩
  all_goals
    go_enter Try.func112, Try.ntmps112
    go_wp2
    go_ret
    refine ⟨ret_bool ?_, rfl⟩
    rw [Bool.eq_iff_iff]
    simp [isL] <;> omega
theorem l1Letter_any (c : UInt8) (w : World) : Calls Try.prog 105 #[.int .u8 (c.toNat : Int)] w fun e w' => e = .returned (.bool (isL c)) ∧ w = w' := by
  have hc := c.toNat_lt
  have hcase : (97 ≤ (c.toNat : Int) ∧ (c.toNat : Int) ≤ 122) ∨ (97 ≤ (c.toNat : Int) ∧ ¬ (c.toNat : Int) ≤ 122) ∨ (¬ 97 ≤ (c.toNat : Int) ∧ 65 ≤ (c.toNat : Int)) ∨ (¬ 97 ≤ (c.toNat : Int) ∧ ¬ 65 ≤ (c.toNat : Int)) := by omega
  rcases hcase with ⟨h1, h2⟩ | ⟨h1, h2⟩ | ⟨h1, h2⟩ | ⟨h1, h2⟩
  all_goals
    go_enter Try.func105, Try.ntmps105
    go_wp2
    go_ret
    refine ⟨ret_bool ?_, rfl⟩
    rw [Bool.eq_iff_iff]
    simp [isL] <;> omega
theorem isDigit_any (c : UInt8) (w : World) : Calls Try.prog 113 #[.int .u8 (c.toNat : Int)] w fun e w' => e = .returned (.bool (isD c)) ∧ w = w' := by
  have hc := c.toNat_lt
  have hcase : (48 ≤ (c.toNat : Int)) ∨ (¬ 48 ≤ (c.toNat : Int)) := by omega
  rcases hcase with h1 | h1
  all_goals
    go_enter Try.func113, Try.ntmps113
    go_wp2
    go_ret
    refine ⟨ret_bool ?_, rfl⟩
    rw [Bool.eq_iff_iff]
    simp [isD] <;> omega
theorem l1Digit_any (c : UInt8) (w : World) : Calls Try.prog 106 #[.int .u8 (c.toNat : Int)] w fun e w' => e = .returned (.bool (isD c)) ∧ w = w' := by
  have hc := c.toNat_lt
  have hcase : (48 ≤ (c.toNat : Int)) ∨ (¬ 48 ≤ (c.toNat : Int)) := by omega
  rcases hcase with h1 | h1
  all_goals
    go_enter Try.func106, Try.ntmps106
    go_wp2
    go_ret
    refine ⟨ret_bool ?_, rfl⟩
    rw [Bool.eq_iff_iff]
    simp [isD] <;> omega
def resv : List Str := [[105, 102], [101, 108, 115, 101], [102, 111, 114], [105, 110], [119, 104, 105, 108, 101], [98, 114, 101, 97, 107], [110, 101, 120, 116], [102, 117, 110, 99, 116, 105, 111, 110], [114, 101, 116, 117, 114, 110], [84, 82, 85, 69], [70, 65, 76, 83, 69], [78, 85, 76, 76], [78, 65], [78, 65, 95, 110, 117, 109, 98, 101, 114, 95], [78, 65, 95, 99, 104, 97, 114, 97, 99, 116, 101, 114, 95], [116, 114, 121, 67, 97, 116, 99, 104], [119, 105, 116, 104, 67, 97, 108, 108, 105, 110, 103, 72, 97, 110, 100, 108, 101, 114, 115], [119, 105, 116, 104, 82, 101, 115, 116, 97, 114, 116], [105, 110, 118, 111, 107, 101, 82, 101, 115, 116, 97, 114, 116], [109, 105, 115, 115, 105, 110, 103], [111, 110, 46, 101, 120, 105, 116], [85, 115, 101, 77, 101, 116, 104, 111, 100], [78, 101, 120, 116, 77, 101, 116, 104, 111, 100]]
def isRes (s : Str) : Bool := resv.contains s
set_option maxHeartbeats 2000000 in
theorem isReserved_any (s : Str) (w : World) : Calls Try.prog 111 #[sv s] w fun e w' => e = .returned (.bool (isRes s)) ∧ w = w' := by
  by_cases hm : s ∈ resv
  · have hres : isRes s = true := by unfold isRes; simpa using hm
    rw [hres]
    clear hres
    simp only [resv, List.mem_cons, List.not_mem_nil, or_false] at hm
    rcases hm with rfl | rfl | rfl | rfl | rfl | rfl | rfl | rfl | rfl | rfl | rfl | rfl | rfl | rfl | rfl | rfl | rfl | rfl | rfl | rfl | rfl | rfl | rfl
    all_goals
      go_enter Try.func111, Try.ntmps111
      go_wp2
      go_ret
      exact ⟨rfl, rfl⟩
  · have hres : isRes s = false := by unfold isRes; simpa using hm
    rw [hres]
    clear hres
    simp only [resv, List.mem_cons, List.not_mem_nil, or_false, not_or] at hm
    obtain ⟨n0, n1, n2, n3, n4, n5, n6, n7, n8, n9, n10, n11, n12, n13, n14, n15, n16, n17, n18, n19, n20, n21, n22⟩ := hm

    replace n0 : (s == [105, 102]) = false := by simpa using n0
    replace n1 : (s == [101, 108, 115, 101]) = false := by simpa using n1
    replace n2 : (s == [102, 111, 114]) = false := by simpa using n2
    replace n3 : (s == [105, 110]) = false := by simpa using n3
    replace n4 : (s == [119, 104, 105, 108, 101]) = false := by simpa using n4
    replace n5 : (s == [98, 114, 101, 97, 107]) = false := by simpa using n5
    replace n6 : (s == [110, 101, 120, 116]) = false := by simpa using n6
    replace n7 : (s == [102, 117, 110, 99, 116, 105, 111, 110]) = false := by simpa using n7
    replace n8 : (s == [114, 101, 116, 117, 114, 110]) = false := by simpa using n8
    replace n9 : (s == [84, 82, 85, 69]) = false := by simpa using n9
    replace n10 : (s == [70, 65, 76, 83, 69]) = false := by simpa using n10
    replace n11 : (s == [78, 85, 76, 76]) = false := by simpa using n11
    replace n12 : (s == [78, 65]) = false := by simpa using n12
    replace n13 : (s == [78, 65, 95, 110, 117, 109, 98, 101, 114, 95]) = false := by simpa using n13
    replace n14 : (s == [78, 65, 95, 99, 104, 97, 114, 97, 99, 116, 101, 114, 95]) = false := by simpa using n14
    replace n15 : (s == [116, 114, 121, 67, 97, 116, 99, 104]) = false := by simpa using n15
    replace n16 : (s == [119, 105, 116, 104, 67, 97, 108, 108, 105, 110, 103, 72, 97, 110, 100, 108, 101, 114, 115]) = false := by simpa using n16
    replace n17 : (s == [119, 105, 116, 104, 82, 101, 115, 116, 97, 114, 116]) = false := by simpa using n17
    replace n18 : (s == [105, 110, 118, 111, 107, 101, 82, 101, 115, 116, 97, 114, 116]) = false := by simpa using n18
    replace n19 : (s == [109, 105, 115, 115, 105, 110, 103]) = false := by simpa using n19
    replace n20 : (s == [111, 110, 46, 101, 120, 105, 116]) = false := by simpa using n20
    replace n21 : (s == [85, 115, 101, 77, 101, 116, 104, 111, 100]) = false := by simpa using n21
    replace n22 : (s == [78, 101, 120, 116, 77, 101, 116, 104, 111, 100]) = false := by simpa using n22
    go_enter Try.func111, Try.ntmps111
    go_wp2
    go_ret
    exact ⟨rfl, rfl⟩
set_option maxHeartbeats 1000000 in
theorem l1Reserved_any (s : Str) (w : World) : Calls Try.prog 107 #[sv s] w fun e w' => e = .returned (.bool (isRes s)) ∧ Below w.heap.size w w' := by
  go_enter Try.func107, Try.ntmps107
  go_wp2_with fail
  refine (l1Has_any _ 23 23 resv s _ ?_ (by unfold maxLen; omega)).mono ?_
  · have hbl := Blk.new_ w 9 (resv.flatMap encS).toArray
    exact Blk.reads (l := resv) encS_len hbl hbl.lt
  rintro e w1 ⟨rfl, rfl⟩
  go_wp2_with fail
  go_ret
  exact ⟨ret_bool (by simp [isRes]), (Below.refl _ _).alloc (Nat.le_refl _) _⟩
def synB (c : UInt8) : Bool := isL c || isD c || c.toNat == 46 || c.toNat == 95
def hdOK : Str → Bool
  | [] => false
  | c :: t => (isL c || c.toNat == 46) && !(c.toNat == 46 && (match t with | d :: _ => isD d | [] => false))
def isSyn (s : Str) : Bool := isNm s && !isRes s && s.all synB && hdOK s
theorem isNm_len {s : Str} (h : isNm s = true) : 1 ≤ s.length ∧ s.length ≤ 20 := by
  rw [isNm, Bool.and_eq_true] at h; simpa using h.2
theorem isSyn_no {s : Str} (h : isNm s = false ∨ isRes s = true ∨ s.all synB = false ∨ hdOK s = false) : isSyn s = false := by
  unfold isSyn
  rcases h with h | h | h | h <;> simp [h]
end Go.Proofs.Ytekcpadlmfaihaa
