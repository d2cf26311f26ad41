/- Reading reports: what ParseReport of the program returns. -/
import Derived.Test.YtecebamhenlnoaaRe
namespace Go.Proofs.Ytecebamhenlnoaa
open Go.RowKit
/-- The last part with a text put behind its text. -/
def addL (out : List Pair) (t : Str) : List Pair := match out[out.length - 1]? with | some p => out.set (out.length - 1) (p.1, p.2 ++ t) | none => out
def lastE (out : List Pair) : Bool := match out[out.length - 1]? with | some p => p.1.isEmpty | none => false
def pst (st : List Pair × Bool) (z : Str) : List Pair × Bool :=
  if st.2 = true then (if z = [64] then (st.1, false) else (addL st.1 (z ++ [10]), true))
  else if (opn z).2 = true then (st.1 ++ [((opn z).1, [])], true)
  else if lastE st.1 = true then (addL st.1 (z ++ [10]), false)
  else (st.1 ++ [([], z ++ [10])], false)
def pR (s : Str) : Option (List Pair) :=
  if 4000 < s.length ∨ ndl s = false then none
  else if ((lns s).foldl pst ([], false)).2 = true ∨ repOK ((lns s).foldl pst ([], false)).1 = false then none else some ((lns s).foldl pst ([], false)).1
theorem fold_snoc {l : List Str} {k : Nat} {z : Str} (h : l[k]? = some z) (st : List Pair × Bool) : (l.take (k + 1)).foldl pst st = pst ((l.take k).foldl pst st) z := by
  rw [take_snoc' h, List.foldl_append]; rfl
/-- How many bytes lines take, with their line feeds. -/
def lsum (l : List Str) : Nat := (l.map (fun z => z.length + 1)).sum
theorem lsum_lnsA (cur s : Str) : lsum (lnsA cur s) ≤ cur.length + s.length := by
  induction s generalizing cur with
  | nil => simp [lnsA, lsum]
  | cons c t ih =>
    rw [lnsA]; split
    · have := ih []; simp [lsum] at this ⊢; omega
    · have := ih (cur ++ [c]); simp [lsum] at this ⊢; omega
theorem lsum_take (l : List Str) (k : Nat) : lsum (l.take k) ≤ lsum l := by
  have : l = l.take k ++ l.drop k := (List.take_append_drop k l).symm
  conv => rhs; rw [this]
  simp only [lsum, List.map_append, List.sum_append]; omega
theorem lsum_snoc {l : List Str} {k : Nat} {z : Str} (h : l[k]? = some z) : lsum (l.take (k + 1)) = lsum (l.take k) + (z.length + 1) := by
  rw [take_snoc' h]; simp [lsum]
def fits (out : List Pair) (m : Nat) : Prop := ∀ e ∈ out, e.1.length ≤ 4000 ∧ e.2.length ≤ m
theorem mid_len (z : Str) : (opn z).1.length ≤ z.length := by
  unfold opn; split
  · simp [mid]; omega
  · simp
theorem fits_mono {out : List Pair} {m m' : Nat} (h : fits out m) (hm : m ≤ m') : fits out m' := fun e he => by have := h e he; omega
theorem fits_snoc {out : List Pair} {m : Nat} (h : fits out m) (p : Pair) (h1 : p.1.length ≤ 4000) (h2 : p.2.length ≤ m) : fits (out ++ [p]) m := by
  intro e he
  rcases List.mem_append.1 he with he | he
  · exact h e he
  · simp at he; subst he; exact ⟨h1, h2⟩
theorem addL_at {out : List Pair} {p : Pair} (h : out[out.length - 1]? = some p) (t : Str) : addL out t = out.set (out.length - 1) (p.1, p.2 ++ t) := by rw [addL, h]
theorem lastE_at {out : List Pair} {p : Pair} (h : out[out.length - 1]? = some p) : lastE out = p.1.isEmpty := by rw [lastE, h]
theorem fits_addL {out : List Pair} {m : Nat} (h : fits out m) (t : Str) : fits (addL out t) (m + t.length) := by
  unfold addL
  split
  · rename_i p hp
    intro e he
    rcases List.mem_or_eq_of_mem_set he with he | rfl
    · have := h e he; omega
    · have := h p (List.mem_of_getElem? hp); simp; omega
  · exact fits_mono h (by omega)
def PRPost (s : Str) (w : World) (e : Ending) (w' : World) : Prop :=
  ∃ A n c, e = .returned (.tuple #[.slice A n c, .bool (pR s).isSome]) ∧ OwnPart w' w.heap.size A n c ((pR s).getD []) ∧ n ≤ 4000 ∧ Below w.heap.size w w'
set_option maxRecDepth 100000 in
set_option maxHeartbeats 4000000 in
theorem implParseReport_any (s : Str) (w : World) (hs : (s.length : Int) ≤ 1048576) :
    Calls Try.prog 35 #[sv s] w (PRPost s w) := by
  by_cases h4 : 4000 < (s.length : Int)
  · have hres : pR s = none := by rw [pR, if_pos (.inl (by omega))]
    have HR := Lib.hid hres
    clear hres
    go_enter Try.func35, Try.ntmps35
    go_wp2_with fail
    go_ret2
    exact ⟨none, 0, 0, by rw [HR.out]; rfl, by rw [HR.out]; exact Own.nil_, by omega, Below.refl _ _⟩
  go_enter Try.func35, Try.ntmps35
  go_wp2_with fail
  refine (endsWithLine_any s _ (by omega)).mono ?_
  rintro e w1 ⟨rfl, rfl⟩
  cases hE : ndl s with
  | false =>
    have hres : pR s = none := by rw [pR, if_pos (.inr hE)]
    have HR := Lib.hid hres
    clear hres
    go_wp2_with fail
    go_ret2
    exact ⟨none, 0, 0, by rw [HR.out]; rfl, by rw [HR.out]; exact Own.nil_, by omega, Below.refl _ _⟩
  | true =>
    have hres : pR s = if ((lns s).foldl pst ([], false)).2 = true ∨ repOK ((lns s).foldl pst ([], false)).1 = false then none else some ((lns s).foldl pst ([], false)).1 := by
      rw [pR, if_neg (by rw [hE]; simp; omega)]
    have HR := Lib.hid hres
    clear hres
    go_wp2_with fail
    refine (linesOf_any s _ (by omega)).mono ?_
    rintro e w1 ⟨A1, n1, c1, rfl, ho1, hb1⟩
    have hll := lns_len s
    have hn1 := ho1.len
    have hn1' : n1 ≤ 4000 := by omega
    have HN := Lib.hid hn1
    clear hn1
    have hr1 := ho1.reads encS_len
    have htot : lsum (lns s) ≤ 4000 := by have := lsum_lnsA [] s; simp at this; show lsum (lnsA [] s) ≤ 4000; omega
    have HT := Lib.hid htot
    clear htot
    go_wp2_with fail
    go_loopw [4, 5, 21] (fun v b i wr => ∃ (k : Nat) (A : Option Addr) (n c : Nat) (out : List Pair) (ins : Bool), k ≤ n1 ∧ n ≤ k ∧ i = .int .i64 k ∧ b = .bool ins ∧ v = .slice A n c ∧ OwnPart wr w1.heap.size A n c out ∧ ((lns s).take k).foldl pst ([], false) = (out, ins) ∧ (ins = true → 0 < n) ∧ fits out (lsum ((lns s).take k)) ∧ Below w1.heap.size w1 wr) (fun _ _ i _ => n1 - (intOf i).toNat)
    case atStart => exact ⟨0, none, 0, 0, [], false, by omega, by omega, rfl, rfl, rfl, Own.nil_, rfl, by simp, by intro e he; simp at he, Below.refl _ _⟩
    case round =>
      obtain ⟨k, A, n, c, out, ins, hk, hnk, rfl, rfl, rfl, ho, hst, hin, hft, hbw⟩ := hrel
      have hbs := hbw.size
      by_cases hlt : k < n1
      · obtain ⟨b, off, z, rfl, hbl, hz, hcz⟩ := (hr1.below hbw).atS hlt
        have hzl := lns_sizes s z (List.mem_of_getElem? hz)
        have hsum := lsum_snoc hz
        have hle := lsum_take (lns s) (k + 1)
        have hle' : lsum ((lns s).take k) + (z.length + 1) ≤ 4000 := by have := HT.out; omega
        have HF := Lib.hid (fold_snoc hz ([], false))
        have HSm := Lib.hid hsum
        have HST := Lib.hid hst
        have hml := mid_len z
        clear hz hsum hle hst
        go_wp2_with fail
        refine (opened_any z _ (by omega)).mono ?_
        rintro e w2 ⟨rfl, rfl⟩
        cases ins with
        | true =>
          have hn0' : 0 < n := hin rfl
          have hn0 : 0 < (n : Int) := by omega
          rcases ho.cases with ⟨_, h0, _⟩ | ⟨g, rfl⟩
          · omega
          obtain ⟨_, _, x, y, e0, _, hx, hx0, hx1⟩ := (ho.reads enc2_len).at2 (k := n - 1) (by omega)
          injection e0 with e0; injection e0 with e0 e0'; subst e0 e0'
          simp only [Nat.zero_add] at hx0 hx1
          have hxl := hft _ (List.mem_of_getElem? hx)
          simp only at hxl
          have hz1 := ho.fil.1.frozen ((n - 1) * 2 + 1)
          have ho2 := ho.set_ enc2_len (n - 1) 1 (x, y) (x, y ++ (z ++ [10])) (sv (y ++ (z ++ [10]))) hx (by omega) rfl
          have hbb : Below w1.heap.size wr (wr.setCell ⟨g, (n - 1) * 2 + 1, none⟩ (sv (y ++ (z ++ [10])))) := (Below.refl _ _).setCell (p := ⟨g, (n - 1) * 2 + 1, none⟩) ho.lt.1 _
          have hadd : addL out (z ++ [10]) = out.set (n - 1) (x, y ++ (z ++ [10])) := by rw [addL_at (p := (x, y)) (by rw [ho.len]; exact hx), ho.len]
          have hlE : lastE out = x.isEmpty := lastE_at (p := (x, y)) (by rw [ho.len]; exact hx)
          have HA := Lib.hid hadd
          have HO := Lib.hid ho2
          have HLE := Lib.hid hlE
          clear hx ho2 hadd hlE
          cases h64 : (z == [64]) with
          | true =>
            go_wp2_with fail
            go_roundw
            case rel => exact ⟨k + 1, _, n, c, out, false, by omega, by omega, by go_num, rfl, rfl, ho, by rw [HF.out, HST.out, pst, if_pos rfl, if_pos (of_beq h64)], by simp, by rw [HSm.out]; exact fits_mono hft (by omega), hbw⟩
            case measure => simp [intOf]; omega
          | false =>
            go_wp2_with fail
            go_roundw
            case rel => exact ⟨k + 1, _, n, c, _, true, by omega, by omega, by go_num, rfl, rfl, (by simpa using HO.out), by rw [HF.out, HST.out, pst, if_pos rfl, if_neg (of_nbeq h64), HA.out], fun _ => hn0', by rw [HSm.out, ← HA.out]; have := fits_addL hft (z ++ [10]); simpa using this, hbw.trans (by simpa using hbb)⟩
            case measure => simp [intOf]; omega
        | false =>
          cases hop : (opn z).2 with
          | true =>
            go_wp2_with (first | (at_builtin; refine wpList_app1 enc2 tyPart enc2_len enc2_one rfl _ _ rfl w1.heap.size _ n c _ rfl (ho.alloc _) ((opn z).1, []) _ 0 1 rfl (news2 _ _ _ _ _ ?_) ?_ ?_ ?_ ?_; (rfl); (omega); (unfold maxLen; omega); (simp; omega); intro g3 c3 w3 ho3 hg3 hb3 hat3))
            go_roundw
            case rel => exact ⟨k + 1, _, n + 1, c3, _, true, by omega, by omega, by go_num, rfl, rfl, ho3, by rw [HF.out, HST.out, pst, if_neg (by simp), if_pos hop], fun _ => by omega, by rw [HSm.out]; exact fits_snoc (fits_mono hft (by omega)) _ (by simp only; omega) (by simp), (hbw.alloc hbs _).trans hb3⟩
            case measure => simp [intOf]; omega
          | false =>
            by_cases hn0 : n = 0
            · have hn00 : ¬ (0 : Int) < (n : Int) := by omega
              have hlE : lastE out = false := by
                have : out = [] := List.length_eq_zero_iff.1 (by rw [ho.len]; exact hn0)
                rw [this]; rfl
              have HLE := Lib.hid hlE
              clear hlE hn0
              go_wp2_with (first | (at_builtin; refine wpList_app1 enc2 tyPart enc2_len enc2_one rfl _ _ rfl w1.heap.size _ n c _ rfl (ho.alloc _) ([], z ++ [10]) _ 0 1 rfl (news2 _ _ _ _ _ ?_) ?_ ?_ ?_ ?_; (rfl); (omega); (unfold maxLen; omega); (simp; omega); intro g3 c3 w3 ho3 hg3 hb3 hat3))
              go_roundw
              case rel => exact ⟨k + 1, _, n + 1, c3, _, false, by omega, by omega, by go_num, rfl, rfl, ho3, by rw [HF.out, HST.out, pst, if_neg (by simp), if_neg (by rw [hop]; simp), if_neg (by rw [HLE.out]; simp)], by simp, by rw [HSm.out]; exact fits_snoc (fits_mono hft (by omega)) _ (by simp) (by simp), (hbw.alloc hbs _).trans hb3⟩
              case measure => simp [intOf]; omega
            · have hn0' : 0 < n := by omega
              have hn0 : 0 < (n : Int) := by omega
              rcases ho.cases with ⟨_, h0, _⟩ | ⟨g, rfl⟩
              · omega
              obtain ⟨_, _, x, y, e0, _, hx, hx0, hx1⟩ := (ho.reads enc2_len).at2 (k := n - 1) (by omega)
              injection e0 with e0; injection e0 with e0 e0'; subst e0 e0'
              simp only [Nat.zero_add] at hx0 hx1
              have hxl := hft _ (List.mem_of_getElem? hx)
              simp only at hxl
              have hz1 := ho.fil.1.frozen ((n - 1) * 2 + 1)
              have ho2 := ho.set_ enc2_len (n - 1) 1 (x, y) (x, y ++ (z ++ [10])) (sv (y ++ (z ++ [10]))) hx (by omega) rfl
              have hbb : Below w1.heap.size wr (wr.setCell ⟨g, (n - 1) * 2 + 1, none⟩ (sv (y ++ (z ++ [10])))) := (Below.refl _ _).setCell (p := ⟨g, (n - 1) * 2 + 1, none⟩) ho.lt.1 _
              have hadd : addL out (z ++ [10]) = out.set (n - 1) (x, y ++ (z ++ [10])) := by rw [addL_at (p := (x, y)) (by rw [ho.len]; exact hx), ho.len]
              have hlE : lastE out = x.isEmpty := lastE_at (p := (x, y)) (by rw [ho.len]; exact hx)
              have HA := Lib.hid hadd
              have HO := Lib.hid ho2
              have HLE := Lib.hid hlE
              clear hx ho2 hadd hlE
              cases hxe : x.isEmpty with
              | true =>
                go_wp2_with fail
                go_roundw
                case rel => exact ⟨k + 1, _, n, c, _, false, by omega, by omega, by go_num, rfl, rfl, (by simpa using HO.out), by rw [HF.out, HST.out, pst, if_neg (by simp), if_neg (by rw [hop]; simp), if_pos (by rw [HLE.out]; exact hxe), HA.out], by simp, by rw [HSm.out, ← HA.out]; have := fits_addL hft (z ++ [10]); simpa using this, hbw.trans (by simpa using hbb)⟩
                case measure => simp [intOf]; omega
              | false =>
                have hlE : lastE out = false := by rw [HLE.out]; exact hxe
                have HLE2 := Lib.hid hlE
                clear hlE HLE
                have HLE := HLE2
                go_wp2_with (first | (at_builtin; refine wpList_app1 enc2 tyPart enc2_len enc2_one rfl _ _ rfl w1.heap.size _ n c _ rfl (ho.alloc _) ([], z ++ [10]) _ 0 1 rfl (news2 _ _ _ _ _ ?_) ?_ ?_ ?_ ?_; (rfl); (omega); (unfold maxLen; omega); (simp; omega); intro g3 c3 w3 ho3 hg3 hb3 hat3))
                go_roundw
                case rel => exact ⟨k + 1, _, n + 1, c3, _, false, by omega, by omega, by go_num, rfl, rfl, ho3, by rw [HF.out, HST.out, pst, if_neg (by simp), if_neg (by rw [hop]; simp), if_neg (by rw [HLE.out]; simp)], by simp, by rw [HSm.out]; exact fits_snoc (fits_mono hft (by omega)) _ (by simp) (by simp), (hbw.alloc hbs _).trans hb3⟩
                case measure => simp [intOf]; omega
      · obtain rfl : k = n1 := by omega
        rw [List.take_of_length_le (by rw [HN.out]; omega)] at hst
        rw [hst] at HR
        simp only at HR
        have hle := lsum_take (lns s) k
        have hfo : ∀ e ∈ out, e.1.length ≤ 1048576 ∧ e.2.length ≤ 1048576 := by intro e he; have := hft e he; have := HT.out; omega
        have hb0 := bth hb1 hbw
        cases ins with
        | true =>
          have hr2 : pR s = none := by rw [HR.out, if_pos (.inl rfl)]
          have HR2 := Lib.hid hr2
          clear hr2 hst
          go_wp2_with fail
          go_ret2
          exact ⟨none, 0, 0, by rw [HR2.out]; rfl, by rw [HR2.out]; exact Own.nil_, by omega, hb0⟩
        | false =>
          clear hst
          go_wp2_with fail
          refine (implIsReport_any A n c out _ (ho.reads enc2_len) (by omega) hfo).mono ?_
          rintro e w5 ⟨rfl, hb5⟩
          cases hRo : repOK out with
          | false =>
            have hr2 : pR s = none := by rw [HR.out, if_pos (.inr hRo)]
            have HR2 := Lib.hid hr2
            clear hr2
            go_wp2_with fail
            go_ret2
            exact ⟨none, 0, 0, by rw [HR2.out]; rfl, by rw [HR2.out]; exact Own.nil_, by omega, bth hb0 hb5⟩
          | true =>
            have hr2 : pR s = some out := by rw [HR.out, if_neg (by rw [hRo]; simp)]
            have HR2 := Lib.hid hr2
            clear hr2
            go_wp2_with fail
            go_ret2
            exact ⟨A, n, c, by rw [HR2.out]; rfl, by rw [HR2.out]; exact (ho.below hb5).mono hb1.size, by omega, bth hb0 hb5⟩
end Go.Proofs.Ytecebamhenlnoaa
