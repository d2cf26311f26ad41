/- Numbers: what gcd, IsNumber and their kin return. Parts of the validity of vectors: what length, labelsValid, itemValid and their kin return. Labels and names of vectors: what labelsValid, allEmpty and their kin return. Depth and cells of vectors; functions in them: what nest, cells, hasFunction and their kin return. Cells of vectors; functions in them: what cells, hasFunction and their kin return. The shape and the depth of valid vectors, plainly. -/
import Derived.Test.YtekcpadlmfaihaaJB
import Derived.Test.YtekcpadlmfaihaaJD
import Derived.Deep.DeepCutAuto
set_option linter.unusedSimpArgs false
set_option linter.unusedVariables false
namespace Go.Proofs.Ytekcpadlmfaihaa
open Go.RowKit
abbrev itv (x : Item) : Value := .agg #[.int .i64 x.num, .int .i64 x.den, sv x.text]
theorem gcd_step (x y : Nat) : Nat.gcd y (x % y) = Nat.gcd x y := by rw [Nat.gcd_comm y (x % y), ← Nat.gcd_rec, Nat.gcd_comm]
set_option maxHeartbeats 1000000 in
theorem gcd_any (a b : Int) (w : World) (ha : -9223372036854775807 ≤ a) (ha' : a ≤ 9223372036854775807) (hb : -9223372036854775807 ≤ b) (hb' : b ≤ 9223372036854775807) :
    Calls Try.prog 136 #[.int .i64 a, .int .i64 b] w fun e w' => e = .returned (.int .i64 (Nat.gcd a.natAbs b.natAbs : Nat)) ∧ Below w.heap.size w w' := by
  go_enter Try.func136, Try.ntmps136
  go_wp2_with fail
  all_goals
    go_loopw [0, 1] (fun u v wr => ∃ x y : Nat, u = .int .i64 x ∧ v = .int .i64 y ∧ (x : Int) ≤ 9223372036854775807 ∧ (y : Int) ≤ 9223372036854775807 ∧ Nat.gcd x y = Nat.gcd a.natAbs b.natAbs ∧ Below w.heap.size w wr) (fun _ v _ => (intOf v).toNat)
    case atStart => exact ⟨a.natAbs, b.natAbs, by congr 1; omega, by congr 1; omega, by omega, by omega, rfl, Below.refl _ _⟩
    case round =>
      obtain ⟨x, y, rfl, rfl, hx, hy, hg, hbl⟩ := hrel
      have HG := Lib.hid hg
      clear hg
      rcases Nat.eq_zero_or_pos y with h0 | h0
      · subst h0
        go_wp2_with fail
        go_ret
        exact ⟨ret_int (by rw [← HG.out, Nat.gcd_zero_right]), hbl⟩
      · have hne : ((y : Int) != 0) = true := by simp; omega
        have hm : (x : Int).tmod (y : Int) = ((x % y : Nat) : Int) := by rw [Int.tmod_eq_emod_of_nonneg (by omega)]; rfl
        have hlt : x % y < y := Nat.mod_lt _ h0
        go_wp2_with fail
        go_region
        all_goals
          go_wp2_with fail
          go_roundw
          case rel => exact ⟨y, x % y, by go_num, by go_num, by omega, by omega, by rw [gcd_step]; exact HG.out, hbl.drew⟩
          case measure => simp [intOf]; omega
theorem l2Abs_any (a : Int) (w : World) (ha : -9223372036854775807 ≤ a) (ha' : a ≤ 9223372036854775807) :
    Calls Try.prog 135 #[.int .i64 a] w fun e w' => e = .returned (.int .i64 (a.natAbs : Nat)) ∧ w = w' := by
  go_enter Try.func135, Try.ntmps135
  go_wp2_with fail
  all_goals (go_ret; exact ⟨ret_int (by omega), rfl⟩)
set_option maxHeartbeats 1000000 in
theorem l2Gcd_any (a b : Int) (w : World) (ha : -9223372036854775807 ≤ a) (ha' : a ≤ 9223372036854775807) (hb : -9223372036854775807 ≤ b) (hb' : b ≤ 9223372036854775807) :
    Calls Try.prog 130 #[.int .i64 a, .int .i64 b] w fun e w' => e = .returned (.int .i64 (Nat.gcd a.natAbs b.natAbs : Nat)) ∧ Below w.heap.size w w' := by
  go_enter Try.func130, Try.ntmps130
  go_wp2_with fail
  refine (l2Abs_any a _ ha ha').mono ?_
  rintro e w1 ⟨rfl, rfl⟩
  go_wp2_with fail
  refine (l2Abs_any b _ hb hb').mono ?_
  rintro e w1 ⟨rfl, rfl⟩
  go_wp2_with fail
  go_loopw [5, 6] (fun u v wr => ∃ x y : Nat, u = .int .i64 x ∧ v = .int .i64 y ∧ (x : Int) ≤ 9223372036854775807 ∧ (y : Int) ≤ 9223372036854775807 ∧ Nat.gcd x y = Nat.gcd a.natAbs b.natAbs ∧ Below w.heap.size w wr) (fun _ v _ => (intOf v).toNat)
  case atStart => exact ⟨a.natAbs, b.natAbs, rfl, rfl, by omega, by omega, rfl, Below.refl _ _⟩
  case round =>
    obtain ⟨x, y, rfl, rfl, hx, hy, hg, hbl⟩ := hrel
    have HG := Lib.hid hg
    clear hg
    rcases Nat.eq_zero_or_pos y with h0 | h0
    · subst h0
      go_wp2_with fail
      go_ret
      exact ⟨ret_int (by rw [← HG.out, Nat.gcd_zero_right]), hbl⟩
    · have hne : ((y : Int) != 0) = true := by simp; omega
      have hlt : x % y < y := Nat.mod_lt _ h0
      go_wp2_with fail
      go_roundw
      case rel => exact ⟨y, x % y, by go_num, by go_num, by omega, by omega, by rw [gcd_step]; exact HG.out, hbl⟩
      case measure => simp [intOf]; omega
def bigN : Int := 999999999
def isNum (x : Item) : Bool := x.text.isEmpty && decide (1 ≤ x.den ∧ x.den ≤ 999999999) && decide (-999999999 ≤ x.num ∧ x.num ≤ 999999999) && (Nat.gcd x.num.natAbs x.den.natAbs == 1)
set_option maxHeartbeats 1000000 in
theorem implIsNumber_any (x : Item) (w : World) : Calls Try.prog 131 #[itv x] w fun e w' => e = .returned (.bool (isNum x)) ∧ Below w.heap.size w w' := by
  go_enter Try.func131, Try.ntmps131
  go_wp2_with (go_at_call 136; ((with_reducible refine (gcd_any _ _ _ (by omega) (by omega) (by omega) (by omega)).mono ?_); rintro e w1 ⟨rfl, hb1⟩))
  all_goals (go_ret; refine ⟨ret_bool ?_, by first | exact (Below.refl _ _).alloc (Nat.le_refl _) _ | exact bth ((Below.refl _ _).alloc (Nat.le_refl _) _) hb1⟩)
  all_goals (rw [isNum, eq_comm, Bool.eq_iff_iff]; simp [*] <;> omega)
set_option maxHeartbeats 1000000 in
theorem specIsNumber_any (x : Item) (w : World) : Calls Try.prog 116 #[itv x] w fun e w' => e = .returned (.bool (isNum x)) ∧ Below w.heap.size w w' := by
  go_enter Try.func116, Try.ntmps116
  go_wp2_with (first | (go_at_call 26; ((with_reducible refine (l1In_any _ _ _ _).mono ?_); rintro e w1 ⟨rfl, rfl⟩)) | (go_at_call 130; ((with_reducible refine (l2Gcd_any _ _ _ (by omega) (by omega) (by omega) (by omega)).mono ?_); rintro e w1 ⟨rfl, hb1⟩)))
  all_goals (go_ret; refine ⟨ret_bool ?_, by first | exact (Below.refl _ _).alloc (Nat.le_refl _) _ | exact bth ((Below.refl _ _).alloc (Nat.le_refl _) _) hb1⟩)
  all_goals (rw [isNum, eq_comm, Bool.eq_iff_iff]; simp [*] <;> omega)
def isMiss (x : Item) : Bool := x == ⟨0, 0, []⟩
theorem isMissing_any (x : Item) (w : World) : Calls Try.prog 120 #[itv x] w fun e w' => e = .returned (.bool (isMiss x)) ∧ Below w.heap.size w w' := by
  go_enter Try.func120, Try.ntmps120
  go_wp2_with fail
  all_goals (go_ret; refine ⟨ret_bool ?_, (Below.refl _ _).alloc (Nat.le_refl _) _⟩; cases x; simp [isMiss]; simp_all)
end Go.Proofs.Ytekcpadlmfaihaa
namespace Go.Proofs.Ytekcpadlmfaihaa
open Go.RowKit
abbrev av (cs : List Value) : Value := .agg cs.toArray
def lenV (v : Vec) : Nat := if v.kind = 5 then 1 else v.items.length + v.parts.length
theorem lenV_le (v : Vec) : lenV v ≤ v.items.length + v.parts.length + 1 := by unfold lenV; split <;> omega
set_option maxHeartbeats 1000000 in
theorem length_any (v : Vec) (cs : List Value) (w : World) (h : rep w w.heap.size v.toD cs) (hl : v.items.length + v.parts.length ≤ 9223372036854775807) :
    Calls Try.prog 100 #[av cs] w fun e w' => e = .returned (.int .i64 (lenV v)) ∧ Below w.heap.size w w' := by
  obtain ⟨Ai, ni, ci, Ap, np, cp, An, nn, cn, Ac, nc, cc, Al, nl, cl, rfl, hv⟩ := vec_open h
  rw [hv.it.len, hv.pab.2.2] at hl
  have HI := Lib.hid hv.it.len
  have HP := Lib.hid hv.pab.2.2
  by_cases hk : v.kind = 5
  · have hd : (v.kind == 5) = true := by simpa using hk
    have HK := Lib.hid hk
    clear hk
    go_enter Try.func100, Try.ntmps100
    go_wp2_with fail
    go_ret
    exact ⟨ret_int (by rw [lenV, if_pos HK.out]; rfl), (Below.refl _ _).alloc (Nat.le_refl _) _⟩
  · have hd : (v.kind == 5) = false := by simpa using hk
    go_enter Try.func100, Try.ntmps100
    go_wp2_with fail
    go_ret
    exact ⟨ret_int (by rw [lenV, if_neg hk, HI.out, HP.out]; omega), (Below.refl _ _).alloc (Nat.le_refl _) _⟩
set_option maxHeartbeats 1000000 in
theorem l4Len_any (v : Vec) (cs : List Value) (w : World) (h : rep w w.heap.size v.toD cs) (hl : v.items.length + v.parts.length ≤ 9223372036854775807) :
    Calls Try.prog 94 #[av cs] w fun e w' => e = .returned (.int .i64 (lenV v)) ∧ Below w.heap.size w w' := by
  obtain ⟨Ai, ni, ci, Ap, np, cp, An, nn, cn, Ac, nc, cc, Al, nl, cl, rfl, hv⟩ := vec_open h
  rw [hv.it.len, hv.pab.2.2] at hl
  have HI := Lib.hid hv.it.len
  have HP := Lib.hid hv.pab.2.2
  by_cases hk : v.kind = 5
  · have hd : (v.kind == 5) = true := by simpa using hk
    have HK := Lib.hid hk
    clear hk
    go_enter Try.func94, Try.ntmps94
    go_wp2_with fail
    go_ret
    exact ⟨ret_int (by rw [lenV, if_pos HK.out]; rfl), (Below.refl _ _).alloc (Nat.le_refl _) _⟩
  · have hd : (v.kind == 5) = false := by simpa using hk
    go_enter Try.func94, Try.ntmps94
    go_wp2_with fail
    go_ret
    exact ⟨ret_int (by rw [lenV, if_neg hk, HI.out, HP.out]; omega), (Below.refl _ _).alloc (Nat.le_refl _) _⟩
def atomK (k : Int) : Bool := decide (1 ≤ k ∧ k ≤ 3)
theorem isAtomic_any (v : Vec) (cs : List Value) (w : World) (h : rep w w.heap.size v.toD cs) :
    Calls Try.prog 34 #[av cs] w fun e w' => e = .returned (.bool (atomK v.kind)) ∧ Below w.heap.size w w' := by
  obtain ⟨Ai, ni, ci, Ap, np, cp, An, nn, cn, Ac, nc, cc, Al, nl, cl, rfl, hv⟩ := vec_open h
  go_enter Try.func34, Try.ntmps34
  go_wp2_with fail
  all_goals (go_ret; refine ⟨ret_bool ?_, (Below.refl _ _).alloc (Nat.le_refl _) _⟩)
  all_goals (rw [atomK, eq_comm, Bool.eq_iff_iff]; simp_all <;> omega)
def itemOK (kind : Int) (x : Item) : Bool :=
  isMiss x || (if kind = 1 then x.text.isEmpty && (x.den == 1) && (x.num == 0 || x.num == 1) else if kind = 2 then isNum x else if kind = 3 then (x.num == 0) && (x.den == 1) && decide (x.text.length ≤ 60) else false)
set_option maxHeartbeats 2000000 in
theorem itemValid_any (kind : Int) (x : Item) (w : World) (hx : itOK x) : Calls Try.prog 119 #[.int .i64 kind, itv x] w fun e w' => e = .returned (.bool (itemOK kind x)) ∧ Below w.heap.size w w' := by
  have hl : x.text.length ≤ 9223372036854775807 := hx.2.2
  have q0 := (Below.refl w.heap.size w).alloc (Nat.le_refl _) (.cells #[.int .i64 x.num, .int .i64 x.den, sv x.text] 101)
  go_enter Try.func119, Try.ntmps119
  go_wp2_with fail
  refine (isMissing_any x _).mono ?_
  rintro e w1 ⟨rfl, hb1⟩
  obtain ⟨hc1, _⟩ := bcell hb1
  simp only [wsize_alloc] at hc1
  have q1 := bth q0 hb1
  cases hm : isMiss x with
  | true =>
    go_wp2_with fail
    go_ret
    exact ⟨ret_bool (by rw [itemOK, hm]; rfl), q1⟩
  | false =>
    by_cases k1 : kind = 1
    · subst k1
      go_wp2_with fail
      all_goals (go_ret; refine ⟨ret_bool ?_, q1⟩)
      all_goals (rw [itemOK, hm, eq_comm, Bool.false_or]; simp [*])
    by_cases k2 : kind = 2
    · subst k2
      go_wp2_with (first | (go_at_call 131; ((with_reducible refine (implIsNumber_any x _).mono ?_); rintro e w2 ⟨rfl, hb2⟩)))
      go_ret
      exact ⟨ret_bool (by rw [itemOK, hm]; rfl), bth q1 hb2⟩
    by_cases k3 : kind = 3
    · subst k3
      go_wp2_with fail
      all_goals (go_ret; refine ⟨ret_bool ?_, q1⟩)
      all_goals (rw [itemOK, hm, eq_comm, Bool.false_or, Bool.eq_iff_iff]; simp [*] <;> omega)
    have e1 : (kind == 1) = false := by simpa using k1
    have e2 : (kind == 2) = false := by simpa using k2
    have e3 : (kind == 3) = false := by simpa using k3
    have HR := Lib.hid (show itemOK kind x = false by rw [itemOK, hm, if_neg k1, if_neg k2, if_neg k3]; rfl)
    clear k1 k2 k3
    go_wp2_with fail
    go_ret
    exact ⟨ret_bool HR.out.symm, q1⟩
set_option maxHeartbeats 2000000 in
theorem l4Item_any (kind : Int) (x : Item) (w : World) (hx : itOK x) : Calls Try.prog 97 #[.int .i64 kind, itv x] w fun e w' => e = .returned (.bool (itemOK kind x)) ∧ Below w.heap.size w w' := by
  have hl : x.text.length ≤ 9223372036854775807 := hx.2.2
  have q0 := (Below.refl w.heap.size w).alloc (Nat.le_refl _) (.cells #[.int .i64 x.num, .int .i64 x.den, sv x.text] 101)
  cases hm : isMiss x with
  | true =>
    obtain rfl : x = ⟨0, 0, []⟩ := by simpa [isMiss] using hm
    clear hm
    go_enter Try.func97, Try.ntmps97
    go_wp2_with fail
    go_ret
    exact ⟨rfl, q0⟩
  | false =>
    have hne : ¬ x = ⟨0, 0, []⟩ := by intro h; rw [h] at hm; cases hm
    have h3 : ¬ (x.num = 0 ∧ x.den = 0 ∧ x.text = []) := by rintro ⟨a, b, c⟩; apply hne; cases x; simp_all
    have H3 := Lib.hid h3
    clear hne h3
    by_cases k1 : kind = 1
    · subst k1
      go_enter Try.func97, Try.ntmps97
      go_wp2_with (first | (go_at_call 26; ((with_reducible refine (l1In_any _ _ _ _).mono ?_); rintro e w1 ⟨rfl, rfl⟩)))
      all_goals first | (exfalso; apply H3.out; exact ⟨by assumption, by assumption, by assumption⟩) | (go_ret; refine ⟨ret_bool ?_, (Below.refl _ _).alloc (Nat.le_refl _) _⟩)
      all_goals (rw [itemOK, hm, eq_comm, Bool.false_or, Bool.eq_iff_iff]; simp [*] <;> omega)
    by_cases k2 : kind = 2
    · subst k2
      go_enter Try.func97, Try.ntmps97
      go_wp2_with (first | (go_at_call 116; ((with_reducible refine (specIsNumber_any ⟨_, _, _⟩ _).mono ?_); rintro e w2 ⟨rfl, hb2⟩)))
      all_goals first | (exfalso; apply H3.out; exact ⟨by assumption, by assumption, by assumption⟩) | (go_ret; refine ⟨ret_bool ?_, by first | exact bth ((Below.refl _ _).alloc (Nat.le_refl _) _) hb2 | exact (Below.refl _ _).alloc (Nat.le_refl _) _⟩)
      all_goals (rw [itemOK, hm]; cases x; simp_all)
    by_cases k3 : kind = 3
    · subst k3
      go_enter Try.func97, Try.ntmps97
      go_wp2_with fail
      all_goals first | (exfalso; apply H3.out; exact ⟨by assumption, by assumption, by assumption⟩) | (go_ret; refine ⟨ret_bool ?_, (Below.refl _ _).alloc (Nat.le_refl _) _⟩)
      all_goals (rw [itemOK, hm, eq_comm, Bool.false_or, Bool.eq_iff_iff]; simp [*] <;> omega)
    have e1 : (kind == 1) = false := by simpa using k1
    have e2 : (kind == 2) = false := by simpa using k2
    have e3 : (kind == 3) = false := by simpa using k3
    have HR := Lib.hid (show itemOK kind x = false by rw [itemOK, hm, if_neg k1, if_neg k2, if_neg k3]; rfl)
    clear k1 k2 k3
    go_enter Try.func97, Try.ntmps97
    go_wp2_with fail
    all_goals first | (exfalso; apply H3.out; exact ⟨by assumption, by assumption, by assumption⟩) | (go_ret; exact ⟨ret_bool HR.out.symm, (Below.refl _ _).alloc (Nat.le_refl _) _⟩)
end Go.Proofs.Ytekcpadlmfaihaa
namespace Go.Proofs.Ytekcpadlmfaihaa
open Go.RowKit
theorem Reads.tk {α : Type} {enc : α → List Value} {s : Nat} {w : World} {B n k : Nat} {A : Option Addr} {l : List α} (h : Reads enc s w B A n l) (hk : k ≤ n) : Reads enc s w B A k (l.take k) := by
  refine ⟨by rw [List.length_take, h.1]; omega, fun h0 => ?_⟩
  obtain ⟨b, off, e, hb, hc⟩ := h.2 (by omega)
  refine ⟨b, off, e, hb, fun i x j u hx hu => hc i x j u ?_ hu⟩
  rw [List.getElem?_take] at hx
  split at hx
  · exact hx
  · cases hx
def labF : List Str → List Str → Bool
  | _, [] => true
  | seen, e :: t => (!e.isEmpty && decide (e.length ≤ 60) && !seen.contains e) && labF (seen ++ [e]) t
def labV (l : List Str) (most : Nat) : Bool := decide (l.length ≤ most) && labF [] l
theorem labF_drop {l : List Str} {k : Nat} {e : Str} (h : l[k]? = some e) : labF (l.take k) (l.drop k) = ((!e.isEmpty && decide (e.length ≤ 60) && !(l.take k).contains e) && labF (l.take (k + 1)) (l.drop (k + 1))) := by
  obtain ⟨hk, he⟩ := List.getElem?_eq_some_iff.1 h
  rw [List.drop_eq_getElem_cons hk, he, labF, take_snoc' h]
set_option maxHeartbeats 2000000 in
theorem labelsValid_any (A : Option Addr) (n c : Nat) (l : List Str) (most : Nat) (w : World) (hr : Reads encS 1 w w.heap.size A n l) (hs : ∀ e ∈ l, e.length ≤ maxLen) (hn : n ≤ c) (hc : c ≤ maxLen) (hm : (most : Int) ≤ 1000) :
    Calls Try.prog 117 #[.slice A n c, .int .i64 most] w fun e w' => e = .returned (.bool (labV l most)) ∧ Below w.heap.size w w' := by
  unfold maxLen at hc
  have hll := hr.len
  by_cases hq : most < n
  · have hd : decide ((most : Int) < (n : Int)) = true := by simp; omega
    have HR := Lib.hid (show labV l most = false by rw [labV, hll, decide_eq_false (by omega)]; rfl)
    clear hll
    go_enter Try.func117, Try.ntmps117
    go_wp2_with fail
    go_ret
    exact ⟨ret_bool HR.out.symm, Below.refl _ _⟩
  have HR := Lib.hid (show labV l most = labF [] l by rw [labV, hll, decide_eq_true (by omega)]; rfl)
  have HL := Lib.hid hll
  have hd : decide ((most : Int) < (n : Int)) = false := by simp; omega
  clear hll
  go_enter Try.func117, Try.ntmps117
  go_wp2_with fail
  go_loop [13] (fun i => ∃ k : Nat, k ≤ n ∧ i = .int .i64 k ∧ labF [] l = labF (l.take k) (l.drop k)) (fun i => n - (intOf i).toNat)
  case atStart => exact ⟨0, by omega, rfl, rfl⟩
  case round =>
    obtain ⟨k, hk, rfl, hf⟩ := hrel
    have HF := Lib.hid hf
    clear hf
    by_cases hlt : k < n
    · obtain ⟨b, off, x, rfl, hbl, hx, hc0⟩ := hr.atS hlt
      have hxl : x.length ≤ 9223372036854775807 := hs _ (List.mem_of_getElem? hx)
      have HD := Lib.hid (labF_drop hx)
      have hbad : (!x.isEmpty && decide (x.length ≤ 60) && !(l.take k).contains x) = false → labV l most = false := fun h => by rw [HR.out, HF.out, HD.out, h]; rfl
      have HB := Lib.hid hbad
      clear hx hbad
      have hrt := hr.tk (k := k) (by omega)
      cases hxe : x.isEmpty with
      | true =>
        obtain rfl : x = [] := by simpa using hxe
        go_wp2_with fail
        go_ret
        exact ⟨ret_bool (HB.out rfl).symm, Below.refl _ _⟩
      | false =>
        by_cases h60 : (60 : Int) < (x.length : Int)
        · go_wp2_with fail
          go_ret
          exact ⟨ret_bool (HB.out (by rw [hxe, decide_eq_false (by omega)]; rfl)).symm, Below.refl _ _⟩
        have hd60 : decide ((60 : Int) < (x.length : Int)) = false := by simp; omega
        go_wp2_with fail
        refine (hasText_any _ k _ _ x _ hrt (by unfold maxLen; omega)).mono ?_
        rintro e w1 ⟨rfl, rfl⟩
        cases hct : (l.take k).contains x with
        | true =>
          go_wp2_with fail
          go_ret
          exact ⟨ret_bool (HB.out (by rw [hct]; simp)).symm, Below.refl _ _⟩
        | false =>
          go_wp2_with fail
          go_round
          case rel => exact ⟨k + 1, by omega, by go_num, by rw [HF.out, HD.out, hxe, hct, decide_eq_true (by omega)]; rfl⟩
          case measure => simp [intOf]; omega
    · obtain rfl : k = n := by omega
      go_wp2_with fail
      go_ret
      exact ⟨ret_bool (by rw [HR.out, HF.out, List.drop_of_length_le (by rw [HL.out]; omega)]; rfl), Below.refl _ _⟩
theorem ix_first (l : List Str) (e : Str) (k i : Nat) (h : l[k]? = some e) : decide (ix l e i < ((i + k : Nat) : Int)) = (l.take k).contains e := by
  induction l generalizing k i with
  | nil => simp at h
  | cons a t ih =>
    cases k with
    | zero => simp at h; subst h; simp [ix]
    | succ k =>
      simp at h
      rw [ix, List.take_succ_cons, List.contains_cons]
      by_cases hae : a = e
      · subst hae; simp; omega
      · rw [if_neg hae, show i + (k + 1) = i + 1 + k by omega, ih k (i + 1) h]
        have : (e == a) = false := by simpa using fun h' => hae h'.symm
        rw [this]; rfl
set_option maxHeartbeats 2000000 in
theorem l4Labels_any (A : Option Addr) (n c : Nat) (l : List Str) (most : Nat) (w : World) (hr : Reads encS 1 w w.heap.size A n l) (hs : ∀ e ∈ l, e.length ≤ maxLen) (hn : n ≤ c) (hc : c ≤ maxLen) (hm : (most : Int) ≤ 1000) :
    Calls Try.prog 96 #[.slice A n c, .int .i64 most] w fun e w' => e = .returned (.bool (labV l most)) ∧ Below w.heap.size w w' := by
  unfold maxLen at hc
  have HL := Lib.hid hr.len
  go_enter Try.func96, Try.ntmps96
  go_wp2_with fail
  go_loopw [5] (fun i wr => ∃ k : Nat, k ≤ n ∧ k ≤ most + 1 ∧ i = .int .i64 k ∧ labF [] l = labF (l.take k) (l.drop k) ∧ Below w.heap.size w wr) (fun i _ => n - (intOf i).toNat)
  case atStart => exact ⟨0, by omega, by omega, rfl, rfl, Below.refl _ _⟩
  case round =>
    obtain ⟨k, hk, hkm, rfl, hf, hb⟩ := hrel
    have HF := Lib.hid hf
    clear hf
    by_cases hlt : k < n
    · by_cases hkm2 : k ≤ most
      · obtain ⟨b, off, x, rfl, hbl, hx, hc0⟩ := (hr.below hb).atS hlt
        have hxl : x.length ≤ 9223372036854775807 := hs _ (List.mem_of_getElem? hx)
        have HD := Lib.hid (labF_drop hx)
        have hix := ix_first l x k 0 hx
        rw [Nat.zero_add] at hix
        have hbad : (!x.isEmpty && decide (x.length ≤ 60) && !(l.take k).contains x) = false → labV l most = false := fun h => by rw [labV, HF.out, HD.out, h]; simp
        have HB := Lib.hid hbad
        clear hx hbad
        have i1 : (0 : Int) ≤ (k : Int) := by omega
        have i2 : (k : Int) < (n : Int) := by omega
        have hr2 := (hr.below hb).more hb.size
        cases hxe : x.isEmpty with
        | true =>
          obtain rfl : x = [] := by simpa using hxe
          go_wp2_with fail
          go_ret
          exact ⟨ret_bool (HB.out rfl).symm, hb⟩
        | false =>
          by_cases h60 : (60 : Int) < (x.length : Int)
          · go_wp2_with fail
            go_ret
            exact ⟨ret_bool (HB.out (by rw [hxe, decide_eq_false (by omega)]; rfl)).symm, hb⟩
          have hd60 : decide ((60 : Int) < (x.length : Int)) = false := by simp; omega
          go_wp2_with fail
          refine (l1Find_any _ n _ l x _ hr2 (by unfold maxLen; omega)).mono ?_
          rintro e w1 ⟨rfl, rfl⟩
          cases hct : (l.take k).contains x with
          | true =>
            rw [hct] at hix
            go_wp2_with fail
            go_ret
            exact ⟨ret_bool (HB.out (by rw [hct]; simp)).symm, hb⟩
          | false =>
            rw [hct] at hix
            go_wp2_with fail
            go_roundw
            case rel => exact ⟨k + 1, by omega, by omega, by go_num, by rw [HF.out, HD.out, hxe, hct, decide_eq_true (by omega)]; rfl, hb⟩
            case measure => simp [intOf]; omega
      · have hd1 : decide ((k : Int) ≤ (most : Int)) = false := by simp; omega
        have hd2 : decide ((n : Int) ≤ (most : Int)) = false := by simp; omega
        go_wp2_with fail
        go_ret
        exact ⟨ret_bool (by rw [labV, HL.out, decide_eq_false (by omega)]; rfl), hb⟩
    · obtain rfl : k = n := by omega
      have hres : labV l most = decide (k ≤ most) := by
        rw [labV, HF.out, List.drop_of_length_le (by rw [HL.out]; omega), HL.out, labF, Bool.and_true]
      have HRs := Lib.hid hres
      clear hres
      go_wp2_with fail
      go_ret
      exact ⟨ret_bool HRs.out.symm, hb⟩
def allE (l : List Str) : Bool := l.all List.isEmpty
set_option maxHeartbeats 1000000 in
theorem allEmpty_any (A : Option Addr) (n c : Nat) (l : List Str) (w : World) (hr : Reads encS 1 w w.heap.size A n l) (hn : n ≤ maxLen) :
    Calls Try.prog 118 #[.slice A n c] w fun e w' => e = .returned (.bool (allE l)) ∧ Below w.heap.size w w' := by
  unfold maxLen at hn
  have HL := Lib.hid hr.len
  go_enter Try.func118, Try.ntmps118
  go_wp2_with fail
  go_loop [7] (fun i => ∃ k : Nat, k ≤ n ∧ i = .int .i64 k ∧ (l.take k).all List.isEmpty = true) (fun i => n - (intOf i).toNat)
  case atStart => exact ⟨0, by omega, rfl, by simp⟩
  case round =>
    obtain ⟨k, hk, rfl, hf⟩ := hrel
    have HF := Lib.hid hf
    clear hf
    by_cases hlt : k < n
    · obtain ⟨b, off, x, rfl, hbl, hx, hc0⟩ := hr.atS hlt
      have HX := Lib.hid hx
      clear hx
      cases hxe : x.isEmpty with
      | true =>
        obtain rfl : x = [] := by simpa using hxe
        go_wp2_with fail
        go_round
        case rel => exact ⟨k + 1, by omega, by go_num, all_snoc HX.out HF.out rfl⟩
        case measure => simp [intOf]; omega
      | false =>
        go_wp2_with fail
        go_ret
        exact ⟨ret_bool (all_bad HX.out hxe).symm, Below.refl _ _⟩
    · obtain rfl : k = n := by omega
      go_wp2_with fail
      go_ret
      exact ⟨ret_bool (by have := HF.out; rw [List.take_of_length_le (by rw [HL.out]; omega)] at this; exact this.symm), Below.refl _ _⟩
def named (l : List Str) : Bool := l.all (fun s => decide (s.length ≤ 60)) && (l.isEmpty || !allE l)
set_option maxHeartbeats 1000000 in
theorem l4Named_any (A : Option Addr) (n c : Nat) (l : List Str) (w : World) (hr : Reads encS 1 w w.heap.size A n l) (hs : ∀ e ∈ l, e.length ≤ maxLen) (hn : n ≤ maxLen) :
    Calls Try.prog 95 #[.slice A n c] w fun e w' => e = .returned (.bool (named l)) ∧ Below w.heap.size w w' := by
  unfold maxLen at hn
  have HL := Lib.hid hr.len
  obtain ⟨p0, hp0⟩ : ∃ p0 : Bool, ((n : Int) == 0) = p0 := ⟨_, rfl⟩
  go_enter Try.func95, Try.ntmps95
  go_wp2_with fail
  have HP := Lib.hid hp0
  clear hp0
  go_loop [3, 4] (fun v i => ∃ (k : Nat) (q : Bool), k ≤ n ∧ i = .int .i64 k ∧ v = .bool q ∧ (l.take k).all (fun s => decide (s.length ≤ 60)) = true ∧ q = (p0 || !allE (l.take k))) (fun _ i => n - (intOf i).toNat)
  case atStart => exact ⟨0, p0, by omega, rfl, rfl, by simp, by simp [allE]⟩
  case round =>
    obtain ⟨k, q, hk, rfl, rfl, hf, hq⟩ := hrel
    have HF := Lib.hid hf
    have HQ := Lib.hid hq
    clear hf hq
    by_cases hlt : k < n
    · obtain ⟨b, off, x, rfl, hbl, hx, hc0⟩ := hr.atS hlt
      have hxl : x.length ≤ 9223372036854775807 := hs _ (List.mem_of_getElem? hx)
      have HX := Lib.hid hx
      have HT := Lib.hid (take_snoc' hx)
      clear hx
      have i1 : (0 : Int) ≤ (k : Int) := by omega
      have i2 : (k : Int) < (n : Int) := by omega
      by_cases h60 : (60 : Int) < (x.length : Int)
      · go_wp2_with fail
        go_ret
        exact ⟨ret_bool (by rw [named, all_bad HX.out (decide_eq_false (by omega))]; rfl), Below.refl _ _⟩
      have hd60 : decide ((60 : Int) < (x.length : Int)) = false := by simp; omega
      have hall := all_snoc HX.out HF.out (decide_eq_true (show x.length ≤ 60 by omega))
      have HA := Lib.hid hall
      clear hall
      have hq2 : (q || !x.isEmpty) = (p0 || !allE (l.take (k + 1))) := by
        rw [HQ.out, HT.out]
        unfold allE
        rw [List.all_append]
        cases p0 <;> cases (l.take k).all List.isEmpty <;> simp
      have HQ2 := Lib.hid hq2
      clear hq2
      cases q with
      | true =>
        go_wp2_with fail
        go_round
        case rel => exact ⟨k + 1, true, by omega, by go_num, rfl, HA.out, HQ2.out⟩
        case measure => simp [intOf]; omega
      | false =>
        cases hxe : x.isEmpty with
        | true =>
          rw [hxe] at HQ2
          obtain rfl : x = [] := by simpa using hxe
          go_wp2_with fail
          go_round
          case rel => exact ⟨k + 1, false, by omega, by go_num, rfl, HA.out, HQ2.out⟩
          case measure => simp [intOf]; omega
        | false =>
          rw [hxe] at HQ2
          go_wp2_with fail
          go_round
          case rel => exact ⟨k + 1, true, by omega, by go_num, rfl, HA.out, HQ2.out⟩
          case measure => simp [intOf]; omega
    · obtain rfl : k = n := by omega
      have hres : named l = q := by
        have h1 := HF.out
        have h2 := HQ.out
        rw [List.take_of_length_le (by rw [HL.out]; omega)] at h1 h2
        rw [named, h1, h2, ← HP.out, Bool.true_and]
        congr 1
        rw [← HL.out, Bool.eq_iff_iff]; simp
      have HRs := Lib.hid hres
      clear hres
      go_wp2_with fail
      go_ret
      exact ⟨ret_bool HRs.out.symm, Below.refl _ _⟩
end Go.Proofs.Ytekcpadlmfaihaa
namespace Go.Proofs.Ytekcpadlmfaihaa
open Go.RowKit
def nestV : Nat → Vec → Nat
  | 0, _ => 1
  | r + 1, v => v.parts.foldl (fun o p => max o (1 + nestV r p)) 0
theorem foldl_max_le {α : Type} (f : α → Nat) (l : List α) (o M : Nat) (h : ∀ x ∈ l, f x ≤ M) (ho : o ≤ M) : l.foldl (fun o p => max o (f p)) o ≤ M := by
  induction l generalizing o with
  | nil => exact ho
  | cons a t ih =>
    rw [List.foldl_cons]
    exact ih _ (fun x hx => h x (List.mem_cons_of_mem _ hx)) (by have := h a List.mem_cons_self; omega)
theorem nestV_le (r : Nat) (v : Vec) : nestV r v ≤ r + 1 := by
  induction r generalizing v with
  | zero => simp [nestV]
  | succ r ih => rw [nestV]; exact foldl_max_le (fun p => 1 + nestV r p) _ _ _ (fun x _ => by have := ih x; omega) (by omega)
theorem foldl_snoc {α β : Type} (f : β → α → β) (o : β) {l : List α} {k : Nat} {x : α} (h : l[k]? = some x) : (l.take (k + 1)).foldl f o = f ((l.take k).foldl f o) x := by
  rw [take_snoc' h, List.foldl_append]; rfl
set_option maxRecDepth 100000 in
set_option maxHeartbeats 2000000 in
theorem nest_any (r : Nat) (hr : r ≤ 100) : ∀ (v : Vec) (cs : List Value) (w : World), rep w w.heap.size v.toD cs →
    Calls Try.prog 76 #[av cs, .int .i64 r] w fun e w' => e = .returned (.int .i64 (nestV r v)) ∧ Below w.heap.size w w' := by
  induction r with
  | zero =>
    intro v cs w h
    obtain ⟨Ai, ni, ci, Ap, np, cp, An, nn, cn, Ac, nc, cc, Al, nl, cl, rfl, hv⟩ := vec_open h
    go_enter Try.func76, Try.ntmps76
    go_wp2_with fail
    go_ret
    exact ⟨rfl, (Below.refl _ _).alloc (Nat.le_refl _) _⟩
  | succ r ih =>
    intro v cs w h
    have ih := ih (by omega)
    obtain ⟨Ai, ni, ci, Ap, np, cp, An, nn, cn, Ac, nc, cc, Al, nl, cl, rfl, hv⟩ := vec_open h
    have q0 := (Below.refl w.heap.size w).alloc (Nat.le_refl _) (.cells (vc v Ai ni ci Ap np cp An nn cn Ac nc cc Al nl cl).toArray 34)
    have hpl := hv.pab
    unfold maxLen at hpl
    have HPL := Lib.hid hpl.2.2
    have hpb : np ≤ 9223372036854775807 := by omega
    have HIH := Lib.hid ih
    clear ih hpl
    have hne : ((r : Int) + 1 == 0) = false := by simp; omega
    rw [show (((r + 1 : Nat)) : Int) = (r : Int) + 1 from rfl]
    go_enter Try.func76, Try.ntmps76
    go_wp2_with fail
    go_loopw [5, 13] (fun u i wr => ∃ k m : Nat, k ≤ np ∧ i = .int .i64 k ∧ u = .int .i64 m ∧ m = (v.parts.take k).foldl (fun o p => max o (1 + nestV r p)) 0 ∧ m ≤ 102 ∧ Below w.heap.size w wr) (fun _ i _ => np - (intOf i).toNat)
    case atStart => exact ⟨0, 0, by omega, rfl, rfl, rfl, by omega, q0⟩
    case round =>
      obtain ⟨k, m, hk, rfl, rfl, hm, hm2, hb⟩ := hrel
      have HM := Lib.hid hm
      clear hm
      by_cases hlt : k < np
      · obtain ⟨b, off, x, Ai', ni', ci', Ap', np', cp', An', nn', cn', Ac', nc', cc', Al', nl', cl', rfl, hbl, hx, hrx, hvx, c0, c1, c2, c3, c4, c5, c6, c7⟩ := parts_at (rep_below hv.pa hb) hlt
        have HX := Lib.hid (foldl_snoc (fun o p => max o (1 + nestV r p)) 0 hx)
        have hnl := nestV_le r x
        clear hx
        have q1 := hb.alloc hb.size (.cells (vc x Ai' ni' ci' Ap' np' cp' An' nn' cn' Ac' nc' cc' Al' nl' cl').toArray 34)
        go_wp2_with fail
        refine (HIH.out x _ _ (rep_in hrx (Below.alloc (Below.refl _ _) hb.size _) (by simp only [wsize_alloc]; have := hb.size; omega))).mono ?_
        rintro e w1 ⟨rfl, hb1⟩
        go_wp2_with fail
        all_goals
          go_roundw
          case rel => exact ⟨k + 1, (v.parts.take (k + 1)).foldl (fun o p => max o (1 + nestV r p)) (0 : Nat), by omega, by go_num, by rw [HX.out, ← HM.out]; congr 1; omega, rfl, by rw [HX.out, ← HM.out]; omega, bth q1 hb1⟩
          case measure => simp [intOf]; omega
      · obtain rfl : k = np := by omega
        go_wp2_with fail
        go_ret
        exact ⟨ret_int (by rw [nestV, HM.out, List.take_of_length_le (by rw [HPL.out]; omega)]), hb⟩
end Go.Proofs.Ytekcpadlmfaihaa
namespace Go.Proofs.Ytekcpadlmfaihaa
open Go.RowKit
mutual
def cellsV : Vec → Nat
  | ⟨k, i, p, n, c, l, cd, e⟩ => lenV ⟨k, i, p, n, c, l, cd, e⟩ + cellsL p
def cellsL : List Vec → Nat
  | [] => 0
  | v :: t => cellsV v + cellsL t
end
theorem cellsV_eq (v : Vec) : cellsV v = lenV v + cellsL v.parts := by cases v; rw [cellsV]
theorem cellsL_app (l l' : List Vec) : cellsL (l ++ l') = cellsL l + cellsL l' := by
  induction l with
  | nil => simp [cellsL]
  | cons a t ih => simp only [List.cons_append, cellsL, ih]; omega
theorem cellsL_snoc {l : List Vec} {k : Nat} {x : Vec} (h : l[k]? = some x) : cellsL (l.take (k + 1)) = cellsL (l.take k) + cellsV x := by
  rw [take_snoc' h, cellsL_app]; simp [cellsL]
theorem cellsL_le (l : List Vec) (k : Nat) : cellsL (l.take k) ≤ cellsL l := by
  have h : l = l.take k ++ l.drop k := by rw [List.take_append_drop]
  conv => rhs; rw [h]
  rw [cellsL_app]; omega
mutual
def hasF : Vec → Bool
  | ⟨k, _, p, _, _, _, _, _⟩ => (k == 5) || hasFL p
def hasFL : List Vec → Bool
  | [] => false
  | v :: t => hasF v || hasFL t
end
theorem hasF_eq (v : Vec) : hasF v = ((v.kind == 5) || hasFL v.parts) := by cases v; rw [hasF]
theorem hasFL_any (l : List Vec) : hasFL l = l.any hasF := by
  induction l with
  | nil => rw [hasFL]; rfl
  | cons a t ih => rw [hasFL, ih]; rfl
theorem any_snoc {α : Type} {p : α → Bool} {l : List α} {k : Nat} {x : α} (h : l[k]? = some x) (ha : (l.take k).any p = false) (hb : p x = false) : (l.take (k + 1)).any p = false := by
  rw [take_snoc' h, List.any_append, ha]; simp [hb]
theorem any_yes {α : Type} {p : α → Bool} {l : List α} {k : Nat} {x : α} (h : l[k]? = some x) (hb : p x = true) : l.any p = true := List.any_eq_true.2 ⟨x, List.mem_of_getElem? h, hb⟩
theorem cellsL_sz (l : List Vec) (h : ∀ x ∈ l, cellsV x ≤ 2 * szD x.toD + 1) : cellsL l ≤ 2 * szDs (l.map Vec.toD) + l.length := by
  induction l with
  | nil => simp [cellsL]
  | cons a t ih =>
    have h1 := ih (fun x hx => h x (List.mem_cons_of_mem _ hx))
    have h2 := h a List.mem_cons_self
    simp only [cellsL, List.map_cons, szDs, List.length_cons]
    omega
theorem vsz (v : Vec) : v.items.length + v.parts.length + szDs (v.parts.map Vec.toD) ≤ szD v.toD := by
  rw [Vector_sz, szD, szD, List.length_map, List.length_map]; omega
theorem cellsV_sz : ∀ v : Vec, cellsV v ≤ 2 * szD v.toD + 1 := Vector_ind fun v ih => by
  have h1 := cellsL_sz v.parts ih
  have h2 := lenV_le v
  have h3 := vsz v
  rw [cellsV_eq]; omega
theorem vsz_part {v x : Vec} (h : x ∈ v.parts) : szD x.toD ≤ szD v.toD := by
  have h1 := szDs_mem (List.mem_map_of_mem (f := Vec.toD) h)
  have h2 := vsz v
  omega
def bigV (v : Vec) : Prop := (szD v.toD : Int) ≤ 1000000000000000
theorem bigV.part {v x : Vec} (h : bigV v) (hx : x ∈ v.parts) : bigV x := by unfold bigV at h ⊢; have := vsz_part hx; omega
theorem bigV.len {v : Vec} (h : bigV v) : ((v.items.length + v.parts.length : Nat) : Int) ≤ 1000000000000000 := by unfold bigV at h; have := vsz v; omega
theorem bigV.cells {v : Vec} (h : bigV v) : (cellsV v : Int) ≤ 3000000000000000 := by unfold bigV at h; have := cellsV_sz v; omega
set_option maxRecDepth 100000 in
set_option maxHeartbeats 2000000 in
theorem cells_any : ∀ (v : Vec) (cs : List Value) (w : World), rep w w.heap.size v.toD cs → bigV v →
    Calls Try.prog 78 #[av cs] w fun e w' => e = .returned (.int .i64 (cellsV v)) ∧ Below w.heap.size w w' := Vector_ind fun v ih => by
  intro cs w h hbig
  have hblen := hbig.len
  have hbc := hbig.cells
  rw [cellsV_eq] at hbc
  obtain ⟨Ai, ni, ci, Ap, np, cp, An, nn, cn, Ac, nc, cc, Al, nl, cl, rfl, hv⟩ := vec_open h
  have q0 := (Below.refl w.heap.size w).alloc (Nat.le_refl _) (.cells (vc v Ai ni ci Ap np cp An nn cn Ac nc cc Al nl cl).toArray 34)
  have hpl := hv.pab
  unfold maxLen at hpl
  have HPL := Lib.hid hpl.2.2
  have hpb : np ≤ 9223372036854775807 := by omega
  have HIH := Lib.hid ih
  clear ih hpl
  go_enter Try.func78, Try.ntmps78
  go_wp2_with fail
  refine (length_any v _ _ (rep_next h q0) (by omega)).mono ?_
  rintro e w1 ⟨rfl, hb1⟩
  obtain ⟨hc1, _⟩ := bcell hb1
  simp only [wsize_alloc] at hc1
  have q1 := bth q0 hb1
  go_wp2_with fail
  have hbp : Below (w.alloc (.cells (vc v Ai ni ci Ap np cp An nn cn Ac nc cc Al nl cl).toArray 34)).heap.size (w.alloc (.cells (vc v Ai ni ci Ap np cp An nn cn Ac nc cc Al nl cl).toArray 34)) w1 := hb1
  go_loopw [3, 11] (fun u i wr => ∃ k : Nat, k ≤ np ∧ i = .int .i64 k ∧ u = .int .i64 ((lenV v + cellsL (v.parts.take k) : Nat) : Int) ∧ Below w.heap.size w wr) (fun _ i _ => np - (intOf i).toNat)
  case atStart => exact ⟨0, by omega, rfl, by simp [cellsL], q1⟩
  case round =>
    obtain ⟨k, hk, rfl, rfl, hb⟩ := hrel
    by_cases hlt : k < np
    · obtain ⟨b, off, x, Ai', ni', ci', Ap', np', cp', An', nn', cn', Ac', nc', cc', Al', nl', cl', rfl, hbl, hx, hrx, hvx, c0, c1, c2, c3, c4, c5, c6, c7⟩ := parts_at (rep_below hv.pa hb) hlt
      have HX := Lib.hid (cellsL_snoc hx)
      have HM := Lib.hid (List.mem_of_getElem? hx)
      have hle := cellsL_le v.parts (k + 1)
      rw [HX.out] at hle
      clear hx
      obtain ⟨m, hm⟩ : ∃ m : Nat, m = lenV v + cellsL (v.parts.take k) := ⟨_, rfl⟩
      have hm2 : (m + cellsV x : Int) ≤ 3000000000000000 := by omega
      rw [← hm]
      have HMM := Lib.hid hm
      clear hm hle
      have q2 := hb.alloc hb.size (.cells (vc x Ai' ni' ci' Ap' np' cp' An' nn' cn' Ac' nc' cc' Al' nl' cl').toArray 34)
      go_wp2_with fail
      refine (HIH.out x HM.out _ _ (rep_in hrx (Below.alloc (Below.refl _ _) hb.size _) (by simp only [wsize_alloc]; have := hb.size; omega)) (hbig.part HM.out)).mono ?_
      rintro e w2 ⟨rfl, hb2⟩
      go_wp2_with fail
      go_roundw
      case rel => exact ⟨k + 1, by omega, by go_num, by rw [HX.out, HMM.out]; congr 1; omega, bth q2 hb2⟩
      case measure => simp [intOf]; omega
    · obtain rfl : k = np := by omega
      go_wp2_with fail
      go_ret
      exact ⟨ret_int (by rw [cellsV_eq, List.take_of_length_le (by rw [HPL.out]; omega)]), hb⟩
set_option maxRecDepth 100000 in
set_option maxHeartbeats 2000000 in
theorem l4Cells_any : ∀ (v : Vec) (cs : List Value) (w : World), rep w w.heap.size v.toD cs → bigV v →
    Calls Try.prog 73 #[av cs] w fun e w' => e = .returned (.int .i64 (cellsV v)) ∧ Below w.heap.size w w' := Vector_ind fun v ih => by
  intro cs w h hbig
  have hblen := hbig.len
  have hbc := hbig.cells
  rw [cellsV_eq] at hbc
  obtain ⟨Ai, ni, ci, Ap, np, cp, An, nn, cn, Ac, nc, cc, Al, nl, cl, rfl, hv⟩ := vec_open h
  have q0 := (Below.refl w.heap.size w).alloc (Nat.le_refl _) (.cells (vc v Ai ni ci Ap np cp An nn cn Ac nc cc Al nl cl).toArray 34)
  have hpl := hv.pab
  unfold maxLen at hpl
  have HPL := Lib.hid hpl.2.2
  have hpb : np ≤ 9223372036854775807 := by omega
  have HIH := Lib.hid ih
  clear ih hpl
  go_enter Try.func73, Try.ntmps73
  go_wp2_with fail
  refine (l4Len_any v _ _ (rep_next h q0) (by omega)).mono ?_
  rintro e w1 ⟨rfl, hb1⟩
  obtain ⟨hc1, _⟩ := bcell hb1
  simp only [wsize_alloc] at hc1
  have q1 := bth q0 hb1
  go_wp2_with fail
  have hkb := Blk.new_ w 34 (vc v Ai ni ci Ap np cp An nn cn Ac nc cc Al nl cl).toArray
  go_loopw [3, 4] (fun u i wr => ∃ k : Nat, k ≤ np ∧ i = .int .i64 k ∧ u = .int .i64 ((lenV v + cellsL (v.parts.take k) : Nat) : Int) ∧ Below (w.alloc (.cells (vc v Ai ni ci Ap np cp An nn cn Ac nc cc Al nl cl).toArray 34)).heap.size (w.alloc (.cells (vc v Ai ni ci Ap np cp An nn cn Ac nc cc Al nl cl).toArray 34)) wr) (fun _ i _ => np - (intOf i).toNat)
  case atStart => exact ⟨0, by omega, rfl, by simp [cellsL], hb1⟩
  case round =>
    obtain ⟨k, hk, rfl, rfl, hb0⟩ := hrel
    have hb := bth q0 hb0
    have hpc : wr.cell? ⟨w.heap.size, 2, none⟩ = some (.slice Ap np cp) := (hkb.below hb0 hkb.lt).cell 2
    by_cases hlt : k < np
    · obtain ⟨b, off, x, Ai', ni', ci', Ap', np', cp', An', nn', cn', Ac', nc', cc', Al', nl', cl', rfl, hbl, hx, hrx, hvx, c0, c1, c2, c3, c4, c5, c6, c7⟩ := parts_at (rep_below hv.pa hb) hlt
      have HX := Lib.hid (cellsL_snoc hx)
      have HM := Lib.hid (List.mem_of_getElem? hx)
      have hle := cellsL_le v.parts (k + 1)
      rw [HX.out] at hle
      clear hx
      obtain ⟨m, hm⟩ : ∃ m : Nat, m = lenV v + cellsL (v.parts.take k) := ⟨_, rfl⟩
      have hm2 : (m + cellsV x : Int) ≤ 3000000000000000 := by omega
      rw [← hm]
      have HMM := Lib.hid hm
      clear hm hle
      go_wp2_with fail
      refine (HIH.out x HM.out _ _ (rep_more hrx hb.size) (hbig.part HM.out)).mono ?_
      rintro e w2 ⟨rfl, hb2⟩
      go_wp2_with fail
      go_roundw
      case rel => exact ⟨k + 1, by omega, by go_num, by rw [HX.out, HMM.out]; congr 1; omega, bth hb0 hb2⟩
      case measure => simp [intOf]; omega
    · obtain rfl : k = np := by omega
      go_wp2_with fail
      go_ret
      exact ⟨ret_int (by rw [cellsV_eq, List.take_of_length_le (by rw [HPL.out]; omega)]; omega), hb⟩
set_option maxRecDepth 100000 in
set_option maxHeartbeats 2000000 in
theorem hasFunction_any : ∀ (v : Vec) (cs : List Value) (w : World), rep w w.heap.size v.toD cs →
    Calls Try.prog 33 #[av cs] w fun e w' => e = .returned (.bool (hasF v)) ∧ Below w.heap.size w w' := Vector_ind fun v ih => by
  intro cs w h
  have hHF := hasF_eq v
  rw [hasFL_any] at hHF
  have HHF := Lib.hid hHF
  clear hHF
  obtain ⟨Ai, ni, ci, Ap, np, cp, An, nn, cn, Ac, nc, cc, Al, nl, cl, rfl, hv⟩ := vec_open h
  have q0 := (Below.refl w.heap.size w).alloc (Nat.le_refl _) (.cells (vc v Ai ni ci Ap np cp An nn cn Ac nc cc Al nl cl).toArray 34)
  have hpl := hv.pab
  unfold maxLen at hpl
  have HPL := Lib.hid hpl.2.2
  have hpb : np ≤ 9223372036854775807 := by omega
  have HIH := Lib.hid ih
  clear ih hpl
  cases hk5 : (v.kind == 5) with
  | true =>
    go_enter Try.func33, Try.ntmps33
    go_wp2_with fail
    go_ret
    exact ⟨ret_bool (by rw [HHF.out, hk5]; rfl), q0⟩
  | false =>
  go_enter Try.func33, Try.ntmps33
  go_wp2_with fail
  go_loopw [11] (fun i wr => ∃ k : Nat, k ≤ np ∧ i = .int .i64 k ∧ (v.parts.take k).any hasF = false ∧ Below w.heap.size w wr) (fun i _ => np - (intOf i).toNat)
  case atStart => exact ⟨0, by omega, rfl, rfl, q0⟩
  case round =>
    obtain ⟨k, hk, rfl, hf, hb⟩ := hrel
    have HF := Lib.hid hf
    clear hf
    by_cases hlt : k < np
    · obtain ⟨b, off, x, Ai', ni', ci', Ap', np', cp', An', nn', cn', Ac', nc', cc', Al', nl', cl', rfl, hbl, hx, hrx, hvx, c0, c1, c2, c3, c4, c5, c6, c7⟩ := parts_at (rep_below hv.pa hb) hlt
      have HX := Lib.hid hx
      have HM := Lib.hid (List.mem_of_getElem? hx)
      clear hx
      have q2 := hb.alloc hb.size (.cells (vc x Ai' ni' ci' Ap' np' cp' An' nn' cn' Ac' nc' cc' Al' nl' cl').toArray 34)
      go_wp2_with fail
      refine (HIH.out x HM.out _ _ (rep_in hrx (Below.alloc (Below.refl _ _) hb.size _) (by simp only [wsize_alloc]; have := hb.size; omega))).mono ?_
      rintro e w2 ⟨rfl, hb2⟩
      cases hq : hasF x with
      | true =>
        go_wp2_with fail
        go_ret
        exact ⟨ret_bool (by rw [HHF.out, any_yes HX.out hq]; simp), bth q2 hb2⟩
      | false =>
        go_wp2_with fail
        go_roundw
        case rel => exact ⟨k + 1, by omega, by go_num, any_snoc HX.out HF.out hq, bth q2 hb2⟩
        case measure => simp [intOf]; omega
    · obtain rfl : k = np := by omega
      go_wp2_with fail
      go_ret
      exact ⟨ret_bool (by have := HF.out; rw [List.take_of_length_le (by rw [HPL.out]; omega)] at this; rw [HHF.out, this, hk5]; rfl), hb⟩
set_option maxRecDepth 100000 in
set_option maxHeartbeats 2000000 in
theorem l30HasFunction_any : ∀ (v : Vec) (cs : List Value) (w : World), rep w w.heap.size v.toD cs →
    Calls Try.prog 29 #[av cs] w fun e w' => e = .returned (.bool (hasF v)) ∧ Below w.heap.size w w' := Vector_ind fun v ih => by
  intro cs w h
  have hHF := hasF_eq v
  rw [hasFL_any] at hHF
  have HHF := Lib.hid hHF
  clear hHF
  obtain ⟨Ai, ni, ci, Ap, np, cp, An, nn, cn, Ac, nc, cc, Al, nl, cl, rfl, hv⟩ := vec_open h
  have q0 := (Below.refl w.heap.size w).alloc (Nat.le_refl _) (.cells (vc v Ai ni ci Ap np cp An nn cn Ac nc cc Al nl cl).toArray 34)
  have hkb := Blk.new_ w 34 (vc v Ai ni ci Ap np cp An nn cn Ac nc cc Al nl cl).toArray
  have hpl := hv.pab
  unfold maxLen at hpl
  have HPL := Lib.hid hpl.2.2
  have hpb : np ≤ 9223372036854775807 := by omega
  have HIH := Lib.hid ih
  clear ih hpl
  go_enter Try.func29, Try.ntmps29
  go_wp2_with fail
  go_loopw [3] (fun i wr => ∃ k : Nat, k ≤ np ∧ i = .int .i64 k ∧ (v.parts.take k).any hasF = false ∧ Below (w.alloc (.cells (vc v Ai ni ci Ap np cp An nn cn Ac nc cc Al nl cl).toArray 34)).heap.size (w.alloc (.cells (vc v Ai ni ci Ap np cp An nn cn Ac nc cc Al nl cl).toArray 34)) wr) (fun i _ => np - (intOf i).toNat)
  case atStart => exact ⟨0, by omega, rfl, rfl, Below.refl _ _⟩
  case round =>
    obtain ⟨k, hk, rfl, hf, hb0⟩ := hrel
    have HF := Lib.hid hf
    clear hf
    have hb := bth q0 hb0
    have hpc : wr.cell? ⟨w.heap.size, 2, none⟩ = some (.slice Ap np cp) := (hkb.below hb0 hkb.lt).cell 2
    have hpk : wr.cell? ⟨w.heap.size, 0, none⟩ = some (.int .i64 v.kind) := (hkb.below hb0 hkb.lt).cell 0
    by_cases hlt : k < np
    · obtain ⟨b, off, x, Ai', ni', ci', Ap', np', cp', An', nn', cn', Ac', nc', cc', Al', nl', cl', rfl, hbl, hx, hrx, hvx, c0, c1, c2, c3, c4, c5, c6, c7⟩ := parts_at (rep_below hv.pa hb) hlt
      have HX := Lib.hid hx
      have HM := Lib.hid (List.mem_of_getElem? hx)
      clear hx
      go_wp2_with fail
      refine (HIH.out x HM.out _ _ (rep_more hrx hb.size)).mono ?_
      rintro e w2 ⟨rfl, hb2⟩
      cases hq : hasF x with
      | true =>
        go_wp2_with fail
        go_ret
        exact ⟨ret_bool (by rw [HHF.out, any_yes HX.out hq]; simp), bth hb hb2⟩
      | false =>
        go_wp2_with fail
        go_roundw
        case rel => exact ⟨k + 1, by omega, by go_num, any_snoc HX.out HF.out hq, bth hb0 hb2⟩
        case measure => simp [intOf]; omega
    · obtain rfl : k = np := by omega
      go_wp2_with fail
      go_ret
      exact ⟨ret_bool (by have := HF.out; rw [List.take_of_length_le (by rw [HPL.out]; omega)] at this; rw [HHF.out, this, Bool.or_false]), hb⟩
end Go.Proofs.Ytekcpadlmfaihaa
namespace Go.Proofs.Ytekcpadlmfaihaa
open Go.RowKit
theorem zdec (n : Nat) : decide ((0 : Int) < (n : Int)) = decide (0 < n) := by rw [decide_eq_decide]; omega
def shP (kind code env : Int) (ni np nn nc nl : Nat) : Prop :=
  (0 < nl → kind = 2) ∧ (0 < np → kind = 4) ∧ (kind ≠ 5 → code = 0 ∧ env = 0) ∧ (kind = 5 → ni = 0 ∧ nn = 0 ∧ -999 ≤ code ∧ code ≤ 99999 ∧ 0 ≤ env ∧ env ≤ 99999) ∧ (kind = 0 → ni = 0 ∧ nc = 0)
instance (kind code env : Int) (ni np nn nc nl : Nat) : Decidable (shP kind code env ni np nn nc nl) := by unfold shP; infer_instance
def itL (v : Vec) (x : Item) : Bool := itemOK v.kind x && (decide (v.levels.length = 0) || isMiss x || decide (x.den = 1 ∧ 1 ≤ x.num ∧ x.num ≤ v.levels.length))
def shI (v : Vec) (x : Item) : Bool := atomK v.kind && itL v x
def shA (v : Vec) : Bool := decide (0 ≤ v.kind ∧ v.kind ≤ 5 ∧ lenV v ≤ 40) && labV v.cls 3 && labV v.levels 20
def shN (v : Vec) : Bool := (decide (v.names.length = 0) || (decide (v.names.length = lenV v) && !allE v.names)) && v.names.all (fun s => decide (s.length ≤ 60))
def shC (v : Vec) : Bool := decide (shP v.kind v.code v.env v.items.length v.parts.length v.names.length v.cls.length v.levels.length)
def shapeOK (v : Vec) : Bool := shA v && shN v && shC v && v.items.all (shI v)
theorem shNo {v : Vec} (h : shA v = false ∨ shN v = false ∨ shC v = false ∨ v.items.all (shI v) = false) : shapeOK v = false := by
  unfold shapeOK
  rcases h with h | h | h | h <;> rw [h] <;> simp
mutual
def partsOK : Vec → Bool
  | ⟨k, i, p, n, c, l, cd, e⟩ => shapeOK ⟨k, i, p, n, c, l, cd, e⟩ && partsOKL p
def partsOKL : List Vec → Bool
  | [] => true
  | v :: t => partsOK v && partsOKL t
end
theorem partsOK_eq (v : Vec) : partsOK v = (shapeOK v && v.parts.all partsOK) := by
  have h : ∀ l, partsOKL l = l.all partsOK := by
    intro l
    induction l with
    | nil => rw [partsOKL]; rfl
    | cons a t ih => rw [partsOKL, ih]; rfl
  cases v; rw [partsOK, h]
def okD : Nat → Vec → Bool
  | 0, v => shapeOK v && v.parts.isEmpty
  | d + 1, v => shapeOK v && v.parts.all (okD d)
theorem foldl_max_iff {α : Type} (f : α → Nat) (l : List α) (o M : Nat) : l.foldl (fun o p => max o (f p)) o ≤ M ↔ o ≤ M ∧ ∀ x ∈ l, f x ≤ M := by
  induction l generalizing o with
  | nil => simp
  | cons a t ih =>
    rw [List.foldl_cons, ih]
    simp only [List.mem_cons, forall_eq_or_imp]
    constructor
    · rintro ⟨h1, h2⟩; exact ⟨by omega, by omega, h2⟩
    · rintro ⟨h1, h2, h3⟩; exact ⟨by omega, h3⟩
theorem okD_eq (d : Nat) (v : Vec) : okD d v = (decide (nestV (d + 1) v ≤ d) && partsOK v) := by
  induction d generalizing v with
  | zero =>
    rw [okD, partsOK_eq, nestV]
    cases hp : v.parts with
    | nil => simp
    | cons a t =>
      have : ¬ (a :: t).foldl (fun o p => max o (1 + nestV 0 p)) 0 ≤ 0 := by
        rw [foldl_max_iff (fun p => 1 + nestV 0 p)]
        intro h
        have := h.2 a List.mem_cons_self
        omega
      rw [decide_eq_false this]; simp
  | succ d ih =>
    rw [okD, partsOK_eq, nestV]
    have h1 : v.parts.all (okD d) = (decide (v.parts.foldl (fun o p => max o (1 + nestV (d + 1) p)) 0 ≤ d + 1) && v.parts.all partsOK) := by
      rw [Bool.eq_iff_iff, List.all_eq_true, Bool.and_eq_true, decide_eq_true_iff, foldl_max_iff (fun p => 1 + nestV (d + 1) p), List.all_eq_true]
      constructor
      · intro h
        refine ⟨⟨by omega, fun x hx => ?_⟩, fun x hx => ?_⟩
        · have := h x hx; rw [ih, Bool.and_eq_true, decide_eq_true_iff] at this; omega
        · have := h x hx; rw [ih, Bool.and_eq_true] at this; exact this.2
      · rintro ⟨⟨_, h2⟩, h3⟩ x hx
        rw [ih, Bool.and_eq_true, decide_eq_true_iff]
        exact ⟨by have := h2 x hx; omega, h3 x hx⟩
    rw [h1]
    cases shapeOK v <;> cases (decide (v.parts.foldl (fun o p => max o (1 + nestV (d + 1) p)) 0 ≤ d + 1)) <;> simp
def isVec (v : Vec) : Bool := okD 3 v && decide (cellsV v ≤ 200)
theorem shN_eq (v : Vec) : shN v = ((decide (v.names.length = 0) || decide (v.names.length = lenV v)) && named v.names) := by
  unfold shN named
  cases hn : v.names with
  | nil => simp
  | cons a t =>
    have h0 : decide ((a :: t).length = 0) = false := by simp
    rw [h0]
    cases decide ((a :: t).length = lenV v) <;> cases allE (a :: t) <;> cases (a :: t).all (fun s => decide (s.length ≤ 60)) <;> rfl
def okL (d : Nat) (v : Vec) : Bool := match d with
  | 0 => v.parts.isEmpty
  | d + 1 => v.parts.all (okD d)
theorem okD_split (d : Nat) (v : Vec) : okD d v = (shA v && shN v && shC v && v.items.all (shI v) && okL d v) := by
  cases d <;> rw [okD, shapeOK] <;> rfl
theorem den_ne {kind : Int} {x : Item} (h : itemOK kind x = true) : isMiss x = decide (x.den = 0) := by
  cases hm : isMiss x with
  | true =>
    obtain rfl : x = ⟨0, 0, []⟩ := by simpa [isMiss] using hm
    rfl
  | false =>
    rw [itemOK, hm, Bool.false_or] at h
    rw [eq_comm, decide_eq_false_iff_not]
    split at h
    · simp at h; omega
    · split at h
      · simp [isNum] at h; omega
      · split at h
        · simp at h; omega
        · cases h
theorem okNo {d : Nat} {v : Vec} (h : shA v = false ∨ shN v = false ∨ shC v = false ∨ v.items.all (shI v) = false ∨ okL d v = false) : okD d v = false := by
  rw [okD_split]
  rcases h with h | h | h | h | h <;> rw [h] <;> simp
end Go.Proofs.Ytekcpadlmfaihaa
