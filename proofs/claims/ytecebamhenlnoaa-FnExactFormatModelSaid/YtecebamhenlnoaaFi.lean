/- Formulas written: what FormatFormula of the program and of the reference return. -/
import Derived.Test.YtecebamhenlnoaaFh
namespace Go.Proofs.Ytecebamhenlnoaa
open Go.RowKit
theorem joinT_app (sep : Str) (L : List Str) (y : Str) : joinT sep (L ++ [y]) = if L = [] then y else joinT sep L ++ (sep ++ y) := by
  cases L with
  | nil => simp [joinT]
  | cons a t => simp [joinT]
theorem fmtN_len {v : Str} (h : isNm v = true) : 1 ≤ (fmtN v).length ∧ (fmtN v).length ≤ 22 := by
  have := isNm_len h
  unfold fmtN
  split
  · omega
  · simp only [h, if_true, List.length_cons, List.length_append, List.length_nil]; omega
def tnF (x : Nat) (vars : List Str) : List Str := (tn x 0 vars).map fmtN
theorem tnF_snoc {x : Nat} {l : List Str} {k : Nat} {v : Str} (h : l[k]? = some v) : tnF x (l.take (k + 1)) = tnF x (l.take k) ++ (if bitOn x k then [fmtN v] else []) := by
  rw [tnF, tn_snoc h, List.map_append, tnF]
  split <;> simp
theorem joinT_nil {sep : Str} {L : List Str} (h : ∀ e ∈ L, 1 ≤ e.length) : (joinT sep L = []) ↔ L = [] := by
  cases L with
  | nil => simp [joinT]
  | cons a t =>
    have := h a List.mem_cons_self
    constructor
    · intro h'
      have h2 := congrArg List.length h'
      simp only [joinT, List.length_append, List.length_nil] at h2
      omega
    · intro h'; cases h'
def termT (vars : List Str) (x : Nat) : Str := joinT [58] (tnF x vars)
def fmtT (vars : List Str) (x : Int) : Str := 32 :: 43 :: 32 :: termT vars x.toNat
def fmtHead (r : Str) (ic : Bool) : Str := fmtN r ++ (if ic then [32, 126, 32, 49] else [32, 126, 32, 48])
def fmtF (r : Str) (ic : Bool) (vars : List Str) (terms : List Int) : Str := if isF r vars terms then fmtHead r ic ++ terms.flatMap (fmtT vars) else []
/-- What a right formula gives. -/
theorem vck_all (r : Str) (p : Option Str) (l : List Str) (h : vck r p l = true) : ∀ v ∈ l, isNm v = true := by
  induction l generalizing p with
  | nil => simp
  | cons a t ih =>
    rw [vck, Bool.and_eq_true, Bool.and_eq_true, Bool.and_eq_true] at h
    intro v hv
    rcases List.mem_cons.1 hv with rfl | hv
    · exact h.1.1.1
    · exact ih _ h.2 v hv
theorem tck_all (n : Nat) (p : Option Int) (l : List Int) (h : tck n p l = true) : ∀ x ∈ l, 1 ≤ x ∧ x < (2 ^ n : Nat) := by
  induction l generalizing p with
  | nil => simp
  | cons a t ih =>
    rw [tck, Bool.and_eq_true, Bool.and_eq_true] at h
    intro v hv
    rcases List.mem_cons.1 hv with rfl | hv
    · exact of_decide_eq_true h.1.1
    · exact ih _ h.2 v hv
theorem isF_all {r : Str} {vars : List Str} {terms : List Int} (h : isF r vars terms = true) :
    isNm r = true ∧ vars.length ≤ 5 ∧ terms.length ≤ 10 ∧ (∀ v ∈ vars, isNm v = true) ∧ ∀ x ∈ terms, 1 ≤ x ∧ x < 32 := by
  unfold isF at h
  simp only [Bool.and_eq_true, decide_eq_true_eq] at h
  obtain ⟨⟨⟨⟨⟨h1, h2⟩, h3⟩, h4⟩, h5⟩, h6⟩ := h
  refine ⟨h1, h2, h3, vck_all _ _ _ h4, fun x hx => ?_⟩
  have h7 := tck_all _ _ _ h5 x hx
  have h8 := Nat.pow_le_pow_right (n := 2) (i := vars.length) (j := 5) (by omega) h2
  omega
theorem tnF_all {x : Nat} {vars : List Str} (h : ∀ v ∈ vars, isNm v = true) : ∀ e ∈ tnF x vars, 1 ≤ e.length ∧ e.length ≤ 22 := by
  intro e he
  unfold tnF at he
  obtain ⟨v, hv, rfl⟩ := List.mem_map.1 he
  exact fmtN_len (h v (tn_sub _ _ _ v hv))
theorem tnF_len (x : Nat) (vars : List Str) : (tnF x vars).length ≤ vars.length := by
  unfold tnF; rw [List.length_map]; exact tn_len _ _ _
theorem termT_len {x : Nat} {vars : List Str} (h : ∀ v ∈ vars, isNm v = true) (h5 : vars.length ≤ 5) : (termT vars x).length ≤ 115 := by
  have h1 := joinT_len (sep := [58]) (fun e he => (tnF_all (x := x) h e he).2)
  have h2 := tnF_len x vars
  have h3 : (tnF x vars).length * (22 + ([58] : Str).length) ≤ 5 * 23 := Nat.mul_le_mul (by omega) (by simp)
  unfold termT
  omega
set_option maxHeartbeats 2000000 in
theorem l21Term_any (r : Str) (ic : Bool) (A : Option Addr) (n c : Nat) (B : Option Addr) (m d : Nat) (vars : List Str) (x : Nat) (w : World)
    (hv : Reads encS 1 w w.heap.size A n vars) (hn : n ≤ 5) (hx : x < 32) (hnm : ∀ v ∈ vars, isNm v = true) :
    Calls Try.prog 93 #[fval r ic A n c B m d, .int .i64 x, sv [58]] w fun e w' => e = .returned (sv (termT vars x)) ∧ Below w.heap.size w w' := by
  have hb0 : Below w.heap.size w (w.alloc (.cells #[sv r, .bool ic, .slice A n c, .slice B m d] 62)) := (Below.refl _ _).alloc (Nat.le_refl _) _
  have hk0 := Blk.new_ w 62 #[sv r, .bool ic, .slice A n c, .slice B m d]
  go_enter Try.func93, Try.ntmps93
  go_wp2_with fail
  go_loopw [7, 8] (fun v i wr => ∃ (k : Nat) (s : Str), k ≤ n ∧ i = .int .i64 k ∧ v = sv s ∧ s = joinT [58] (tnF x (vars.take k)) ∧ s.length ≤ 23 * k ∧ Blk wr w.heap.size 62 [sv r, .bool ic, .slice A n c, .slice B m d] ∧ Below w.heap.size w wr) (fun _ i _ => n - (intOf i).toNat)
  case atStart => exact ⟨0, [], by omega, rfl, rfl, rfl, by simp, hk0, hb0⟩
  case round =>
    obtain ⟨k, s, hk, rfl, rfl, hs, hsl, hblk, hb⟩ := hrel
    have HS := Lib.hid hs
    clear hs
    have hc2 : wr.cell? ⟨w.heap.size, 2, none⟩ = some (.slice A n c) := hblk.cell 2
    have hbs := hb.size
    by_cases hlt : k < n
    · obtain ⟨b, off, y, rfl, hbl, hy, hc0⟩ := (hv.below hb).atS hlt
      have HX := Lib.hid (tnF_snoc (x := x) hy)
      have hny := hnm _ (List.mem_of_getElem? hy)
      have hyl := isNm_len hny
      have hfl := fmtN_len hny
      have HN := Lib.hid hnm
      have HY := Lib.hid hny
      clear hy hnm hny
      have hyl' : y.length ≤ maxLen := by unfold maxLen; omega
      have hbt := bit_test x k (by omega)
      have hall : ∀ e ∈ tnF x (vars.take k), 1 ≤ e.length := fun e he => (tnF_all (vars := vars.take k) (fun v hv => HN.out v (List.mem_of_mem_take hv)) e he).1
      have HSN := Lib.hid (joinT_nil (sep := [58]) hall)
      clear hall
      cases hbx : bitOn x k with
      | false =>
        rw [hbx] at hbt
        go_wp2_with fail
        go_roundw
        case rel => exact ⟨k + 1, s, by omega, by go_num, rfl, by rw [HX.out, hbx, if_neg (by simp), List.append_nil, HS.out], by omega, hblk, hb⟩
        case measure => simp [intOf]; omega
      | true =>
        rw [hbx] at hbt
        have hres : joinT [58] (tnF x (vars.take (k + 1))) = if s = [] then fmtN y else s ++ ([58] ++ fmtN y) := by
          rw [HX.out, hbx, if_pos rfl, joinT_app, HS.out]
          by_cases hL : tnF x (vars.take k) = []
          · rw [if_pos hL, if_pos (HSN.out.2 hL)]
          · rw [if_neg hL, if_neg (fun h => hL (HSN.out.1 h))]
        have HR := Lib.hid hres
        clear hres
        cases hse : s.isEmpty with
        | true =>
          have hs0 : s = [] := by simpa using hse
          have HR2 : Hid (joinT [58] (tnF x (vars.take (k + 1))) = fmtN y) := Lib.hid (by rw [HR.out, if_pos hs0])
          subst hs0
          go_wp2_with (first | (go_at_call 92; ((with_reducible refine (specFormatName_any y _ hyl').mono ?_); rintro e w1 ⟨rfl, hb1⟩)))
          go_roundw
          case rel => exact ⟨k + 1, fmtN y, by omega, by go_num, by simp, HR2.out.symm, by omega, hblk.below hb1 hblk.lt, bth hb hb1⟩
          case measure => simp [intOf]; omega
        | false =>
          have hs0 : ¬ s = [] := by intro h; rw [h] at hse; cases hse
          have HR2 : Hid (joinT [58] (tnF x (vars.take (k + 1))) = s ++ ([58] ++ fmtN y)) := Lib.hid (by rw [HR.out, if_neg hs0])
          clear hs0
          go_wp2_with (first | (go_at_call 92; ((with_reducible refine (specFormatName_any y _ hyl').mono ?_); rintro e w1 ⟨rfl, hb1⟩)))
          go_roundw
          case rel => exact ⟨k + 1, _, by omega, by go_num, by simp, HR2.out.symm, by simp only [List.length_append, List.length_cons, List.length_nil]; omega, hblk.below hb1 hblk.lt, bth hb hb1⟩
          case measure => simp [intOf]; omega
    · obtain rfl : k = n := by omega
      go_wp2_with fail
      go_ret
      exact ⟨ret_str (by rw [HS.out, List.take_of_length_le (by rw [hv.len]; omega)]; rfl), hb⟩
set_option maxRecDepth 100000 in
set_option maxHeartbeats 2000000 in
theorem specFormatFormula_any (r : Str) (ic : Bool) (A : Option Addr) (n c : Nat) (B : Option Addr) (m d : Nat) (vars : List Str) (terms : List Int) (w : World)
    (hv : Reads encS 1 w w.heap.size A n vars) (ht : Reads encI 1 w w.heap.size B m terms) (hr : r.length ≤ maxLen) (hvs : ∀ v ∈ vars, v.length ≤ maxLen) (hn : n ≤ maxLen) (hm : m ≤ maxLen) :
    Calls Try.prog 74 #[fval r ic A n c B m d] w fun e w' => e = .returned (sv (fmtF r ic vars terms)) ∧ Below w.heap.size w w' := by
  have hb0 : Below w.heap.size w (w.alloc (.cells #[sv r, .bool ic, .slice A n c, .slice B m d] 62)) := (Below.refl _ _).alloc (Nat.le_refl _) _
  have hk0 := Blk.new_ w 62 #[sv r, .bool ic, .slice A n c, .slice B m d]
  go_enter Try.func74, Try.ntmps74
  go_wp2_with fail
  refine (specIsFormula_any r ic A n c B m d vars terms _ (hv.next hb0) (ht.next hb0) hr hvs hn hm).mono ?_
  rintro e w1 ⟨rfl, hb1⟩
  cases hF : isF r vars terms with
  | false =>
    go_wp2_with fail
    go_ret
    exact ⟨ret_str (by rw [fmtF, hF]; rfl), bth hb0 hb1⟩
  | true =>
    obtain ⟨hnr, h5, h10, hnv, hrt⟩ := isF_all hF
    have hrl := fmtN_len hnr
    rw [hv.len] at h5
    rw [ht.len] at h10
    have hres : fmtF r ic vars terms = fmtHead r ic ++ terms.flatMap (fmtT vars) := by rw [fmtF, hF]; rfl
    have HR := Lib.hid hres
    clear hres hF hnr
    have hk1 := hk0.below hb1 hk0.lt
    have hbb := bth hb0 hb1
    have hcr : w1.cell? ⟨w.heap.size, 0, none⟩ = some (sv r) := hk1.cell 0
    have hci : w1.cell? ⟨w.heap.size, 1, none⟩ = some (.bool ic) := hk1.cell 1
    have hbs := hbb.size
    go_wp2_with fail
    refine (specFormatName_any r _ hr).mono ?_
    rintro e w2 ⟨rfl, hb2⟩
    have hk2 := hk1.below hb2 hk1.lt
    have hbb2 := bth hbb hb2
    have hcr2 : w2.cell? ⟨w.heap.size, 0, none⟩ = some (sv r) := hk2.cell 0
    have hci2 : w2.cell? ⟨w.heap.size, 1, none⟩ = some (.bool ic) := hk2.cell 1
    have hhl : (fmtHead r ic).length ≤ 26 := by unfold fmtHead; split <;> simp only [List.length_append, List.length_cons, List.length_nil] <;> omega
    cases ic
    case' false =>
      go_wp2_with fail
      have hkW := hk2
      have hbW := hbb2
      obtain ⟨ic, hic⟩ : ∃ ic : Bool, ic = false := ⟨_, rfl⟩
    case' true =>
      go_wp2_with fail
      refine (specFormatName_any r _ hr).mono ?_
      rintro e w3 ⟨rfl, hb3⟩
      have hkW := hk2.below hb3 hk2.lt
      have hbW := bth hbb2 hb3
      go_wp2_with fail
      obtain ⟨ic, hic⟩ : ∃ ic : Bool, ic = true := ⟨_, rfl⟩
    all_goals
      clear hb1 hk1 hbb hcr hci hbs hb2 hk2 hbb2 hcr2 hci2 hb0 hk0
      rw [← hic] at hkW HR hhl
      have HIC := Lib.hid hic
      clear hic
      have HNV := Lib.hid hnv
      have HRT := Lib.hid hrt
      clear hnv hrt
      go_loopw [3, 4] (fun v i wr => ∃ (k : Nat) (s : Str), k ≤ m ∧ i = .int .i64 k ∧ v = sv s ∧ s = fmtHead r ic ++ (terms.take k).flatMap (fmtT vars) ∧ s.length ≤ 26 + 118 * k ∧ Blk wr w.heap.size 62 [sv r, .bool ic, .slice A n c, .slice B m d] ∧ Below w.heap.size w wr) (fun _ i _ => m - (intOf i).toNat)
      case atStart => exact ⟨0, _, by omega, rfl, rfl, by rw [HIC.out]; simp [fmtHead], by simp only [List.length_append, List.length_cons, List.length_nil]; omega, hkW, hbW⟩
      case round =>
        clear hkW hbW
        obtain ⟨k, s, hk, rfl, rfl, hs, hsl, hblk, hb⟩ := hrel
        have HS := Lib.hid hs
        clear hs
        have hc0 : wr.cell? ⟨w.heap.size, 0, none⟩ = some (sv r) := hblk.cell 0
        have hc1 : wr.cell? ⟨w.heap.size, 1, none⟩ = some (.bool ic) := hblk.cell 1
        have hc2 : wr.cell? ⟨w.heap.size, 2, none⟩ = some (.slice A n c) := hblk.cell 2
        have hc3 : wr.cell? ⟨w.heap.size, 3, none⟩ = some (.slice B m d) := hblk.cell 3
        have hbs := hb.size
        by_cases hlt : k < m
        · obtain ⟨b, off, y, rfl, hbl, hy, hcy⟩ := (ht.below hb).atI hlt
          have hy1 := HRT.out _ (List.mem_of_getElem? hy)
          obtain ⟨z, rfl⟩ := Int.eq_ofNat_of_zero_le (show 0 ≤ y by omega)
          have hz : z < 32 := by omega
          have HX := Lib.hid (flat_snoc' (f := fmtT vars) hy)
          clear hy hy1
          have hTl := termT_len (x := z) HNV.out (by rw [hv.len]; exact h5)
          have hwl := hblk.lt
          have hbw : b < wr.heap.size := by omega
          have i1 : (0 : Int) ≤ (k : Int) := by omega
          have i2 : (k : Int) < (m : Int) := by omega
          have hvr := (hv.below hb).more hbs
          have i3 : ¬ 9223372036854775807 < s.length + 3 := by omega
          have i4 : ¬ 9223372036854775807 < s.length + 3 + (termT vars z).length := by omega
          have i5 : ¬ 9223372036854775807 < s.length + (3 + (termT vars z).length) := by omega
          go_wp2_with fail
          go_region_held3 (fun w' => (w'.cell? ⟨w.heap.size, 0, none⟩ = some (sv r) ∧ w'.cell? ⟨w.heap.size, 1, none⟩ = some (.bool ic) ∧ w'.cell? ⟨w.heap.size, 2, none⟩ = some (.slice A n c) ∧ w'.cell? ⟨w.heap.size, 3, none⟩ = some (.slice (some ⟨b, off, none⟩) m d)) ∧ w'.cell? ⟨b, off + k, none⟩ = some (.int .i64 (z : Int)))
            (first | exact ⟨⟨hc0, hc1, hc2, hc3⟩, hcy⟩ | exact ⟨⟨(hb1.cell hwl).trans hc0, (hb1.cell hwl).trans hc1, (hb1.cell hwl).trans hc2, (hb1.cell hwl).trans hc3⟩, (hb1.cell hbw).trans hcy⟩)
            (first | (go_at_call 93; refine (l21Term_any r ic A n c _ m d vars z _ (by exact hvr) h5 hz HNV.out).mono ?_; rintro e w1 ⟨rfl, hb1⟩))
          go_wp2_with fail
          go_roundw
          case rel => exact ⟨k + 1, s ++ (32 :: 43 :: 32 :: termT vars z), by omega, by go_num, by simp, by rw [HX.out, HS.out, fmtT]; simp, by simp only [List.length_append, List.length_cons, List.length_nil]; omega, Blk.below (w := wr.drew) hblk hb1 hwl, bth hb.drew hb1⟩
          case measure => simp [intOf]; omega
        · obtain rfl : k = m := by omega
          go_wp2_with fail
          go_ret
          exact ⟨ret_str (by rw [← HIC.out, HR.out, HS.out, List.take_of_length_le (by rw [ht.len]; omega)]), hb⟩
set_option maxRecDepth 100000 in
set_option maxHeartbeats 2000000 in
theorem implFormatFormula_any (r : Str) (ic : Bool) (A : Option Addr) (n c : Nat) (B : Option Addr) (m d : Nat) (vars : List Str) (terms : List Int) (w : World)
    (hv : Reads encS 1 w w.heap.size A n vars) (ht : Reads encI 1 w w.heap.size B m terms) (hr : r.length ≤ maxLen) (hvs : ∀ v ∈ vars, v.length ≤ maxLen) (hn : n ≤ maxLen) (hm : m ≤ maxLen) :
    Calls Try.prog 80 #[fval r ic A n c B m d] w fun e w' => e = .returned (sv (fmtF r ic vars terms)) ∧ Below w.heap.size w w' := by
  have hb0 : Below w.heap.size w (w.alloc (.cells #[sv r, .bool ic, .slice A n c, .slice B m d] 62)) := (Below.refl _ _).alloc (Nat.le_refl _) _
  have hk0 := Blk.new_ w 62 #[sv r, .bool ic, .slice A n c, .slice B m d]
  go_enter Try.func80, Try.ntmps80
  go_wp2_with fail
  refine (implIsFormula_any r ic A n c B m d vars terms _ (hv.next hb0) (ht.next hb0) hr hvs hn hm).mono ?_
  rintro e w1 ⟨rfl, hb1⟩
  cases hF : isF r vars terms with
  | false =>
    go_wp2_with fail
    go_ret
    exact ⟨ret_str (by rw [fmtF, hF]; rfl), bth hb0 hb1⟩
  | true =>
    obtain ⟨hnr, h5, h10, hnv, hrt⟩ := isF_all hF
    have hrl := fmtN_len hnr
    rw [hv.len] at h5
    rw [ht.len] at h10
    have hres : fmtF r ic vars terms = fmtHead r ic ++ terms.flatMap (fmtT vars) := by rw [fmtF, hF]; rfl
    have HR := Lib.hid hres
    clear hres hF hnr
    have hk1 := hk0.below hb1 hk0.lt
    have hbb := bth hb0 hb1
    have hcr : w1.cell? ⟨w.heap.size, 0, none⟩ = some (sv r) := hk1.cell 0
    have hci : w1.cell? ⟨w.heap.size, 1, none⟩ = some (.bool ic) := hk1.cell 1
    have hct : w1.cell? ⟨w.heap.size, 3, none⟩ = some (.slice B m d) := hk1.cell 3
    have hhl : (fmtHead r ic).length ≤ 26 := by unfold fmtHead; split <;> simp only [List.length_append, List.length_cons, List.length_nil] <;> omega
    go_wp2_with fail
    refine (implFormatName_any r _ hr).mono ?_
    rintro e w2 ⟨rfl, rfl⟩
    cases ic
    case' false =>
      go_wp2_with fail
      obtain ⟨ic, hic⟩ : ∃ ic : Bool, ic = false := ⟨_, rfl⟩
    case' true =>
      go_wp2_with fail
      refine (implFormatName_any r _ hr).mono ?_
      rintro e w2 ⟨rfl, rfl⟩
      go_wp2_with fail
      obtain ⟨ic, hic⟩ : ∃ ic : Bool, ic = true := ⟨_, rfl⟩
    all_goals
      clear hb1 hcr hci hct hb0 hk0
      rw [← hic] at hk1 HR hhl
      have HIC := Lib.hid hic
      clear hic
      have HNV := Lib.hid hnv
      have HRT := Lib.hid hrt
      clear hnv hrt
      go_loopw [3, 25] (fun v i wr => ∃ (k : Nat) (s : Str), k ≤ m ∧ i = .int .i64 k ∧ v = sv s ∧ s = fmtHead r ic ++ (terms.take k).flatMap (fmtT vars) ∧ s.length ≤ 26 + 118 * k ∧ Blk wr w.heap.size 62 [sv r, .bool ic, .slice A n c, .slice B m d] ∧ Below w.heap.size w wr) (fun _ i _ => m - (intOf i).toNat)
      case atStart => exact ⟨0, _, by omega, rfl, rfl, by rw [HIC.out]; simp [fmtHead], by simp only [List.length_append, List.length_cons, List.length_nil]; omega, hk1, hbb⟩
      case round =>
        clear hk1 hbb
        obtain ⟨k, s, hk, rfl, rfl, hs, hsl, hblk, hb⟩ := hrel
        have HS := Lib.hid hs
        clear hs
        have hc0 : wr.cell? ⟨w.heap.size, 0, none⟩ = some (sv r) := hblk.cell 0
        have hc1 : wr.cell? ⟨w.heap.size, 1, none⟩ = some (.bool ic) := hblk.cell 1
        have hc2 : wr.cell? ⟨w.heap.size, 2, none⟩ = some (.slice A n c) := hblk.cell 2
        have hc3 : wr.cell? ⟨w.heap.size, 3, none⟩ = some (.slice B m d) := hblk.cell 3
        have hbs := hb.size
        by_cases hlt : k < m
        · obtain ⟨b, off, y, rfl, hbl, hy, hcy⟩ := (ht.below hb).atI hlt
          have hy1 := HRT.out _ (List.mem_of_getElem? hy)
          obtain ⟨z, rfl⟩ := Int.eq_ofNat_of_zero_le (show 0 ≤ y by omega)
          have hz : z < 32 := by omega
          have HX := Lib.hid (flat_snoc' (f := fmtT vars) hy)
          clear hy hy1
          have hTl := termT_len (x := z) HNV.out (by rw [hv.len]; exact h5)
          have hvr := (hv.below hb).more hbs
          go_wp2_with fail
          refine (termNames_any r ic A n c _ m d vars z _ (by exact hvr) h5 hz).mono ?_
          rintro e w3 ⟨A3, n3, c3, rfl, ho3, hb3⟩
          have hr3 := ho3.reads encS_len
          have hn3 : n3 ≤ 5 := by rw [← ho3.len]; have := tn_len z 0 vars; rw [hv.len] at this; omega
          have hblk3 := hblk.below hb3 hblk.lt
          have hbb3 := bth hb hb3
          have hbs3 := hbb3.size
          go_wp2_with fail
          obtain ⟨wo, rfl⟩ : ∃ wo : World, wo = wr := ⟨_, rfl⟩
          clear hc0 hc1 hc2 hc3
          go_loopw [6, 33] (fun v i wr => ∃ (j : Nat) (A4 : Option Addr) (c4 : Nat), j ≤ n3 ∧ i = .int .i64 j ∧ v = .slice A4 j c4 ∧ OwnStr wr w3.heap.size A4 j c4 (((tn z 0 vars).take j).map fmtN) ∧ Below w3.heap.size w3 wr) (fun _ i _ => n3 - (intOf i).toNat)
          case atStart => exact ⟨0, none, 0, by omega, rfl, rfl, Own.nil_, Below.refl _ _⟩
          case round =>
            obtain ⟨j, A4, c4, hj, rfl, rfl, ho4, hb4⟩ := hrel
            have hbs4 := hb4.size
            by_cases hlt2 : j < n3
            · obtain ⟨b5, off5, q, rfl, hbl5, hq, hc5⟩ := (hr3.below hb4).atS hlt2
              have hql : q.length ≤ maxLen := hvs _ (tn_sub _ _ _ _ (List.mem_of_getElem? hq))
              have HQ := Lib.hid (take_snoc' hq)
              clear hq
              go_wp2_with (first | (go_at_call 101; ((with_reducible refine (implFormatName_any q _ hql).mono ?_); rintro e w1 ⟨rfl, rfl⟩)) | (at_builtin; refine wpList_app1 encS tyStr encS_len encS_one rfl _ _ rfl w3.heap.size _ j c4 _ rfl (ho4.alloc _) (fmtN q) _ 0 1 rfl (newsS _ _ _ _ ?_) ?_ ?_ ?_ ?_; (rfl); (omega); (unfold maxLen; omega); (simp; omega); intro g6 c6 w6 ho6 hg6 hb6 hat6))
              go_roundw
              case rel => exact ⟨j + 1, _, c6, by omega, by go_num, rfl, by rw [HQ.out, List.map_append]; exact ho6, (hb4.alloc hbs4 _).trans hb6⟩
              case measure => simp [intOf]; omega
            · obtain rfl : j = n3 := by omega
              have hl4 : ((tn z 0 vars).take j).map fmtN = tnF z vars := by rw [List.take_of_length_le (by rw [ho3.len]; omega)]; rfl
              rw [hl4] at ho4
              have hr4 := ho4.reads encS_len
              have h22 : ∀ e ∈ tnF z vars, e.length ≤ 1048576 := fun e he => by have := tnF_all (x := z) HNV.out e he; omega
              have H22 := Lib.hid h22
              clear h22 hl4
              have hTl' : (joinT [58] (tnF z vars)).length ≤ 115 := hTl
              go_wp2_with (first | (go_at_call 103; ((with_reducible refine (joinTexts_any _ j _ (tnF z vars) [58] _ hr4 (by omega) H22.out (by simp)).mono ?_); rintro e w1 ⟨rfl, rfl⟩)))
              go_roundw
              case rel => exact ⟨k + 1, s ++ (32 :: 43 :: 32 :: joinT [58] (tnF z vars)), by omega, by go_num, by simp, by rw [HX.out, HS.out, fmtT, termT]; simp, by simp only [List.length_append, List.length_cons, List.length_nil]; omega, (hblk.below hb3 hblk.lt).below hb4 (hblk.below hb3 hblk.lt).lt, bth hbb3 hb4⟩
              case measure => simp [intOf]; omega
        · obtain rfl : k = m := by omega
          go_wp2_with fail
          go_ret
          exact ⟨ret_str (by rw [← HIC.out, HR.out, HS.out, List.take_of_length_le (by rw [ht.len]; omega)]), hb⟩
end Go.Proofs.Ytecebamhenlnoaa
