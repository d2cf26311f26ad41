/- The law FnReports. -/
import Derived.Test.YtecebamhenlnoaaRm
import Derived.Test.YtecebamhenlnoaaRk
import Derived.Test.YtecebamhenlnoaaRi
import Derived.Test.YtecebamhenlnoaaDr4
import Derived.Laws.StructEq
namespace Go.Proofs.Ytecebamhenlnoaa
open Go.RowKit
set_option maxHeartbeats 1000000 in
theorem sameTexts_any (A A' : Option Addr) (len len' cap cap' : Nat) (l l' : List Str) (w : World) (hr : Reads encS 1 w w.heap.size A len l) (hr' : Reads encS 1 w w.heap.size A' len' l') (hlen : len ≤ maxLen) (hlen' : len' ≤ maxLen) :
    Calls Try.prog 49 #[.slice A len cap, .slice A' len' cap'] w fun e w' => e = .returned (.bool (l == l')) ∧ Below w.heap.size w w' := by
  unfold maxLen at hlen hlen'
  by_cases hn : len = len'
  · subst hn
    have hd : ((len : Int) != (len : Int)) = false := by simp
    go_enter Try.func49, Try.ntmps49
    go_wp2
    go_loopw [5] (fun i wr => ∃ (k : Nat), k ≤ len ∧ i = .int .i64 k ∧ l.take k = l'.take k ∧ Below w.heap.size w wr) (fun i _ => len - (intOf i).toNat)
    case atStart => exact ⟨0, by omega, rfl, by simp, Below.refl _ _⟩
    case round =>
      obtain ⟨k, hk, rfl, hf, hb⟩ := hrel
      have HF := Lib.hid hf
      clear hf
      by_cases hlt : k < len
      · obtain ⟨b, off, x, rfl, hbl, hx, hc0⟩ := (hr.below hb).atS hlt
        obtain ⟨b', off', x', rfl, hbl', hx', hc0'⟩ := (hr'.below hb).atS hlt
        have HX := Lib.hid hx
        have HX' := Lib.hid hx'
        clear hx hx'
        have i1 : (0 : Int) ≤ (k : Int) := by omega
        have i2 : (k : Int) < (len : Int) := by omega
        go_wp2
        go_quiet (fail)
        go_wp2
        · go_ret
          have hq := of_bne (a := x) (b := x') (by assumption)
          exact ⟨ret_bool (ne_at HX.out HX'.out hq).symm, below_drewN hb _⟩
        · have hq := of_nbne (a := x) (b := x') (by assumption)
          go_roundw
          case rel => exact ⟨k + 1, by omega, by go_num, by rw [take_snoc' HX.out, take_snoc' HX'.out, HF.out, hq], below_drewN hb _⟩
          case measure => simp [intOf]; omega
      · obtain rfl : len = k := by omega
        go_wp2
        go_ret
        exact ⟨ret_bool (eq_of_takes HF.out hr.len hr'.len).symm, hb⟩
  · have hd : ((len : Int) != (len' : Int)) = true := by simp; omega
    go_enter Try.func49, Try.ntmps49
    go_wp2
    go_ret
    exact ⟨ret_bool (ne_of_len (by rw [hr.len, hr'.len]; exact hn)).symm, Below.refl _ _⟩
theorem eqPartAgg (a b c d : Str) (w : World) : (Op.equalIn 10000 68 (.agg #[sv a, sv b]) (.agg #[sv c, sv d])).run Try.prog w = .ok ((a, b) == (c, d)) w := by
  have u9 := Try.underlying9
  have hS : Try.prog.underlying 68 = some (.struct (Try.prog.fieldsOf 68)) := by kernel_rfl
  have hp : Try.prog.stoodInHeld 68 = false := by kernel_rfl
  rw [show (10000 : Nat) = 9999 + 1 from rfl, run_equalIn_agg w 9999 68 _ _ hS hp]
  simp only [Program.fieldsOf, Try.underlying68]
  go_simp
  by_cases h1 : a = c <;> by_cases h2 : b = d <;> simp [h1, h2]
theorem bigR_any (A : Option Addr) (n c : Nat) (w : World) (hn : n ≤ maxLen) :
    Calls Try.prog 18 #[.slice A n c] w fun e w' => e = .returned (.bool (decide ((1048576 : Int) < (n : Int)))) ∧ w = w' := by
  unfold maxLen at hn
  go_enter Try.func18, Try.ntmps18
  go_wp2
  go_ret
  exact ⟨rfl, rfl⟩
theorem ndl_app {a b : Str} (ha : ndl a = true) (hb : ndl b = true) : ndl (a ++ b) = true := by
  induction a with
  | nil => exact hb
  | cons c t ih =>
    rw [List.cons_append, ndl_cons]
    rw [ndl_cons] at ha
    by_cases ht : t = []
    · subst ht
      rw [if_pos rfl] at ha
      by_cases hbe : b = []
      · subst hbe; simpa using ha
      · simp [hbe, hb]
    · rw [if_neg ht] at ha
      rw [if_neg (by simp [ht])]
      exact ih ha
theorem ndl_last (a : Str) : ndl (a ++ [10]) = true := by
  induction a with
  | nil => rfl
  | cons c t ih => rw [List.cons_append, ndl_cons, if_neg (by simp)]; exact ih
theorem parts_ndl (l : List Pair) (prev : Bool) (names : List Str) (h : irep prev names l = true) : ndl (l.flatMap partT) = true := by
  induction l generalizing prev names with
  | nil => rfl
  | cons p t ih =>
    rw [irep] at h
    cases hs : stp prev names p with
    | none => rw [hs] at h; cases h
    | some n =>
      rw [hs] at h
      have hn : ndl p.2 = true := by
        unfold stp at hs
        by_cases h1 : ndl p.2 = false
        · rw [if_pos h1] at hs; cases hs
        · simpa using h1
      rw [List.flatMap_cons]
      refine ndl_app ?_ (ih _ _ h)
      unfold partT
      split
      · exact hn
      · have e : (60 :: 60 :: (p.1 ++ 62 :: 62 :: 61 :: 10 :: (p.2 ++ [64, 10])) : Str) = (60 :: 60 :: (p.1 ++ 62 :: 62 :: 61 :: 10 :: (p.2 ++ [64]))) ++ [10] := by simp
        rw [e]; exact ndl_last _
theorem read_back {l : List Pair} (h : repOK l = true) (h4 : (fmtR l).length ≤ 4000) : pR (fmtR l) = some l := by
  have hi : irep false [] l = true := by rw [repOK, Bool.and_eq_true] at h; exact h.2
  have hf : fmtR l = l.flatMap partT := by rw [fmtR, if_pos h]
  have hp := parse_parts l [] [] hi
  rw [hf] at h4 ⊢
  rw [pR, if_neg (by rintro (h | h); (omega); (rw [parts_ndl l _ _ hi] at h; cases h)), hp]
  simp [h]
theorem read_long {l : List Pair} (h4 : 4000 < (fmtR l).length) : pR (fmtR l) = none := by
  rw [pR, if_pos (.inl h4)]
theorem small_len (l : List Pair) (h : small l) : (l.flatMap partT).length ≤ l.length * 624 := by
  induction l with
  | nil => simp
  | cons p t ih =>
    have hp := h p (by simp)
    have := ih (fun e he => h e (by simp [he]))
    have hl : (partT p).length ≤ 624 := by
      unfold partT; split
      · omega
      · simp only [List.length_cons, List.length_append, List.length_nil]; omega
    rw [List.flatMap_cons, List.length_append, List.length_cons]; omega
theorem fmtR_len {l : List Pair} (h : small l) (hn : l.length ≤ 10) : (fmtR l).length ≤ 6240 := by
  have := small_len l h
  unfold fmtR; split
  · omega
  · simp
set_option maxRecDepth 100000 in
set_option maxHeartbeats 4000000 in
theorem fnReports_walk (A : Option Addr) (n c : Nat) (bs : List UInt8) (w : World) (hr : Reads encB 1 w w.heap.size A n bs) (hn : n ≤ maxLen) :
    Calls Try.prog 12 #[.slice A n c] w fun e w' => e = .returned (.bool true) ∧ Below w.heap.size w w' := by
  go_enter Try.func12, Try.ntmps12
  go_wp2_with fail
  refine (bigR_any A n c _ hn).mono ?_
  rintro e w1 ⟨rfl, rfl⟩
  by_cases hbig : (1048576 : Int) < (n : Int)
  · go_wp2_with fail
    go_ret
    exact ⟨rfl, Below.refl _ _⟩
  go_wp2_with fail
  refine (drawFormatReport_any A n c bs _ hr (by omega)).mono ?_
  rintro e w1 ⟨A1, n1, c1, l, rfl, ho1, hn1, hsm, hb1⟩
  have hz : ∀ e ∈ l, e.1.length ≤ 1048576 ∧ e.2.length ≤ 1048576 := fun e he => by have := hsm e he; omega
  have hfl := fmtR_len hsm (by rw [ho1.len]; exact hn1)
  have hfl' : ((fmtR l).length : Int) ≤ 6240 := by omega
  have hlen1 := ho1.len
  have HL1 := Lib.hid hlen1
  have hes : ∀ x : List Str, (x == x) = true := by simp
  have HES := Lib.hid hes
  clear hes hlen1 hfl
  go_wp2_with fail
  refine (implFormatReport_any A1 n1 c1 l _ (ho1.reads enc2_len) (by omega) hz).mono ?_
  rintro e w2 ⟨rfl, hb2⟩
  go_wp2_with fail
  replace ho1 := ho1.below hb2
  refine (specFormatReport_any A1 n1 c1 l _ (ho1.reads enc2_len) (by omega) hz).mono ?_
  rintro e w3 ⟨rfl, hb3⟩
  go_wp2_with fail
  replace ho1 := ho1.below hb3
  refine (implIsReport_any A1 n1 c1 l _ (ho1.reads enc2_len) (by omega) hz).mono ?_
  rintro e w4 ⟨rfl, hb4⟩
  go_wp2_with fail
  replace ho1 := ho1.below hb4
  refine (specIsReport_any A1 n1 c1 l _ (ho1.reads enc2_len) (by omega) hz).mono ?_
  rintro e w5 ⟨rfl, hb5⟩
  replace ho1 := ho1.below hb5
  have hrr : (repOK l != repOK l) = false := by simp
  have hb05 := bth (bth (bth (bth hb1 hb2) hb3) hb4) hb5
  clear hb1 hb2 hb3 hb4 hb5
  go_wp2_with fail
  have hP : ∃ (res : List Pair), (pR (fmtR l)).isSome = decide (((fmtR l).length : Int) ≤ 4000) ∧ (pR (fmtR l)).getD [] = res ∧ (res = [] ∨ (res = l ∧ repOK l = true)) := by
    cases hR : repOK l with
    | false =>
      have hf : fmtR l = [] := by rw [fmtR, if_neg (by rw [hR]; simp)]
      rw [hf]
      exact ⟨[], by decide, by decide, .inl rfl⟩
    | true =>
      by_cases h4 : (fmtR l).length ≤ 4000
      · rw [read_back hR h4]
        exact ⟨l, by simp; omega, rfl, .inr ⟨rfl, rfl⟩⟩
      · rw [read_long (by omega)]
        exact ⟨[], by simp; omega, rfl, .inl rfl⟩
  obtain ⟨res, hok, hres, hcase⟩ := hP
  have hspec := fun (w : World) => specParseReport_any (fmtR l) w (by omega)
  have himpl := fun (w : World) => implParseReport_any (fmtR l) w (by omega)
  unfold PRPost at hspec himpl
  rw [hok, hres] at hspec himpl
  have H1 := Lib.hid hspec
  have H2 := Lib.hid himpl
  have HC := Lib.hid hcase
  clear hspec himpl hok hres hcase
  generalize fmtR l = s at H1 H2 hfl' ⊢
  refine (H2.out _).mono ?_
  rintro e w6 ⟨A6, n6, c6, rfl, ho6, hn6, hb6⟩
  go_wp2_with fail
  refine (H1.out _).mono ?_
  rintro e w7 ⟨A7, n7, c7, rfl, ho7, hn7, hb7⟩
  replace ho1 := (ho1.below hb6).below hb7
  replace ho6 := ho6.below hb7
  have hl6 := ho6.len
  have hl7 := ho7.len
  obtain rfl : n7 = n6 := by omega
  clear hl6 hl7 hrr
  have hk2 : ((n7 : Int) != (n7 : Int)) = false := by simp
  have hb07 := bth (bth hb05 hb6) hb7
  clear hb05 hb6 hb7
  go_wp2_with fail
  clear hk2
  have hzr : ∀ e ∈ res, e.1.length ≤ 1048576 ∧ e.2.length ≤ 1048576 := by
    rcases HC.out with h | ⟨h, _⟩
    · rw [h]; simp
    · rw [h]; exact hz
  go_loopw [9] (fun i wr => ∃ k : Nat, k ≤ n7 ∧ i = .int .i64 k ∧ Below w7.heap.size w7 wr) (fun i _ => n7 - (intOf i).toNat)
  case atStart => exact ⟨0, by omega, rfl, Below.refl _ _⟩
  case round =>
    obtain ⟨k, hk, rfl, hb8⟩ := hrel
    replace ho1 := ho1.below hb8
    replace ho6 := ho6.below hb8
    replace ho7 := ho7.below hb8
    by_cases hlt : k < n7
    · have hRL : repOK l = true ∧ res = l := by
        rcases HC.out with h | ⟨h, h'⟩
        · have := ho7.len; rw [h] at this; simp at this; omega
        · exact ⟨h', h⟩
      obtain ⟨hR, hRL⟩ := hRL
      subst hRL
      have HRr := Lib.hid hR
      clear hR
      have hn17 : n1 = n7 := by have := ho7.len; have := HL1.out; omega
      subst hn17
      obtain ⟨b1, off1, x, y, rfl, hbl1, hx, hc10, hc11⟩ := (ho1.reads enc2_len).at2 hlt
      obtain ⟨b6, off6, x6, y6, rfl, hbl6, hx6, hc60, hc61⟩ := (ho6.reads enc2_len).at2 hlt
      obtain ⟨b7, off7, x7, y7, rfl, hbl7, hx7, hc70, hc71⟩ := (ho7.reads enc2_len).at2 hlt
      rw [hx] at hx6 hx7
      injection hx6 with hx6; injection hx6 with hx6 hy6
      injection hx7 with hx7; injection hx7 with hx7 hy7
      subst hx6 hy6 hx7 hy7
      clear hx
      have hrr := ho1.reads enc2_len
      have hcon := fun (W : World) (hr : Reads enc2 2 W W.heap.size (some ⟨b1, off1, none⟩) n1 res) => specIsReport_any (some ⟨b1, off1, none⟩) n1 c1 res W hr (by omega) hz
      rw [HRr.out] at hcon
      have HCN := Lib.hid hcon
      clear hcon
      have heq := eqPartAgg
      have i1 : (0 : Int) ≤ (k : Int) := by omega
      have i2 : (k : Int) < (n1 : Int) := by omega
      go_wp2_with fail
      go_region_held3 (fun w' => (w'.cell? ⟨b1, off1 + k * 2, none⟩ = some (sv x) ∧ w'.cell? ⟨b1, off1 + k * 2 + 1, none⟩ = some (sv y)) ∧ (w'.cell? ⟨b6, off6 + k * 2, none⟩ = some (sv x) ∧ w'.cell? ⟨b6, off6 + k * 2 + 1, none⟩ = some (sv y)) ∧ (w'.cell? ⟨b7, off7 + k * 2, none⟩ = some (sv x) ∧ w'.cell? ⟨b7, off7 + k * 2 + 1, none⟩ = some (sv y)))
        (first | exact ⟨⟨hc10, hc11⟩, ⟨hc60, hc61⟩, ⟨hc70, hc71⟩⟩ | exact ⟨⟨(hb9.cell hbl1).trans hc10, (hb9.cell hbl1).trans hc11⟩, ⟨(hb9.cell hbl6).trans hc60, (hb9.cell hbl6).trans hc61⟩, ⟨(hb9.cell hbl7).trans hc70, (hb9.cell hbl7).trans hc71⟩⟩)
        (first | (go_at_call 28; refine (HCN.out _ ?_).mono ?_; (exact hrr); rintro e w9 ⟨rfl, hb9⟩))
      go_wp2_with fail
      go_roundw
      case rel => exact ⟨k + 1, by omega, by go_num, bth hb8.drew hb9⟩
      case measure => simp [intOf]; omega
    · go_wp2_with fail
      refine (implChunkSources_any A7 n7 c7 res _ (ho7.reads enc2_len) (by omega) hzr).mono ?_
      rintro e w9 ⟨A9, n9, c9, rfl, ho9, _, hb9⟩
      go_wp2_with fail
      replace ho7 := ho7.below hb9
      refine (specChunkSources_any A7 n7 c7 res _ (ho7.reads enc2_len) (by omega) hzr).mono ?_
      rintro e w10 ⟨A10, n10, c10, rfl, ho10, _, hb10⟩
      have hl9 := ho9.len
      have hl10 := ho10.len
      obtain rfl : n10 = n9 := by omega
      clear hl9 hl10
      go_wp2_with fail
      refine (sameTexts_any _ _ n10 n10 _ _ _ _ _ ((ho9.below hb10).reads encS_len) (ho10.reads encS_len) (by unfold maxLen; omega) (by unfold maxLen; omega)).mono ?_
      rintro e w11 ⟨rfl, hb11⟩
      rw [HES.out]
      go_wp2_with fail
      go_ret
      exact ⟨rfl, bth (bth (bth (bth hb07 hb8) hb9) hb10) hb11⟩
end Go.Proofs.Ytecebamhenlnoaa
