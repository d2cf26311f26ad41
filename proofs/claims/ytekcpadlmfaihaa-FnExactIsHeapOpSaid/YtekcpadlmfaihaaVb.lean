/- Labels and names of vectors: what labelsValid, allEmpty and their kin return. -/
import Derived.Test.YtekcpadlmfaihaaVa
namespace Go.Proofs.Ytekcpadlmfaihaa
open Go.RowKit
theorem Reads.tk {α : Type} {enc : α → List Value} {s : Nat} {w : World} {B n k : Nat} {A : Option Addr} {l : List α} (h : Reads enc s w B A n l) (hk : k ≤ n) : Reads enc s w B A k (l.take k) := by
  refine ⟨by rw [List.length_take, h.1]; omega, fun h0 => ?_⟩
  obtain ⟨b, off, e, hb, hc⟩ := h.2 (by omega)
  refine ⟨b, off, e, hb, fun i x j u hx hu => hc i x j u ?_ hu⟩
  rw [List.getElem?_take] at hx
  split at hx
  · exact hx
  · cases hx
def labF : List Str → List Str → Bool
  | _, [] => true
  | seen, e :: t => (!e.isEmpty && decide (e.length ≤ 60) && !seen.contains e) && labF (seen ++ [e]) t
def labV (l : List Str) (most : Nat) : Bool := decide (l.length ≤ most) && labF [] l
theorem labF_drop {l : List Str} {k : Nat} {e : Str} (h : l[k]? = some e) : labF (l.take k) (l.drop k) = ((!e.isEmpty && decide (e.length ≤ 60) && !(l.take k).contains e) && labF (l.take (k + 1)) (l.drop (k + 1))) := by
  obtain ⟨hk, he⟩ := List.getElem?_eq_some_iff.1 h
  rw [List.drop_eq_getElem_cons hk, he, labF, take_snoc' h]
set_option maxHeartbeats 2000000 in
theorem labelsValid_any (A : Option Addr) (n c : Nat) (l : List Str) (most : Nat) (w : World) (hr : Reads encS 1 w w.heap.size A n l) (hs : ∀ e ∈ l, e.length ≤ maxLen) (hn : n ≤ c) (hc : c ≤ maxLen) (hm : (most : Int) ≤ 1000) :
    Calls Try.prog 117 #[.slice A n c, .int .i64 most] w fun e w' => e = .returned (.bool (labV l most)) ∧ Below w.heap.size w w' := by
  unfold maxLen at hc
  have hll := hr.len
  by_cases hq : most < n
  · have hd : decide ((most : Int) < (n : Int)) = true := by simp; omega
    have HR := Lib.hid (show labV l most = false by rw [labV, hll, decide_eq_false (by omega)]; rfl)
    clear hll
    go_enter Try.func117, Try.ntmps117
    go_wp2_with fail
    go_ret
    exact ⟨ret_bool HR.out.symm, Below.refl _ _⟩
  have HR := Lib.hid (show labV l most = labF [] l by rw [labV, hll, decide_eq_true (by omega)]; rfl)
  have HL := Lib.hid hll
  have hd : decide ((most : Int) < (n : Int)) = false := by simp; omega
  clear hll
  go_enter Try.func117, Try.ntmps117
  go_wp2_with fail
  go_loop [13] (fun i => ∃ k : Nat, k ≤ n ∧ i = .int .i64 k ∧ labF [] l = labF (l.take k) (l.drop k)) (fun i => n - (intOf i).toNat)
  case atStart => exact ⟨0, by omega, rfl, rfl⟩
  case round =>
    obtain ⟨k, hk, rfl, hf⟩ := hrel
    have HF := Lib.hid hf
    clear hf
    by_cases hlt : k < n
    · obtain ⟨b, off, x, rfl, hbl, hx, hc0⟩ := hr.atS hlt
      have hxl : x.length ≤ 9223372036854775807 := hs _ (List.mem_of_getElem? hx)
      have HD := Lib.hid (labF_drop hx)
      have hbad : (!x.isEmpty && decide (x.length ≤ 60) && !(l.take k).contains x) = false → labV l most = false := fun h => by rw [HR.out, HF.out, HD.out, h]; rfl
      have HB := Lib.hid hbad
      clear hx hbad
      have hrt := hr.tk (k := k) (by omega)
      cases hxe : x.isEmpty with
      | true =>
        obtain rfl : x = [] := by simpa using hxe
        go_wp2_with fail
        go_ret
        exact ⟨ret_bool (HB.out rfl).symm, Below.refl _ _⟩
      | false =>
        by_cases h60 : (60 : Int) < (x.length : Int)
        · go_wp2_with fail
          go_ret
          exact ⟨ret_bool (HB.out (by rw [hxe, decide_eq_false (by omega)]; rfl)).symm, Below.refl _ _⟩
        have hd60 : decide ((60 : Int) < (x.length : Int)) = false := by simp; omega
        go_wp2_with fail
        refine (hasText_any _ k _ _ x _ hrt (by unfold maxLen; omega)).mono ?_
        rintro e w1 ⟨rfl, rfl⟩
        cases hct : (l.take k).contains x with
        | true =>
          go_wp2_with fail
          go_ret
          exact ⟨ret_bool (HB.out (by rw [hct]; simp)).symm, Below.refl _ _⟩
        | false =>
          go_wp2_with fail
          go_round
          case rel => exact ⟨k + 1, by omega, by go_num, by rw [HF.out, HD.out, hxe, hct, decide_eq_true (by omega)]; rfl⟩
          case measure => simp [intOf]; omega
    · obtain rfl : k = n := by omega
      go_wp2_with fail
      go_ret
      exact ⟨ret_bool (by rw [HR.out, HF.out, List.drop_of_length_le (by rw [HL.out]; omega)]; rfl), Below.refl _ _⟩
theorem ix_first (l : List Str) (e : Str) (k i : Nat) (h : l[k]? = some e) : decide (ix l e i < ((i + k : Nat) : Int)) = (l.take k).contains e := by
  induction l generalizing k i with
  | nil => simp at h
  | cons a t ih =>
    cases k with
    | zero => simp at h; subst h; simp [ix]
    | succ k =>
      simp at h
      rw [ix, List.take_succ_cons, List.contains_cons]
      by_cases hae : a = e
      · subst hae; simp; omega
      · rw [if_neg hae, show i + (k + 1) = i + 1 + k by omega, ih k (i + 1) h]
        have : (e == a) = false := by simpa using fun h' => hae h'.symm
        rw [this]; rfl
set_option maxHeartbeats 2000000 in
theorem l4Labels_any (A : Option Addr) (n c : Nat) (l : List Str) (most : Nat) (w : World) (hr : Reads encS 1 w w.heap.size A n l) (hs : ∀ e ∈ l, e.length ≤ maxLen) (hn : n ≤ c) (hc : c ≤ maxLen) (hm : (most : Int) ≤ 1000) :
    Calls Try.prog 96 #[.slice A n c, .int .i64 most] w fun e w' => e = .returned (.bool (labV l most)) ∧ Below w.heap.size w w' := by
  unfold maxLen at hc
  have HL := Lib.hid hr.len
  go_enter Try.func96, Try.ntmps96
  go_wp2_with fail
  go_loopw [5] (fun i wr => ∃ k : Nat, k ≤ n ∧ k ≤ most + 1 ∧ i = .int .i64 k ∧ labF [] l = labF (l.take k) (l.drop k) ∧ Below w.heap.size w wr) (fun i _ => n - (intOf i).toNat)
  case atStart => exact ⟨0, by omega, by omega, rfl, rfl, Below.refl _ _⟩
  case round =>
    obtain ⟨k, hk, hkm, rfl, hf, hb⟩ := hrel
    have HF := Lib.hid hf
    clear hf
    by_cases hlt : k < n
    · by_cases hkm2 : k ≤ most
      · obtain ⟨b, off, x, rfl, hbl, hx, hc0⟩ := (hr.below hb).atS hlt
        have hxl : x.length ≤ 9223372036854775807 := hs _ (List.mem_of_getElem? hx)
        have HD := Lib.hid (labF_drop hx)
        have hix := ix_first l x k 0 hx
        rw [Nat.zero_add] at hix
        have hbad : (!x.isEmpty && decide (x.length ≤ 60) && !(l.take k).contains x) = false → labV l most = false := fun h => by rw [labV, HF.out, HD.out, h]; simp
        have HB := Lib.hid hbad
        clear hx hbad
        have i1 : (0 : Int) ≤ (k : Int) := by omega
        have i2 : (k : Int) < (n : Int) := by omega
        have hr2 := (hr.below hb).more hb.size
        cases hxe : x.isEmpty with
        | true =>
          obtain rfl : x = [] := by simpa using hxe
          go_wp2_with fail
          go_ret
          exact ⟨ret_bool (HB.out rfl).symm, hb⟩
        | false =>
          by_cases h60 : (60 : Int) < (x.length : Int)
          · go_wp2_with fail
            go_ret
            exact ⟨ret_bool (HB.out (by rw [hxe, decide_eq_false (by omega)]; rfl)).symm, hb⟩
          have hd60 : decide ((60 : Int) < (x.length : Int)) = false := by simp; omega
          go_wp2_with fail
          refine (l1Find_any _ n _ l x _ hr2 (by unfold maxLen; omega)).mono ?_
          rintro e w1 ⟨rfl, rfl⟩
          cases hct : (l.take k).contains x with
          | true =>
            rw [hct] at hix
            go_wp2_with fail
            go_ret
            exact ⟨ret_bool (HB.out (by rw [hct]; simp)).symm, hb⟩
          | false =>
            rw [hct] at hix
            go_wp2_with fail
            go_roundw
            case rel => exact ⟨k + 1, by omega, by omega, by go_num, by rw [HF.out, HD.out, hxe, hct, decide_eq_true (by omega)]; rfl, hb⟩
            case measure => simp [intOf]; omega
      · have hd1 : decide ((k : Int) ≤ (most : Int)) = false := by simp; omega
        have hd2 : decide ((n : Int) ≤ (most : Int)) = false := by simp; omega
        go_wp2_with fail
        go_ret
        exact ⟨ret_bool (by rw [labV, HL.out, decide_eq_false (by omega)]; rfl), hb⟩
    · obtain rfl : k = n := by omega
      have hres : labV l most = decide (k ≤ most) := by
        rw [labV, HF.out, List.drop_of_length_le (by rw [HL.out]; omega), HL.out, labF, Bool.and_true]
      have HRs := Lib.hid hres
      clear hres
      go_wp2_with fail
      go_ret
      exact ⟨ret_bool HRs.out.symm, hb⟩
def allE (l : List Str) : Bool := l.all List.isEmpty
set_option maxHeartbeats 1000000 in
theorem allEmpty_any (A : Option Addr) (n c : Nat) (l : List Str) (w : World) (hr : Reads encS 1 w w.heap.size A n l) (hn : n ≤ maxLen) :
    Calls Try.prog 118 #[.slice A n c] w fun e w' => e = .returned (.bool (allE l)) ∧ Below w.heap.size w w' := by
  unfold maxLen at hn
  have HL := Lib.hid hr.len
  go_enter Try.func118, Try.ntmps118
  go_wp2_with fail
  go_loop [7] (fun i => ∃ k : Nat, k ≤ n ∧ i = .int .i64 k ∧ (l.take k).all List.isEmpty = true) (fun i => n - (intOf i).toNat)
  case atStart => exact ⟨0, by omega, rfl, by simp⟩
  case round =>
    obtain ⟨k, hk, rfl, hf⟩ := hrel
    have HF := Lib.hid hf
    clear hf
    by_cases hlt : k < n
    · obtain ⟨b, off, x, rfl, hbl, hx, hc0⟩ := hr.atS hlt
      have HX := Lib.hid hx
      clear hx
      cases hxe : x.isEmpty with
      | true =>
        obtain rfl : x = [] := by simpa using hxe
        go_wp2_with fail
        go_round
        case rel => exact ⟨k + 1, by omega, by go_num, all_snoc HX.out HF.out rfl⟩
        case measure => simp [intOf]; omega
      | false =>
        go_wp2_with fail
        go_ret
        exact ⟨ret_bool (all_bad HX.out hxe).symm, Below.refl _ _⟩
    · obtain rfl : k = n := by omega
      go_wp2_with fail
      go_ret
      exact ⟨ret_bool (by have := HF.out; rw [List.take_of_length_le (by rw [HL.out]; omega)] at this; exact this.symm), Below.refl _ _⟩
def named (l : List Str) : Bool := l.all (fun s => decide (s.length ≤ 60)) && (l.isEmpty || !allE l)
set_option maxHeartbeats 1000000 in
theorem l4Named_any (A : Option Addr) (n c : Nat) (l : List Str) (w : World) (hr : Reads encS 1 w w.heap.size A n l) (hs : ∀ e ∈ l, e.length ≤ maxLen) (hn : n ≤ maxLen) :
    Calls Try.prog 95 #[.slice A n c] w fun e w' => e = .returned (.bool (named l)) ∧ Below w.heap.size w w' := by
  unfold maxLen at hn
  have HL := Lib.hid hr.len
  obtain ⟨p0, hp0⟩ : ∃ p0 : Bool, ((n : Int) == 0) = p0 := ⟨_, rfl⟩
  go_enter Try.func95, Try.ntmps95
  go_wp2_with fail
  have HP := Lib.hid hp0
  clear hp0
  go_loop [3, 4] (fun v i => ∃ (k : Nat) (q : Bool), k ≤ n ∧ i = .int .i64 k ∧ v = .bool q ∧ (l.take k).all (fun s => decide (s.length ≤ 60)) = true ∧ q = (p0 || !allE (l.take k))) (fun _ i => n - (intOf i).toNat)
  case atStart => exact ⟨0, p0, by omega, rfl, rfl, by simp, by simp [allE]⟩
  case round =>
    obtain ⟨k, q, hk, rfl, rfl, hf, hq⟩ := hrel
    have HF := Lib.hid hf
    have HQ := Lib.hid hq
    clear hf hq
    by_cases hlt : k < n
    · obtain ⟨b, off, x, rfl, hbl, hx, hc0⟩ := hr.atS hlt
      have hxl : x.length ≤ 9223372036854775807 := hs _ (List.mem_of_getElem? hx)
      have HX := Lib.hid hx
      have HT := Lib.hid (take_snoc' hx)
      clear hx
      have i1 : (0 : Int) ≤ (k : Int) := by omega
      have i2 : (k : Int) < (n : Int) := by omega
      by_cases h60 : (60 : Int) < (x.length : Int)
      · go_wp2_with fail
        go_ret
        exact ⟨ret_bool (by rw [named, all_bad HX.out (decide_eq_false (by omega))]; rfl), Below.refl _ _⟩
      have hd60 : decide ((60 : Int) < (x.length : Int)) = false := by simp; omega
      have hall := all_snoc HX.out HF.out (decide_eq_true (show x.length ≤ 60 by omega))
      have HA := Lib.hid hall
      clear hall
      have hq2 : (q || !x.isEmpty) = (p0 || !allE (l.take (k + 1))) := by
        rw [HQ.out, HT.out]
        unfold allE
        rw [List.all_append]
        cases p0 <;> cases (l.take k).all List.isEmpty <;> simp
      have HQ2 := Lib.hid hq2
      clear hq2
      cases q with
      | true =>
        go_wp2_with fail
        go_round
        case rel => exact ⟨k + 1, true, by omega, by go_num, rfl, HA.out, HQ2.out⟩
        case measure => simp [intOf]; omega
      | false =>
        cases hxe : x.isEmpty with
        | true =>
          rw [hxe] at HQ2
          obtain rfl : x = [] := by simpa using hxe
          go_wp2_with fail
          go_round
          case rel => exact ⟨k + 1, false, by omega, by go_num, rfl, HA.out, HQ2.out⟩
          case measure => simp [intOf]; omega
        | false =>
          rw [hxe] at HQ2
          go_wp2_with fail
          go_round
          case rel => exact ⟨k + 1, true, by omega, by go_num, rfl, HA.out, HQ2.out⟩
          case measure => simp [intOf]; omega
    · obtain rfl : k = n := by omega
      have hres : named l = q := by
        have h1 := HF.out
        have h2 := HQ.out
        rw [List.take_of_length_le (by rw [HL.out]; omega)] at h1 h2
        rw [named, h1, h2, ← HP.out, Bool.true_and]
        congr 1
        rw [← HL.out, Bool.eq_iff_iff]; simp
      have HRs := Lib.hid hres
      clear hres
      go_wp2_with fail
      go_ret
      exact ⟨ret_bool HRs.out.symm, Below.refl _ _⟩
end Go.Proofs.Ytekcpadlmfaihaa
