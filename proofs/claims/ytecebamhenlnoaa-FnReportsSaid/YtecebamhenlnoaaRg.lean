/- What FormatReport of the program and of the reference return. -/
import Derived.Test.YtecebamhenlnoaaRe
namespace Go.Proofs.Ytecebamhenlnoaa
open Go.RowKit
def partT (p : Pair) : Str := if p.1 = [] then p.2 else 60 :: 60 :: (p.1 ++ (62 :: 62 :: 61 :: 10 :: (p.2 ++ [64, 10])))
def fmtR (l : List Pair) : Str := if repOK l = true then l.flatMap partT else []
theorem partT_len (p : Pair) (h : p.1.length ≤ 1048576 ∧ p.2.length ≤ 1048576) : (partT p).length ≤ 2097160 := by
  unfold partT; split
  · omega
  · simp only [List.length_cons, List.length_append, List.length_nil]; omega
theorem flat_snoc {α β : Type} {f : α → List β} {l : List α} {k : Nat} {x : α} (h : l[k]? = some x) : (l.take (k + 1)).flatMap f = (l.take k).flatMap f ++ f x := by
  rw [take_snoc' h, List.flatMap_append]; simp
theorem repOK_len {l : List Pair} (h : repOK l = true) : l.length ≤ 13 := by
  rw [repOK, Bool.and_eq_true] at h; simpa using h.1
set_option maxHeartbeats 2000000 in
theorem implFormatReport_any (A : Option Addr) (len cap : Nat) (l : List Pair) (w : World) (hr : Reads enc2 2 w w.heap.size A len l) (hlen : len ≤ 1048576) (hs : ∀ e ∈ l, e.1.length ≤ 1048576 ∧ e.2.length ≤ 1048576) :
    Calls Try.prog 33 #[.slice A len cap] w fun e w' => e = .returned (sv (fmtR l)) ∧ Below w.heap.size w w' := by
  go_enter Try.func33, Try.ntmps33
  go_wp2_with fail
  refine (implIsReport_any A len cap l _ hr hlen hs).mono ?_
  rintro e w1 ⟨rfl, hb1⟩
  cases hR : repOK l with
  | false =>
    go_wp2_with fail
    go_ret
    exact ⟨ret_str (by rw [fmtR, if_neg (by rw [hR]; simp)]), hb1⟩
  | true =>
    have h13 := repOK_len hR
    rw [hr.len] at h13
    have hres : fmtR l = l.flatMap partT := by rw [fmtR, if_pos hR]
    have HR := Lib.hid hres
    clear hres hR
    go_wp2_with fail
    go_loopw [3, 11] (fun v i wr => ∃ (k : Nat) (s : Str), k ≤ len ∧ i = .int .i64 k ∧ v = sv s ∧ s = (l.take k).flatMap partT ∧ s.length ≤ k * 2097160 ∧ Below w.heap.size w wr) (fun _ i _ => len - (intOf i).toNat)
    case atStart => exact ⟨0, [], by omega, rfl, rfl, rfl, by simp, hb1⟩
    case round =>
      obtain ⟨k, s, hk, rfl, rfl, hss, hsl, hb⟩ := hrel
      have HS := Lib.hid hss
      clear hss
      by_cases hlt : k < len
      · obtain ⟨b, off, x, y, rfl, hbl, hx, hc0, hc1⟩ := (hr.below hb).at2 hlt
        have hsz := hs _ (List.mem_of_getElem? hx)
        have hpl := partT_len _ hsz
        have HX := Lib.hid hx
        clear hx
        simp only at hsz
        cases hxe : x.isEmpty with
        | true =>
          have hx0 := empty_of hxe
          subst hx0
          clear hxe
          go_wp2_with fail
          go_roundw
          case rel => exact ⟨k + 1, s ++ y, by omega, by go_num, rfl, by rw [flat_snoc HX.out, HS.out]; rfl, by simp; omega, hb.alloc hb.size _⟩
          case measure => simp [intOf]; omega
        | false =>
          have hxn := ne_empty hxe
          have e1 : partT (x, y) = 60 :: 60 :: (x ++ (62 :: 62 :: 61 :: 10 :: (y ++ [64, 10]))) := by rw [partT, if_neg hxn]
          have HP := Lib.hid e1
          rw [e1] at hpl
          clear e1
          go_wp2_with fail
          go_roundw
          case rel => exact ⟨k + 1, s ++ 60 :: 60 :: (x ++ (62 :: 62 :: 61 :: 10 :: (y ++ [64, 10]))), by omega, by go_num, by simp, by rw [flat_snoc HX.out, HS.out, HP.out], by rw [List.length_append]; omega, hb.alloc hb.size _⟩
          case measure => simp [intOf]; omega
      · obtain rfl : k = len := by omega
        go_wp2_with fail
        go_ret
        exact ⟨ret_str (by rw [HR.out, HS.out, List.take_of_length_le (by rw [hr.len]; omega)]), hb⟩
set_option maxHeartbeats 2000000 in
theorem specFormatReport_any (A : Option Addr) (len cap : Nat) (l : List Pair) (w : World) (hr : Reads enc2 2 w w.heap.size A len l) (hlen : len ≤ 1048576) (hs : ∀ e ∈ l, e.1.length ≤ 1048576 ∧ e.2.length ≤ 1048576) :
    Calls Try.prog 32 #[.slice A len cap] w fun e w' => e = .returned (sv (fmtR l)) ∧ Below w.heap.size w w' := by
  go_enter Try.func32, Try.ntmps32
  go_wp2_with fail
  go_loopw [3, 4] (fun v i wr => ∃ (k : Nat) (s : Str), k ≤ len ∧ (k = 0 ∨ repOK l = true) ∧ i = .int .i64 k ∧ v = sv s ∧ s = (l.take k).flatMap partT ∧ s.length ≤ k * 2097160 ∧ Below w.heap.size w wr) (fun _ i _ => len - (intOf i).toNat)
  case atStart => exact ⟨0, [], by omega, .inl rfl, rfl, rfl, rfl, by simp, Below.refl _ _⟩
  case round =>
    obtain ⟨k, s, hk, hk0, rfl, rfl, hss, hsl, hb⟩ := hrel
    have HS := Lib.hid hss
    have HK := Lib.hid hk0
    clear hss hk0
    by_cases hlt : k < len
    · have hrr := hr.next hb
      go_wp2_with fail
      refine (specIsReport_any A len cap l _ ((hr.below hb).more hb.size) hlen hs).mono ?_
      rintro e w1 ⟨rfl, hb1⟩
      have hb' := bth hb hb1
      cases hR : repOK l with
      | false =>
        go_wp2_with fail
        go_ret
        refine ⟨ret_str ?_, hb'⟩
        rcases HK.out with h | h
        · rw [HS.out, h, fmtR, if_neg (by rw [hR]; simp)]; rfl
        · rw [hR] at h; cases h
      | true =>
        have h13 := repOK_len hR
        rw [hr.len] at h13
        obtain ⟨b, off, x, y, rfl, hbl, hx, hc0, hc1⟩ := (hr.below hb').at2 hlt
        have hsz := hs _ (List.mem_of_getElem? hx)
        have hpl := partT_len _ hsz
        have HX := Lib.hid hx
        clear hx
        simp only at hsz
        have i1 : (0 : Int) ≤ (k : Int) := by omega
        have i2 : (k : Int) < (len : Int) := by omega
        cases hxe : x.isEmpty with
        | true =>
          have hx0 := empty_of hxe
          subst hx0
          clear hxe
          go_wp2_with fail
          go_roundw
          case rel => exact ⟨k + 1, s ++ y, by omega, .inr hR, by go_num, rfl, by rw [flat_snoc HX.out, HS.out]; rfl, by simp; omega, hb'⟩
          case measure => simp [intOf]; omega
        | false =>
          have hxn := ne_empty hxe
          have e1 : partT (x, y) = 60 :: 60 :: (x ++ (62 :: 62 :: 61 :: 10 :: (y ++ [64, 10]))) := by rw [partT, if_neg hxn]
          have HP := Lib.hid e1
          rw [e1] at hpl
          clear e1
          go_wp2_with fail
          go_quiet (fail)
          go_wp2_with fail
          go_roundw
          case rel => exact ⟨k + 1, s ++ 60 :: 60 :: (x ++ (62 :: 62 :: 61 :: 10 :: (y ++ [64, 10]))), by omega, .inr hR, by go_num, by simp, by rw [flat_snoc HX.out, HS.out, HP.out], by rw [List.length_append]; omega, below_drewN hb' _⟩
          case measure => simp [intOf]; omega
    · obtain rfl : k = len := by omega
      go_wp2_with fail
      go_ret
      refine ⟨ret_str ?_, hb⟩
      rcases HK.out with h | h
      · have hl0 : l = [] := List.length_eq_zero_iff.1 (by rw [hr.len]; exact h)
        rw [HS.out, hl0, fmtR]; simp
      · rw [fmtR, if_pos h, HS.out, List.take_of_length_le (by rw [hr.len]; omega)]
end Go.Proofs.Ytecebamhenlnoaa
