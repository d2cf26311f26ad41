/- The law FnCaches. -/
import Derived.Test.YtecebamhenlnoaaCg
import Derived.Test.YtecebamhenlnoaaCi
import Derived.Laws.StructEq
namespace Go.Proofs.Ytecebamhenlnoaa
open Go.RowKit
theorem eqEntryAgg (a b c d : Str) (w : World) : (Op.equalIn 10000 37 (.agg #[sv a, sv b]) (.agg #[sv c, sv d])).run Try.prog w = .ok ((a, b) == (c, d)) w := by
  have u9 := Try.underlying9
  have hS : Try.prog.underlying 37 = some (.struct (Try.prog.fieldsOf 37)) := by kernel_rfl
  have hp : Try.prog.stoodInHeld 37 = false := by kernel_rfl
  rw [show (10000 : Nat) = 9999 + 1 from rfl, run_equalIn_agg w 9999 37 _ _ hS hp]
  simp only [Program.fieldsOf, Try.underlying37]
  go_simp
  by_cases h1 : a = c <;> by_cases h2 : b = d <;> simp [h1, h2]
set_option maxHeartbeats 1000000 in
theorem sameEntries_any (A A' : Option Addr) (len len' cap cap' : Nat) (l l' : List Pair) (w : World) (hr : Reads enc2 2 w w.heap.size A len l) (hr' : Reads enc2 2 w w.heap.size A' len' l') (hlen : len ≤ maxLen) (hlen' : len' ≤ maxLen) :
    Calls Try.prog 22 #[.slice A len cap, .slice A' len' cap'] w fun e w' => e = .returned (.bool (l == l')) ∧ Below w.heap.size w w' := by
  unfold maxLen at hlen hlen'
  by_cases hn : len = len'
  · subst hn
    have hd : ((len : Int) != (len : Int)) = false := by simp
    have heq := eqEntryAgg
    go_enter Try.func22, Try.ntmps22
    go_wp2
    go_loopw [5] (fun i wr => ∃ (k : Nat), k ≤ len ∧ i = .int .i64 k ∧ l.take k = l'.take k ∧ Below w.heap.size w wr) (fun i _ => len - (intOf i).toNat)
    case atStart => exact ⟨0, by omega, rfl, by simp, Below.refl _ _⟩
    case round =>
      obtain ⟨k, hk, rfl, hf, hb⟩ := hrel
      have HF := Lib.hid hf
      clear hf
      by_cases hlt : k < len
      · obtain ⟨b, off, x, y, rfl, hbl, hx, hc0, hc1⟩ := (hr.below hb).at2 hlt
        obtain ⟨b', off', x', y', rfl, hbl', hx', hc0', hc1'⟩ := (hr'.below hb).at2 hlt
        have HX := Lib.hid hx
        have HX' := Lib.hid hx'
        clear hx hx'
        have i1 : (0 : Int) ≤ (k : Int) := by omega
        have i2 : (k : Int) < (len : Int) := by omega
        go_wp2
        go_quiet (fail)
        go_wp2
        · go_ret
          have hq := of_bne (a := (x, y)) (b := (x', y')) (by assumption)
          exact ⟨ret_bool (ne_at HX.out HX'.out hq).symm, below_drewN hb _⟩
        · have hq := of_nbne (a := (x, y)) (b := (x', y')) (by assumption)
          go_roundw
          case rel => exact ⟨k + 1, by omega, by go_num, by rw [take_snoc' HX.out, take_snoc' HX'.out, HF.out, hq], below_drewN hb _⟩
          case measure => simp [intOf]; omega
      · obtain rfl : len = k := by omega
        go_wp2
        go_ret
        exact ⟨ret_bool (eq_of_takes HF.out hr.len hr'.len).symm, hb⟩
  · have hd : ((len : Int) != (len' : Int)) = true := by simp; omega
    go_enter Try.func22, Try.ntmps22
    go_wp2
    go_ret
    exact ⟨ret_bool (ne_of_len (by rw [hr.len, hr'.len]; exact hn)).symm, Below.refl _ _⟩
theorem big_any (A : Option Addr) (n c : Nat) (w : World) (hn : n ≤ maxLen) :
    Calls Try.prog 18 #[.slice A n c] w fun e w' => e = .returned (.bool (decide ((1048576 : Int) < (n : Int)))) ∧ w = w' := by
  unfold maxLen at hn
  go_enter Try.func18, Try.ntmps18
  go_wp2
  go_ret
  exact ⟨rfl, rfl⟩
set_option maxHeartbeats 2000000 in
theorem fnCaches_walk (A : Option Addr) (n c : Nat) (bs : List UInt8) (w : World) (hr : Reads encB 1 w w.heap.size A n bs) (hn : n ≤ maxLen) :
    Calls Try.prog 4 #[.slice A n c] w fun e w' => e = .returned (.bool true) ∧ Below w.heap.size w w' := by
  go_enter Try.func4, Try.ntmps4
  go_wp2_with fail
  refine (big_any A n c _ hn).mono ?_
  rintro e w1 ⟨rfl, rfl⟩
  by_cases hbig : (1048576 : Int) < (n : Int)
  · go_wp2_with fail
    go_ret
    exact ⟨rfl, Below.refl _ _⟩
  go_wp2_with fail
  refine (drawStoreEntry_any A n c bs _ hr (by omega)).mono ?_
  rintro e w1 ⟨A1, n1, c1, l, key, rfl, ho1, hn1, hb1⟩
  have hee : ∀ x : List Pair, (x == x) = true := by simp
  have HE := Lib.hid hee
  clear hee
  go_wp2_with fail
  generalize ([110, 101, 119, 10] : Str) = out
  refine (implStore_any A1 n1 c1 l key out _ (ho1.reads enc2_len) (by omega)).mono ?_
  rintro e w2 ⟨A2, n2, c2, rfl, ho2, hb2⟩
  go_wp2_with fail
  have ho1' := ho1.below hb2
  refine (specStore_any A1 n1 c1 l key out _ (ho1'.reads enc2_len) (by omega)).mono ?_
  rintro e w3 ⟨A3, n3, c3, rfl, ho3, hb3⟩
  have hl8 := stE_len l key out
  have hl2 := ho2.len
  have hl3 := ho3.len
  obtain rfl : n2 = n3 := by omega
  have hn2 : n2 ≤ 8 := by omega
  clear hl2 hl3
  go_wp2_with fail
  refine (sameEntries_any _ _ n2 n2 _ _ _ _ _ ((ho2.below hb3).reads enc2_len) (ho3.reads enc2_len) (by unfold maxLen; omega) (by unfold maxLen; omega)).mono ?_
  rintro e w4 ⟨rfl, hb4⟩
  rw [HE.out]
  go_wp2_with fail
  have ho4 := (ho1'.below hb3).below hb4
  refine (specIsCache_any A1 n1 c1 l _ (ho4.reads enc2_len) (by omega)).mono ?_
  rintro e w5 ⟨rfl, rfl⟩
  have hb04 := bth (bth (bth hb1 hb2) hb3) hb4
  have ho34 := ho3.below hb4
  cases hc : isC l with
  | false =>
    go_wp2_with fail
    refine (sameEntries_any _ _ n2 n2 _ _ _ _ _ (((ho2.below hb3).below hb4).reads enc2_len) (ho34.reads enc2_len) (by unfold maxLen; omega) (by unfold maxLen; omega)).mono ?_
    rintro e w5 ⟨rfl, hb5⟩
    rw [HE.out]
    go_wp2_with fail
    go_ret
    exact ⟨rfl, bth hb04 hb5⟩
  | true =>
    have hf := stored_found hc key out
    have hi := stored_isC hc key out
    have hrest := rest_found hc key out
    have hlook := fun (k : Str) (w : World) (hr : Reads enc2 2 w w.heap.size A3 n2 (stE l key out)) => implLook_any A3 n2 c3 (stE l key out) k w hr (by omega)
    have HF := Lib.hid hf
    have HI := Lib.hid hi
    have HR := Lib.hid hrest
    have HL := Lib.hid hlook
    clear hf hi hrest hlook hc
    go_wp2_with fail
    refine (HL.out key _ (ho34.reads enc2_len)).mono ?_
    rintro e w5 ⟨A5, n5, c5, rfl, ho5, hb5⟩
    rw [HF.out] at ho5 ⊢
    simp only at ho5 ⊢
    have hl5 := ho5.len
    have hl3 := ho3.len
    obtain rfl : n5 = n2 := by omega
    clear hl5 hl3
    go_wp2_with fail
    refine (sameEntries_any _ _ n5 n5 _ _ _ _ _ (ho5.reads enc2_len) ((ho34.below hb5).reads enc2_len) (by unfold maxLen; omega) (by unfold maxLen; omega)).mono ?_
    rintro e w6 ⟨rfl, hb6⟩
    rw [HE.out]
    go_wp2_with fail
    refine (implIsCache_any A3 n5 c3 _ _ (((ho34.below hb5).below hb6).reads enc2_len) (by omega)).mono ?_
    rintro e w7 ⟨rfl, hb7⟩
    rw [HI.out]
    go_wp2_with fail
    have hb07 := bth (bth (bth hb04 hb5) hb6) hb7
    have ho17 := ((ho4.below hb5).below hb6).below hb7
    have ho37 := ((ho34.below hb5).below hb6).below hb7
    go_loopw [11] (fun i wr => ∃ (k : Nat), k ≤ n1 ∧ i = .int .i64 k ∧ Below w7.heap.size w7 wr) (fun i _ => n1 - (intOf i).toNat)
    case atStart => exact ⟨0, by omega, rfl, Below.refl _ _⟩
    case round =>
      obtain ⟨k, hk, rfl, hb8⟩ := hrel
      by_cases hlt : k + 1 < n1
      · have hll := ho1.len
        have ho18 := ho17.below hb8
        have ho38 := ho37.below hb8
        have hr18 := ho18.reads enc2_len
        obtain ⟨b, off, x, y, rfl, hbl, hx, hc0, hc1⟩ := hr18.at2 (k := k) (by omega)
        have hrk := HR.out k _ hx (by omega)
        clear hx hll
        have hlt' : ((k : Int) + 1) < (n1 : Int) := by omega
        go_wp2_with fail
        refine (HL.out x _ (ho38.reads enc2_len)).mono ?_
        rintro e w9 ⟨A9, n9, c9, rfl, ho9, hb9⟩
        rw [hrk.1]
        have hc0' := (hb9.cell hbl).trans hc0
        have hc1' := (hb9.cell hbl).trans hc1
        by_cases hxk : x = key
        · have hq : (!(x == key)) = false := by simp [hxk]
          have hrk2 := hrk.2
          clear hrk hxk hrk2
          go_wp2_with fail
          go_roundw
          case rel => exact ⟨k + 1, by omega, by go_num, bth hb8 hb9⟩
          case measure => simp [intOf]; omega
        · have hq : (!(x == key)) = true := by simp [hxk]
          rw [hrk.2 hxk]
          clear hrk hxk
          go_wp2_with fail
          go_roundw
          case rel => exact ⟨k + 1, by omega, by go_num, bth hb8 hb9⟩
          case measure => simp [intOf]; omega
      · go_wp2_with fail
        go_ret
        exact ⟨rfl, bth hb07 hb8⟩
end Go.Proofs.Ytecebamhenlnoaa
