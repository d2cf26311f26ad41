/- The law's own helpers for lists of texts and of numbers: size, copy, compare. -/
import Derived.Test.YtekcpadlmfaihaaPs
namespace Go.Proofs.Ytekcpadlmfaihaa
open Go.RowKit
theorem neI {x y : Int} (h : (x != y) = true) : ¬ x = y := by simpa using h
theorem eqI {x y : Int} (h : (x != y) = false) : x = y := by simpa using h
def szT : List Str → Int → Int
  | [], n => n
  | e :: t, n => if n < e.length then -1 else szT t (n - e.length)
def szTs (l : List Str) (n : Int) : Int := if n < l.length then -1 else szT l (n - l.length)
theorem szT_drop (l : List Str) (k : Nat) (e : Str) (r : Int) (h : l[k]? = some e) : szT (l.drop k) r = if r < e.length then -1 else szT (l.drop (k + 1)) (r - e.length) := by
  obtain ⟨hk, he⟩ := List.getElem?_eq_some_iff.1 h
  rw [List.drop_eq_getElem_cons hk, he, szT]
theorem szT_sizes (l : List Str) (n : Int) (h : 0 ≤ szT l n) : (∀ e ∈ l, (e.length : Int) ≤ n) ∧ szT l n ≤ n := by
  induction l generalizing n with
  | nil => exact ⟨by simp, Int.le_refl _⟩
  | cons a t ih =>
    rw [szT] at h ⊢
    split at h
    · omega
    · rename_i hn
      rw [if_neg hn]
      have := ih _ h
      refine ⟨fun e he => ?_, by omega⟩
      rcases List.mem_cons.1 he with rfl | he
      · omega
      · have := this.1 e he; omega
theorem szTs_sizes {l : List Str} {n : Int} (h : 0 ≤ szTs l n) : (l.length : Int) ≤ n ∧ (∀ e ∈ l, (e.length : Int) ≤ n) ∧ szTs l n ≤ n := by
  unfold szTs at h ⊢
  split at h
  · omega
  · rename_i hn
    rw [if_neg hn]
    have := szT_sizes l _ h
    exact ⟨by omega, fun e he => by have := this.1 e he; omega, by omega⟩
set_option maxHeartbeats 1000000 in
theorem szStringS_any (A : Option Addr) (len cap : Nat) (l : List Str) (n : Int) (w : World) (hr : Reads encS 1 w w.heap.size A len l) (hs : ∀ e ∈ l, e.length ≤ maxLen) (hlen : len ≤ maxLen) (h0 : 0 ≤ n) (h1 : n ≤ 1048576) :
    Calls Try.prog 36 #[.slice A len cap, .int .i64 n] w fun e w' => e = .returned (.int .i64 (szTs l n)) ∧ w = w' := by
  unfold maxLen at hlen
  by_cases hn : n < len
  · go_enter Try.func36, Try.ntmps36
    go_wp2
    go_ret
    exact ⟨ret_int (by rw [szTs, hr.len, if_pos hn]), rfl⟩
  · have hd : decide (n - (len : Int) < 0) = false := by simp; omega
    go_enter Try.func36, Try.ntmps36
    go_wp2
    go_loop [1, 5] (fun m i => ∃ (k : Nat) (r : Int), k ≤ len ∧ i = .int .i64 k ∧ m = .int .i64 r ∧ 0 ≤ r ∧ r ≤ 1048576 ∧ szTs l n = szT (l.drop k) r) (fun _ i => len - (intOf i).toNat)
    case atStart => exact ⟨0, n - len, by omega, rfl, rfl, by omega, by omega, by rw [szTs, hr.len, if_neg (by omega)]; rfl⟩
    case round =>
      obtain ⟨k, r, hk, rfl, rfl, hr0, hr1, hsz⟩ := hrel
      have HS := Lib.hid hsz
      clear hsz
      by_cases hlt : k < len
      · obtain ⟨b, off, x, rfl, hbl, hx, hc0⟩ := hr.atS hlt
        have hm : x.length ≤ 9223372036854775807 := hs _ (List.mem_of_getElem? hx)
        have HD := Lib.hid (szT_drop l k _ r hx)
        clear hx
        by_cases hq : r < x.length
        · go_wp2
          go_ret
          exact ⟨ret_int (by rw [HS.out, HD.out, if_pos hq]), rfl⟩
        · go_wp2
          go_round
          case rel => exact ⟨k + 1, _, by omega, by go_num, rfl, by omega, by omega, by rw [HS.out, HD.out, if_neg hq]⟩
          case measure => simp [intOf]; omega
      · obtain rfl : len = k := by omega
        go_wp2
        go_ret
        exact ⟨ret_int (by rw [HS.out, List.drop_of_length_le (by rw [hr.len]; omega)]; rfl), rfl⟩
def szN (len : Nat) (n : Int) : Int := if n < len then -1 else n - len
theorem szIntS_any (A : Option Addr) (len cap : Nat) (n : Int) (w : World) (hlen : len ≤ maxLen) (h0 : 0 ≤ n) (h1 : n ≤ 1048576) :
    Calls Try.prog 37 #[.slice A len cap, .int .i64 n] w fun e w' => e = .returned (.int .i64 (szN len n)) ∧ w = w' := by
  unfold maxLen at hlen
  by_cases hn : n < len
  · go_enter Try.func37, Try.ntmps37
    go_wp2
    go_ret
    exact ⟨ret_int (by rw [szN, if_pos hn]), rfl⟩
  · go_enter Try.func37, Try.ntmps37
    go_wp2
    go_ret
    exact ⟨ret_int (by rw [szN, if_neg (by omega)]), rfl⟩
theorem intInfo : (Try.prog.info? 3).map (fun i => (i.zero, i.size, i.bytes)) = some (some (.int .i64 0), 1, 8) := by kernel_rfl
abbrev OwnInt (w : World) (base : Nat) (A : Option Addr) (n c : Nat) (l : List Int) : Prop := Own encI 1 3 w base A n c l
set_option maxHeartbeats 1000000 in
theorem toStringS_any (A : Option Addr) (len cap : Nat) (l : List Str) (w : World) (hr : Reads encS 1 w w.heap.size A len l) (hlen : len ≤ 1048576) :
    Calls Try.prog 43 #[.slice A len cap] w fun e w' => ∃ g, e = .returned (.slice (some ⟨g, 0, none⟩) len len) ∧ OwnStr w' w.heap.size (some ⟨g, 0, none⟩) len len l ∧ Below w.heap.size w w' := by
  obtain ⟨i0, hi0, hz0, hz1, hz2⟩ := info_parts strInfo
  have hmk := fun W => run_make_rowN (P := Try.prog) 24 9 i0 _ Try.underlying24 hi0 hz0 .i64 .i64 len len (Nat.le_refl _) (by rw [hz2]; omega) (by omega) W
  rw [hz1, Nat.mul_one] at hmk
  go_enter Try.func43, Try.ntmps43
  go_wp2
  clear hmk
  go_loopw [4] (fun i wr => ∃ (k : Nat), k ≤ len ∧ i = .int .i64 k ∧ Fil wr w.heap.size 9 len k ((l.take k).flatMap encS) ∧ Below w.heap.size w wr) (fun i _ => len - (intOf i).toNat)
  case atStart => exact ⟨0, by omega, rfl, by simpa using Fil.start w 9 (madeCells #[sv []] len) len (size_madeCells _ _), (Below.refl _ _).alloc (Nat.le_refl _) _⟩
  case round =>
    obtain ⟨k, hk, rfl, hf, hb⟩ := hrel
    by_cases hlt : k < len
    · obtain ⟨b, off, x, rfl, hbl, hx, hc0⟩ := (hr.below hb).atS hlt
      have HX := Lib.hid hx
      clear hx
      obtain ⟨u0, hu0⟩ := hf.cell k (by omega)
      have hz0 := hf.frozen k
      go_wp2
      have hf2 := hf.put (by omega) (sv x)
      go_roundw
      case rel => exact ⟨k + 1, by omega, by go_num, by rw [take_snoc' HX.out, List.flatMap_append]; simpa [encS] using hf2, hb.setCell (p := ⟨w.heap.size, k, none⟩) (Nat.le_refl _) _⟩
      case measure => simp [intOf]; omega
    · obtain rfl : len = k := by omega
      rw [List.take_of_length_le (by rw [hr.len]; omega)] at hf
      have hf' : Fil wr w.heap.size 9 (len * 1) (len * 1) (l.flatMap encS) := by simpa using hf
      go_wp2
      go_ret
      exact ⟨_, rfl, hf'.own encS_len hr.len (Nat.le_refl _) (by unfold maxLen; omega) (Nat.le_refl _), hb⟩
set_option maxHeartbeats 1000000 in
theorem toIntS_any (A : Option Addr) (len cap : Nat) (l : List Int) (w : World) (hr : Reads encI 1 w w.heap.size A len l) (hlen : len ≤ 1048576) :
    Calls Try.prog 44 #[.slice A len cap] w fun e w' => ∃ g, e = .returned (.slice (some ⟨g, 0, none⟩) len len) ∧ OwnInt w' w.heap.size (some ⟨g, 0, none⟩) len len l ∧ Below w.heap.size w w' := by
  obtain ⟨i0, hi0, hz0, hz1, hz2⟩ := info_parts intInfo
  have hmk := fun W => run_make_rowN (P := Try.prog) 41 3 i0 _ Try.underlying41 hi0 hz0 .i64 .i64 len len (Nat.le_refl _) (by rw [hz2]; omega) (by omega) W
  rw [hz1, Nat.mul_one] at hmk
  go_enter Try.func44, Try.ntmps44
  go_wp2
  clear hmk
  go_loopw [4] (fun i wr => ∃ (k : Nat), k ≤ len ∧ i = .int .i64 k ∧ Fil wr w.heap.size 3 len k ((l.take k).flatMap encI) ∧ Below w.heap.size w wr) (fun i _ => len - (intOf i).toNat)
  case atStart => exact ⟨0, by omega, rfl, by simpa using Fil.start w 3 (madeCells #[.int .i64 0] len) len (size_madeCells _ _), (Below.refl _ _).alloc (Nat.le_refl _) _⟩
  case round =>
    obtain ⟨k, hk, rfl, hf, hb⟩ := hrel
    by_cases hlt : k < len
    · obtain ⟨b, off, x, rfl, hbl, hx, hc0⟩ := (hr.below hb).atI hlt
      have HX := Lib.hid hx
      clear hx
      obtain ⟨u0, hu0⟩ := hf.cell k (by omega)
      have hz0 := hf.frozen k
      go_wp2
      have hf2 := hf.put (by omega) (.int .i64 x)
      go_roundw
      case rel => exact ⟨k + 1, by omega, by go_num, by rw [take_snoc' HX.out, List.flatMap_append]; simpa [encI] using hf2, hb.setCell (p := ⟨w.heap.size, k, none⟩) (Nat.le_refl _) _⟩
      case measure => simp [intOf]; omega
    · obtain rfl : len = k := by omega
      rw [List.take_of_length_le (by rw [hr.len]; omega)] at hf
      have hf' : Fil wr w.heap.size 3 (len * 1) (len * 1) (l.flatMap encI) := by simpa using hf
      go_wp2
      go_ret
      exact ⟨_, rfl, hf'.own encI_len hr.len (Nat.le_refl _) (by unfold maxLen; omega) (Nat.le_refl _), hb⟩
set_option maxHeartbeats 1000000 in
theorem eqIntS_any (A A' : Option Addr) (len len' cap cap' : Nat) (l l' : List Int) (w : World) (hr : Reads encI 1 w w.heap.size A len l) (hr' : Reads encI 1 w w.heap.size A' len' l') (hlen : len ≤ maxLen) (hlen' : len' ≤ maxLen) :
    Calls Try.prog 52 #[.slice A len cap, .slice A' len' cap'] w fun e w' => e = .returned (.bool (l == l')) ∧ Below w.heap.size w w' := by
  unfold maxLen at hlen hlen'
  by_cases hn : len = len'
  · subst hn
    have hd : ((len : Int) != (len : Int)) = false := by simp
    go_enter Try.func52, Try.ntmps52
    go_wp2
    go_loopw [5] (fun i wr => ∃ (k : Nat), k ≤ len ∧ i = .int .i64 k ∧ l.take k = l'.take k ∧ Below w.heap.size w wr) (fun i _ => len - (intOf i).toNat)
    case atStart => exact ⟨0, by omega, rfl, by simp, Below.refl _ _⟩
    case round =>
      obtain ⟨k, hk, rfl, hf, hb⟩ := hrel
      have HF := Lib.hid hf
      clear hf
      by_cases hlt : k < len
      · obtain ⟨b, off, x, rfl, hbl, hx, hc0⟩ := (hr.below hb).atI hlt
        obtain ⟨b', off', x', rfl, hbl', hx', hc0'⟩ := (hr'.below hb).atI hlt
        have HX := Lib.hid hx
        have HX' := Lib.hid hx'
        clear hx hx'
        have i1 : (0 : Int) ≤ (k : Int) := by omega
        have i2 : (k : Int) < (len : Int) := by omega
        go_wp2
        go_quiet (fail)
        go_wp2
        · go_ret
          have hq := neI (x := x) (y := x') (by assumption)
          exact ⟨ret_bool (ne_at HX.out HX'.out hq).symm, below_drewN hb _⟩
        · have hq := eqI (x := x) (y := x') (by assumption)
          go_roundw
          case rel => exact ⟨k + 1, by omega, by go_num, by rw [take_snoc' HX.out, take_snoc' HX'.out, HF.out, hq], below_drewN hb _⟩
          case measure => simp [intOf]; omega
      · obtain rfl : len = k := by omega
        go_wp2
        go_ret
        exact ⟨ret_bool (eq_of_takes HF.out hr.len hr'.len).symm, hb⟩
  · have hd : ((len : Int) != (len' : Int)) = true := by simp; omega
    go_enter Try.func52, Try.ntmps52
    go_wp2
    go_ret
    exact ⟨ret_bool (ne_of_len (by rw [hr.len, hr'.len]; exact hn)).symm, Below.refl _ _⟩
end Go.Proofs.Ytekcpadlmfaihaa
