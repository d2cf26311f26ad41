/- What markText returns, and that marking writes the marks. -/
import Derived.Test.YtekcpadlmfaihaaBase
import Derived.Laws.BytesArg
namespace Go.Proofs.Ytekcpadlmfaihaa
open Go.RowKit
/-- string of a slice of one byte that was just built. -/
theorem run_conv1 {P : Program} (src dst e : TypeId) (hs : P.underlying src = some (.slice e)) (he : P.underlying e = some (.int .u8)) (hd : P.underlying dst = some .string) (W : World) (n : Int) :
    (convert src dst (.slice (some ⟨W.heap.size, 0, none⟩) 1 1)).run P (W.alloc (.cells #[.int .u8 n] e)) = .ok (sv [UInt8.ofNat n.toNat]) (W.alloc (.cells #[.int .u8 n] e)) := by
  rw [run_convert_bytes_string _ src dst e _ 1 1 hs he hd, run_bytesToString _ ⟨W.heap.size, 0, none⟩ 1 1 [n]]
  · rfl
  · have := run_loadCells_list (P := P) (w := W.alloc (.cells #[.int .u8 n] e)) ⟨W.heap.size, 0, none⟩ [.int .u8 n] (fun j v hj => by
      match j, hj with
      | 0, hj => simp at hj; subst hj; exact (Blk.new_ W e _).cell 0
      | j + 1, hj => simp at hj)
    simpa using this
def dgs : Nat → Nat → Str → Str
  | 0, _, s => s
  | f + 1, k, s => if k = 0 then s else dgs f (k / 10) ((48 + UInt8.ofNat (k % 10)) :: s)
theorem dgs_more (f g k : Nat) (s : Str) (h : k ≤ f) (h' : k ≤ g) : dgs f k s = dgs g k s := by
  induction f generalizing g k s with
  | zero =>
    have : k = 0 := by omega
    subst this
    cases g <;> simp [dgs]
  | succ f ih =>
    cases g with
    | zero =>
      have : k = 0 := by omega
      subst this; simp [dgs]
    | succ g =>
      rw [dgs, dgs]
      split
      · rfl
      · exact ih _ _ _ (by omega) (by omega)
theorem dgs_step (k : Nat) (s : Str) (h : 0 < k) : dgs k k s = dgs (k / 10) (k / 10) ((48 + UInt8.ofNat (k % 10)) :: s) := by
  obtain ⟨f, rfl⟩ : ∃ f, k = f + 1 := ⟨k - 1, by omega⟩
  rw [dgs, if_neg (by omega)]
  exact dgs_more _ _ _ _ (by omega) (by omega)
/-- The mark number k. -/
def mk (k : Nat) : Str := if k = 0 then [109, 48] else 109 :: dgs k k []
set_option maxHeartbeats 400000 in
theorem markText_nat (k : Nat) (w : World) (hk : (k : Int) ≤ 8388608) :
    Calls Try.prog 92 #[.int .i64 k] w fun e w' => e = .returned (sv (mk k)) ∧ Below w.heap.size w w' := by
  by_cases h0 : k ≤ 0
  · go_enter Try.func92, Try.ntmps92
    go_wp2
    go_ret
    exact ⟨ret_str (by rw [mk, if_pos (by omega)]), Below.refl _ _⟩
  · have hd : decide ((k : Int) ≤ 0) = false := by simp; omega
    have hcv := run_conv1 (P := Try.prog) 104 9 5 Try.underlying104 Try.underlying5 Try.underlying9
    go_enter Try.func92, Try.ntmps92
    go_wp2
    go_loopw [0, 3] (fun i v wr => ∃ (j : Nat) (s : Str), s.length + j ≤ k ∧ i = .int .i64 j ∧ v = sv s ∧ dgs k k [] = dgs j j s ∧ Below w.heap.size w wr) (fun i _ _ => (intOf i).toNat)
    case atStart => exact ⟨k, [], by simp, rfl, rfl, rfl, Below.refl _ _⟩
    case round =>
      obtain ⟨j, s, hj, rfl, rfl, hdg, hb⟩ := hrel
      have HD := Lib.hid hdg
      clear hdg
      by_cases hlt : 0 < j
      · go_wp2
        go_roundw
        case rel => exact ⟨j / 10, _, by simp; omega, by go_num, rfl, by rw [HD.out, dgs_step j s hlt], hb.alloc hb.size _⟩
        case measure => simp [intOf]; omega
      · obtain rfl : j = 0 := by omega
        go_wp2
        go_ret
        exact ⟨ret_str (by rw [mk, if_neg (by omega), HD.out]; rfl), hb⟩
theorem markText_any (z : Int) (w : World) (h0 : 0 ≤ z) (hz : z ≤ 8388608) :
    Calls Try.prog 92 #[.int .i64 z] w fun e w' => e = .returned (sv (mk z.toNat)) ∧ Below w.heap.size w w' := by
  obtain ⟨k, rfl⟩ := Int.eq_ofNat_of_zero_le h0
  exact markText_nat k w hz
/-- The marks that marking n pairs from k on writes. -/
def mks : Nat → Nat → List Pair
  | 0, _ => []
  | n + 1, k => (mk k, mk (k + 1)) :: mks n (k + 2)
theorem mks_len (n k : Nat) : (mks n k).length = n := by
  induction n generalizing k with
  | zero => rfl
  | succ n ih => simp [mks, ih]
theorem mks_at (n k i : Nat) (h : i < n) : (mks n k)[i]? = some (mk (k + 2 * i), mk (k + 2 * i + 1)) := by
  induction n generalizing k i with
  | zero => omega
  | succ n ih =>
    cases i with
    | zero => simp [mks]
    | succ i =>
      have := ih (k + 2) i (by omega)
      rw [show k + 2 + 2 * i = k + 2 * (i + 1) from by omega] at this
      simpa [mks] using this
end Go.Proofs.Ytekcpadlmfaihaa
