/- The cursor from which the laws draw their inputs: what each drawing function may return. -/
import Derived.Test.YtecebamhenlnoaaBase
import Derived.Laws.BitsAllLaws
namespace Go.Proofs.Ytecebamhenlnoaa
open Go.RowKit
theorem and255 (x : Int) : 0 ≤ bits .and .i64 x 255 ∧ bits .and .i64 x 255 ≤ 255 := by
  have h : (BitVec.ofInt 64 x &&& BitVec.ofInt 64 255).toNat ≤ 255 := by
    rw [BitVec.toNat_and]
    have : (BitVec.ofInt 64 255).toNat = 255 := by decide
    rw [this]; exact Nat.and_le_right
  show 0 ≤ IntKind.i64.wrap ((BitVec.ofInt 64 x &&& BitVec.ofInt 64 255).toNat : Int) ∧ IntKind.i64.wrap ((BitVec.ofInt 64 x &&& BitVec.ofInt 64 255).toNat : Int) ≤ 255
  generalize (BitVec.ofInt 64 x &&& BitVec.ofInt 64 255).toNat = m at h
  rw [IntKind.wrap_i64]
  omega
theorem only_drewN {a w : World} {row : Option Nat} (h : a.grownBy w row) (n : Nat) : a.grownBy (w.drewN n) row := ⟨h.os, h.tape, h.output, h.size, h.block⟩
def encB (b : UInt8) : List Value := [.int .u8 b.toNat]
/-- Block g is a cursor over some bytes below block B. -/
def Cur (w : World) (g : Nat) : Prop := ∃ (A : Option Addr) (n c : Nat) (bs : List UInt8) (i h : Int) (B : Nat), Blk w g 97 [.slice A n c, .int .i64 i, .int .i64 h] ∧ B ≤ g ∧ Reads encB 1 w B A n bs ∧ 0 ≤ i ∧ i ≤ n ∧ n ≤ 9223372036854775806
/-- A call that moved the cursor on, and made memory. -/
def Drawn (w : World) (g : Nat) (w' : World) : Prop := Cur w' g ∧ w.grownBy w' (some g)
theorem Reads.atB {w : World} {B n k : Nat} {A : Option Addr} {l : List UInt8} (h : Reads encB 1 w B A n l) (hk : k < n) :
    ∃ b off, ∃ x : UInt8, A = some ⟨b, off, none⟩ ∧ b < B ∧ w.cell? ⟨b, off + k, none⟩ = some (.int .u8 x.toNat) := by
  obtain ⟨b, off, x, e, hb, hx, hc⟩ := h.at_ hk
  have := hc 0 _ rfl
  rw [Nat.mul_one] at this
  exact ⟨b, off, x, e, hb, this⟩
def SomeByte (w : World) (g : Nat) (e : Ending) (w' : World) : Prop := ∃ x : Int, 0 ≤ x ∧ x ≤ 255 ∧ e = .returned (.int .i64 x) ∧ Drawn w g w'
set_option maxHeartbeats 1000000 in
theorem l1Byte_any (g : Nat) (w : World) (hc : Cur w g) :
    Calls Try.prog 106 #[.pointer (some ⟨g, 0, none⟩)] w (SomeByte w g) := by
  obtain ⟨A, n, c, bs, i, h, B, hk, hB, hr, hi0, hi1, hn⟩ := hc
  have hc0 : w.cell? ⟨g, 0, none⟩ = some (.slice A n c) := hk.cell 0
  have hc1 : w.cell? ⟨g, 1, none⟩ = some (.int .i64 i) := hk.cell 1
  have hc2 : w.cell? ⟨g, 2, none⟩ = some (.int .i64 h) := hk.cell 2
  have hz1 := hk.frozen 1
  have hz2 := hk.frozen 2
  go_enter Try.func106, Try.ntmps106
  go_wp2
  generalize wrap64 (wrap64 (h * 6364136223846793005) + 1442695040888963407) = h2
  have hk1 : Blk (w.setCell ⟨g, 2, none⟩ (.int .i64 h2)) g 97 [.slice A n c, .int .i64 i, .int .i64 h2] := hk.set_ 2 _
  have hg1 : w.grownBy (w.setCell ⟨g, 2, none⟩ (.int .i64 h2)) (some g) := only_setCell (only_refl _ _) (.inl rfl) _
  have hr1 : Reads encB 1 (w.setCell ⟨g, 2, none⟩ (.int .i64 h2)) B A n bs := hr.keep fun p hp => World.cell?_of_block (Below.heap_setCell w _ _ _ (by simp only; omega))
  generalize w.setCell ⟨g, 2, none⟩ (.int .i64 h2) = w1 at hk1 hg1 hr1 ⊢
  clear hc0 hc1 hc2 hz1 hz2 hk hr
  have hc0 : w1.cell? ⟨g, 0, none⟩ = some (.slice A n c) := hk1.cell 0
  have hc1 : w1.cell? ⟨g, 1, none⟩ = some (.int .i64 i) := hk1.cell 1
  have hc2 : w1.cell? ⟨g, 2, none⟩ = some (.int .i64 h2) := hk1.cell 2
  have hz1 := hk1.frozen 1
  go_quiet (fail)
  go_wp2
  have hx1 := and255 (bits BinOp.xor IntKind.i64 (h2 / 8589934592) (h2 / 35184372088832))
  generalize bits BinOp.and IntKind.i64 (bits BinOp.xor IntKind.i64 (h2 / 8589934592) (h2 / 35184372088832)) 255 = x1 at hx1 ⊢
  obtain ⟨hx0, hx1⟩ := hx1
  by_cases hlt : i < n
  · obtain ⟨j, rfl⟩ := Int.eq_ofNat_of_zero_le hi0
    obtain ⟨b, off, x, rfl, hb, hcx⟩ := hr1.atB (k := j) (by omega)
    have hx := x.toNat_lt
    go_quiet (fail)
    go_wp2
    go_quiet (fail)
    go_wp2
    go_ret
    exact ⟨_, (and255 _).1, (and255 _).2, rfl, ⟨_, n, c, bs, (j : Int) + 1, h2, B, (show Blk (w1.drewN _) g _ _ from hk1).set_ 1 _, hB, hr1.keep fun p hp => World.cell?_of_block (Below.heap_setCell _ _ _ _ (by simp only; omega)), by omega, by omega, hn⟩, only_setCell (p := ⟨g, 1, none⟩) (only_drewN hg1 _) (.inl rfl) _⟩
  · have hd : decide (i < (n : Int)) = false := by simp; omega
    go_quiet (fail)
    go_wp2
    go_ret
    exact ⟨x1, hx0, hx1, rfl, ⟨A, n, c, bs, i, h2, B, hk1, hB, hr1, hi0, hi1, hn⟩, ⟨hg1.os, hg1.tape, hg1.output, hg1.size, hg1.block⟩⟩
theorem Drawn.lt {w w' : World} {g : Nat} (h : Drawn w g w') : g < w'.heap.size := by
  obtain ⟨⟨A, n, c, bs, i, hh, B, hk, _⟩, _⟩ := h
  exact hk.lt
theorem Drawn.trans {w w1 w2 : World} {g : Nat} (h : Drawn w g w1) (k : Drawn w1 g w2) : Drawn w g w2 :=
  ⟨k.1, ⟨k.2.os.trans h.2.os, k.2.tape.trans h.2.tape, k.2.output.trans h.2.output, Nat.le_trans h.2.size k.2.size, fun i hi hn => (k.2.block i (Nat.lt_of_lt_of_le hi h.2.size) hn).trans (h.2.block i hi hn)⟩⟩
theorem Cur.lt {w : World} {g : Nat} (h : Cur w g) : g < w.heap.size := by
  obtain ⟨A, n, c, bs, i, hh, B, hk, _⟩ := h
  exact hk.lt
theorem Cur.below {w w' : World} {g : Nat} (h : Cur w g) (hb : Below w.heap.size w w') : Cur w' g := by
  obtain ⟨A, n, c, bs, i, hh, B, hk, hB, hr, h4⟩ := h
  exact ⟨A, n, c, bs, i, hh, B, hk.below hb hk.lt, hB, hr.below (hb.mono (by have := hk.lt; omega)), h4⟩
theorem Drawn.below {w w1 w2 : World} {g : Nat} (h : Drawn w g w1) (hb : Below w1.heap.size w1 w2) : Drawn w g w2 := ⟨h.1.below hb, only_below h.2 hb⟩
/-- What the call does to blocks of its own. -/
theorem Cur.own {w w' : World} {g B : Nat} (h : Cur w g) (hb : Below B w w') (hg : g < B) : Cur w' g := by
  obtain ⟨A, n, c, bs, i, hh, B', hk, hB, hr, h4⟩ := h
  exact ⟨A, n, c, bs, i, hh, B', hk.below hb hg, hB, hr.below (hb.mono (by omega)), h4⟩
theorem Drawn.own {w w1 w2 : World} {g : Nat} (h : Drawn w g w1) (hb : Below w.heap.size w1 w2) (hg : g < w.heap.size) : Drawn w g w2 := ⟨h.1.own hb hg, only_own h.2 hb⟩
theorem Drawn.refl {w : World} {g : Nat} (h : Cur w g) : Drawn w g w := ⟨h, only_refl _ _⟩
/-- What lies below the cursor's block is as it was. -/
theorem Drawn.toBelow {w w' : World} {g : Nat} (h : Drawn w g w') (hc : Cur w g) : Below g w w' :=
  only_below' h.2 (by have := hc.lt; omega) (fun g' e => by injection e with e; omega)
theorem Own.drawn {α : Type} {enc : α → List Value} {s : Nat} {e : TypeId} {w w' : World} {base n c g : Nat} {A : Option Addr} {l : List α} (h : Own enc s e w base A n c l) (hd : Drawn w g w') (hg : g < base) : Own enc s e w' base A n c l :=
  h.kept hd.2 (h.apart (.inl hg))
def SomeUnder (n : Int) (w : World) (g : Nat) (e : Ending) (w' : World) : Prop := ∃ x : Int, 0 ≤ x ∧ x < n ∧ e = .returned (.int .i64 x) ∧ Drawn w g w'
set_option maxHeartbeats 1000000 in
theorem l1Below_any (g : Nat) (n : Int) (w : World) (hc : Cur w g) (h0 : 0 < n) (hn : n ≤ 4294967296) :
    Calls Try.prog 87 #[.pointer (some ⟨g, 0, none⟩), .int .i64 n] w (SomeUnder n w g) := by
  by_cases hs : n ≤ 256
  · go_enter Try.func87, Try.ntmps87
    go_wp2_with fail
    refine (l1Byte_any g _ hc).mono ?_
    rintro e w1 ⟨x, hx0, hx1, rfl, hd1⟩
    go_wp2_with fail
    go_ret
    exact ⟨x % n, Int.emod_nonneg _ (by omega), Int.emod_lt_of_pos _ h0, rfl, hd1⟩
  · go_enter Try.func87, Try.ntmps87
    go_wp2_with fail
    refine (l1Byte_any g _ hc).mono ?_
    rintro e w1 ⟨x, hx0, hx1, rfl, hd1⟩
    go_wp2_with fail
    refine (l1Byte_any g _ hd1.1).mono ?_
    rintro e w2 ⟨y, hy0, hy1, rfl, hd2⟩
    go_wp2_with fail
    refine (l1Byte_any g _ hd2.1).mono ?_
    rintro e w3 ⟨z, hz0, hz1, rfl, hd3⟩
    go_wp2_with fail
    refine (l1Byte_any g _ hd3.1).mono ?_
    rintro e w4 ⟨u, hu0, hu1, rfl, hd4⟩
    go_wp2_with fail
    go_ret
    exact ⟨_, Int.emod_nonneg _ (by omega), Int.emod_lt_of_pos _ h0, rfl, hd1.trans (hd2.trans (hd3.trans hd4))⟩
def SomeBool (w : World) (g : Nat) (e : Ending) (w' : World) : Prop := ∃ b : Bool, e = .returned (.bool b) ∧ Drawn w g w'
theorem l1Once_any (g : Nat) (n : Int) (w : World) (hc : Cur w g) (h0 : 0 < n) (hn : n ≤ 4294967296) :
    Calls Try.prog 86 #[.pointer (some ⟨g, 0, none⟩), .int .i64 n] w (SomeBool w g) := by
  go_enter Try.func86, Try.ntmps86
  go_wp2_with fail
  refine (l1Below_any g n _ hc h0 hn).mono ?_
  rintro e w1 ⟨x, hx0, hx1, rfl, hd1⟩
  go_wp2_with fail
  go_ret
  exact ⟨_, rfl, hd1⟩
def encS (s : Str) : List Value := [sv s]
def encI (i : Int) : List Value := [.int .i64 i]
theorem encS_len (s : Str) : (encS s).length = 1 := rfl
theorem encI_len (s : Int) : (encI s).length = 1 := rfl
theorem encS_one (e : Str) : ∀ u ∈ encS e, u.oneCell' = true := by simp [encS, Value.oneCell']
theorem encI_one (e : Int) : ∀ u ∈ encI e, u.oneCell' = true := by simp [encI, Value.oneCell']
theorem Reads.atS {w : World} {B n k : Nat} {A : Option Addr} {l : List Str} (h : Reads encS 1 w B A n l) (hk : k < n) :
    ∃ b off, ∃ x : Str, A = some ⟨b, off, none⟩ ∧ b < B ∧ l[k]? = some x ∧ w.cell? ⟨b, off + k, none⟩ = some (sv x) := by
  obtain ⟨b, off, x, e, hb, hx, hc⟩ := h.at_ hk
  have := hc 0 _ rfl
  rw [Nat.mul_one] at this
  exact ⟨b, off, x, e, hb, hx, this⟩
theorem Reads.atI {w : World} {B n k : Nat} {A : Option Addr} {l : List Int} (h : Reads encI 1 w B A n l) (hk : k < n) :
    ∃ b off, ∃ x : Int, A = some ⟨b, off, none⟩ ∧ b < B ∧ l[k]? = some x ∧ w.cell? ⟨b, off + k, none⟩ = some (.int .i64 x) := by
  obtain ⟨b, off, x, e, hb, hx, hc⟩ := h.at_ hk
  have := hc 0 _ rfl
  rw [Nat.mul_one] at this
  exact ⟨b, off, x, e, hb, hx, this⟩
theorem Reads.drawn {α : Type} {enc : α → List Value} {s : Nat} {w w' : World} {n g : Nat} {A : Option Addr} {l : List α} (h : Reads enc s w w.heap.size A n l) (hd : Drawn w g w') (hne : ∀ b off, A = some ⟨b, off, none⟩ → b ≠ g) : Reads enc s w' w'.heap.size A n l := by
  refine ⟨h.1, fun hn => ?_⟩
  obtain ⟨b, off, e, hb, hc⟩ := h.2 hn
  refine ⟨b, off, e, Nat.lt_of_lt_of_le hb hd.2.size, fun k x j u hx hu => ?_⟩
  rw [← hc k x j u hx hu]
  exact World.cell?_of_block (hd.2.block b hb (fun h => hne b off e (by injection h)))
def SomeOf {α : Type} (l : List α) (v : α → Value) (w : World) (g : Nat) (e : Ending) (w' : World) : Prop := ∃ x, x ∈ l ∧ e = .returned (v x) ∧ Drawn w g w'
set_option maxHeartbeats 400000 in
theorem l1Pick_any (g : Nat) (A : Option Addr) (n c : Nat) (l : List Str) (w : World) (hc : Cur w g) (hr : Reads encS 1 w w.heap.size A n l) (hne : ∀ b off, A = some ⟨b, off, none⟩ → b ≠ g) (h0 : 0 < n) (hn : n ≤ 65536) :
    Calls Try.prog 85 #[.pointer (some ⟨g, 0, none⟩), .slice A n c] w (SomeOf l sv w g) := by
  go_enter Try.func85, Try.ntmps85
  go_wp2_with fail
  refine (l1Below_any g n _ hc (by omega) (by omega)).mono ?_
  rintro e w1 ⟨x, hx0, hx1, rfl, hd1⟩
  obtain ⟨k, rfl⟩ := Int.eq_ofNat_of_zero_le hx0
  obtain ⟨b, off, s, rfl, hb, hx, hcell⟩ := (hr.drawn hd1 hne).atS (k := k) (by omega)
  have HX := Lib.hid hx
  clear hx
  go_wp2_with fail
  go_ret
  exact ⟨s, List.mem_of_getElem? HX.out, rfl, hd1⟩
set_option maxHeartbeats 400000 in
theorem l1PickInt_any (g : Nat) (A : Option Addr) (n c : Nat) (l : List Int) (w : World) (hc : Cur w g) (hr : Reads encI 1 w w.heap.size A n l) (hne : ∀ b off, A = some ⟨b, off, none⟩ → b ≠ g) (h0 : 0 < n) (hn : n ≤ 65536) :
    Calls Try.prog 83 #[.pointer (some ⟨g, 0, none⟩), .slice A n c] w (SomeOf l (.int .i64) w g) := by
  go_enter Try.func83, Try.ntmps83
  go_wp2_with fail
  refine (l1Below_any g n _ hc (by omega) (by omega)).mono ?_
  rintro e w1 ⟨x, hx0, hx1, rfl, hd1⟩
  obtain ⟨k, rfl⟩ := Int.eq_ofNat_of_zero_le hx0
  obtain ⟨b, off, s, rfl, hb, hx, hcell⟩ := (hr.drawn hd1 hne).atI (k := k) (by omega)
  have HX := Lib.hid hx
  clear hx
  go_wp2_with fail
  go_ret
  exact ⟨s, List.mem_of_getElem? HX.out, rfl, hd1⟩
end Go.Proofs.Ytecebamhenlnoaa
