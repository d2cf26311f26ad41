/- Drawing caches: what l39Plain, l39Key, DrawStoreEntry may return; comparing two lists of entries. -/
import Derived.Test.YtecebamhenlnoaaCe
import Derived.Test.YtecebamhenlnoaaDraw
import Derived.Test.YtecebamhenlnoaaFmt
import Derived.Test.YtecebamhenlnoaaBas2
namespace Go.Proofs.Ytecebamhenlnoaa
open Go.RowKit
set_option maxHeartbeats 1000000 in
theorem l1New_any (A : Option Addr) (n c : Nat) (bs : List UInt8) (w : World) (hr : Reads encB 1 w w.heap.size A n bs) (hn : n ≤ 1048576) :
    Calls Try.prog 55 #[.slice A n c] w fun e w' => e = .returned (.pointer (some ⟨w.heap.size, 0, none⟩)) ∧ Cur w' w.heap.size ∧ Below w.heap.size w w' := by
  go_enter Try.func55, Try.ntmps55
  go_wp2
  go_loop [3, 4] (fun v i => ∃ (x : Int) (k : Nat), v = .int .i64 x ∧ i = .int .i64 k ∧ k ≤ n) (fun _ i => n - (intOf i).toNat)
  case atStart => exact ⟨_, 0, rfl, rfl, by omega⟩
  case round =>
    obtain ⟨x, k, rfl, rfl, hk⟩ := hrel
    by_cases hlt : k < n
    · by_cases h4 : (k : Int) < 4000
      · obtain ⟨b, off, y, rfl, hb, hcx⟩ := hr.atB (k := k) (by omega)
        have hy := y.toNat_lt
        go_wp2
        go_round
        case rel => exact ⟨_, k + 1, rfl, by go_num, by omega⟩
        case measure => simp [intOf]; omega
      · go_wp2
        go_ret
        refine ⟨rfl, ⟨A, n, c, bs, 0, x, w.heap.size, Blk.new_ w _ _, Nat.le_refl _, hr.below ((Below.refl _ _).alloc (Nat.le_refl _) _), by omega, by omega, by omega⟩, (Below.refl _ _).alloc (Nat.le_refl _) _⟩
    · go_wp2
      go_ret
      refine ⟨rfl, ⟨A, n, c, bs, 0, x, w.heap.size, Blk.new_ w _ _, Nat.le_refl _, hr.below ((Below.refl _ _).alloc (Nat.le_refl _) _), by omega, by omega, by omega⟩, (Below.refl _ _).alloc (Nat.le_refl _) _⟩
theorem intReads (w : World) (t : TypeId) (l : List Int) (cs : Array Value) (h : cs.toList = l.flatMap encI) {g : Nat} (hg : w.heap.size = g) : Reads encI 1 (w.alloc (.cells cs t)) (w.alloc (.cells cs t)).heap.size (some ⟨g, 0, none⟩) l.length l := by
  subst hg
  have := Blk.new_ w t cs
  rw [h] at this
  exact this.reads encI_len this.lt
theorem strReads (w : World) (t : TypeId) (l : List Str) (cs : Array Value) (h : cs.toList = l.flatMap encS) {g : Nat} (hg : w.heap.size = g) : Reads encS 1 (w.alloc (.cells cs t)) (w.alloc (.cells cs t)).heap.size (some ⟨g, 0, none⟩) l.length l := by
  subst hg
  have := Blk.new_ w t cs
  rw [h] at this
  exact this.reads encS_len this.lt
def SomePairs (m : Nat) (w : World) (g : Nat) (e : Ending) (w' : World) : Prop := ∃ A n c l, e = .returned (.slice A n c) ∧ OwnEntry w' w.heap.size A n c l ∧ n ≤ m ∧ Drawn w g w'
set_option maxHeartbeats 1000000 in
theorem l39Plain_any (g : Nat) (w : World) (hc : Cur w g) :
    Calls Try.prog 56 #[.pointer (some ⟨g, 0, none⟩)] w (SomePairs 9 w g) := by
  have hgl := hc.lt
  go_enter Try.func56, Try.ntmps56
  go_wp2_with fail
  have hb1 := ((Below.refl w.heap.size w).alloc (Nat.le_refl _) (.cells #[] 37))
  have hb2 := hb1.alloc hb1.size (.cells #[.int .i64 0, .int .i64 1, .int .i64 2, .int .i64 3, .int .i64 5, .int .i64 8, .int .i64 8, .int .i64 9] 3)
  refine (l1PickInt_any g _ 8 8 [0, 1, 2, 3, 5, 8, 8, 9] _ (hc.below hb2) (intReads _ _ [0, 1, 2, 3, 5, 8, 8, 9] _ rfl (by simp)) (fun b off e => by injection e with e; injection e with e; omega) (by omega) (by omega)).mono ?_
  rintro e w1 ⟨x, hx, rfl, hd1⟩
  have hx9 : 0 ≤ x ∧ x ≤ 9 := by simp at hx; omega
  have ho0 : OwnEntry w1 w.heap.size (some ⟨w.heap.size, 0, none⟩) 0 0 [] := ((Own.new_ (n := 0) enc2_len w [] #[] rfl rfl (by unfold maxLen; omega) (Nat.le_refl _) rfl).alloc _).drawn hd1 hgl
  have hd0 : Drawn w g w1 := ⟨hd1.1, only_trans (only_of_below hb2) hd1.2⟩
  clear hd1 hx hb1 hb2
  obtain ⟨k0, rfl⟩ := Int.eq_ofNat_of_zero_le hx9.1
  go_wp2_with fail
  go_loopw [3, 4] (fun v i wr => ∃ (k : Nat) (A : Option Addr) (n c : Nat) (l : List Pair), i = .int .i64 k ∧ n + k ≤ 9 ∧ v = .slice A n c ∧ OwnEntry wr w.heap.size A n c l ∧ Drawn w g wr) (fun _ i _ => (intOf i).toNat)
  case atStart => exact ⟨k0, _, 0, 0, [], rfl, by omega, rfl, ho0, hd0⟩
  case round =>
    obtain ⟨k, A, n, c, l, rfl, hnk, rfl, ho, hd⟩ := hrel
    by_cases hk : 0 < k
    · go_wp2_with fail
      refine (specFormatInt_any _ _ (by omega) (by omega)).mono ?_
      rintro e w2 ⟨rfl, rfl⟩
      go_wp2_with fail
      have hb2 := (Below.refl wr.heap.size wr).alloc (Nat.le_refl _) (.cells #[sv [], sv [49, 10], sv [50, 10]] 9)
      have hgr := hd.lt
      refine (l1Pick_any g _ 3 3 [[], [49, 10], [50, 10]] _ (hd.1.below hb2) (strReads _ _ [[], [49, 10], [50, 10]] _ rfl rfl) (fun b off e => by injection e with e; injection e with e; omega) (by omega) (by omega)).mono ?_
      rintro e w2 ⟨y, hy, rfl, hd2⟩
      have ho2 := (ho.below hb2).drawn hd2 hgl
      have hd3 := (hd.below hb2).trans hd2
      have hs3 : w.heap.size ≤ w2.heap.size := hd3.2.size
      clear hd2 hy
      go_wp2_with (first | (at_builtin; refine wpList_app1 enc2 tyEntry enc2_len enc2_one rfl _ _ rfl w.heap.size _ n c _ rfl (ho2.alloc _) (fmtI k, y) _ 0 1 rfl (news2 _ _ y _ _ ?_) ?_ ?_ ?_ ?_; (simp); (omega); (unfold maxLen; omega); (simp; omega); intro g1 c1 w3 ho3 hg3 hb3 hat3))
      have hd4 : Drawn w g w3 := (hd3.below ((Below.refl _ _).alloc (Nat.le_refl _) _)).own hb3 hgl
      clear hd3
      go_roundw
      case rel => exact ⟨k - 1, _, n + 1, c1, _, by go_num, by omega, rfl, ho3, hd4⟩
      case measure => simp [intOf]; omega
    · obtain rfl : k = 0 := by omega
      by_cases hn1 : 1 < n
      · go_wp2_with fail
        refine (l1Once_any g 8 _ hd.1 (by omega) (by omega)).mono ?_
        rintro e w2 ⟨b, rfl, hd2⟩
        have ho2 := ho.drawn hd2 hgl
        have hd3 := hd.trans hd2
        cases b with
        | false =>
          go_wp2_with fail
          go_ret
          exact ⟨A, n, c, l, rfl, ho2, by omega, hd3⟩
        | true =>
          rcases ho2.cases with ⟨_, rfl, _⟩ | ⟨g2, rfl⟩
          · omega
          · have hr2 := ho2.reads enc2_len
            obtain ⟨_, _, x0, y0, e0, _, hx0, hc0, _⟩ := hr2.at2 (k := 0) (by omega)
            obtain ⟨_, _, x1, y1, e1, _, hx1, hc1, _⟩ := hr2.at2 (k := 1) (by omega)
            injection e0 with e0; injection e0 with e0 e0'; subst e0 e0'
            injection e1 with e1; injection e1 with e1 e1'; subst e1 e1'
            simp only [Nat.zero_mul, Nat.add_zero, Nat.one_mul, Nat.zero_add] at hc0 hc1
            have hz0 := ho2.fil.1.frozen 0
            have hn0 : (0 : Int) < (n : Int) := by omega
            have hn2 : (1 : Int) < (n : Int) := by omega
            have ho3 := ho2.set_ enc2_len 0 0 (x0, y0) (x1, y0) (sv x1) hx0 (by omega) rfl
            have hb3 : Below w.heap.size w2 (w2.setCell ⟨g2, 0, none⟩ (sv x1)) := (Below.refl _ _).setCell (p := ⟨g2, 0, none⟩) (by have := ho2.lt; exact this.1) _
            have HO := Lib.hid ho3
            clear hx0 hx1 ho3
            go_wp2_with fail
            go_ret
            exact ⟨_, n, c, _, rfl, by simpa using HO.out, by omega, hd3.own hb3 hgl⟩
      · go_wp2_with fail
        go_ret
        exact ⟨A, n, c, l, rfl, ho, by omega, hd⟩
def SomeText (w : World) (g : Nat) (e : Ending) (w' : World) : Prop := ∃ s, e = .returned (sv s) ∧ Drawn w g w'
set_option maxHeartbeats 1000000 in
theorem l39Key_any (g : Nat) (A : Option Addr) (n c : Nat) (l : List Pair) (w : World) (hc : Cur w g) (hr : Reads enc2 2 w w.heap.size A n l) (hne : ∀ b off, A = some ⟨b, off, none⟩ → b ≠ g) (hn : n ≤ 9) :
    Calls Try.prog 57 #[.pointer (some ⟨g, 0, none⟩), .slice A n c] w (SomeText w g) := by
  by_cases h0 : n = 0
  · subst h0
    go_enter Try.func57, Try.ntmps57
    go_wp2_with fail
    go_ret
    exact ⟨_, rfl, Drawn.refl hc⟩
  · have hnb : ((n : Int) == 0) = false := by simp; omega
    go_enter Try.func57, Try.ntmps57
    go_wp2_with fail
    refine (l1Once_any g 4 _ hc (by omega) (by omega)).mono ?_
    rintro e w2 ⟨b, rfl, hd2⟩
    cases b with
    | true =>
      go_wp2_with fail
      go_ret
      exact ⟨_, rfl, hd2⟩
    | false =>
      go_wp2_with fail
      refine (l1Below_any g n _ hd2.1 (by omega) (by omega)).mono ?_
      rintro e w3 ⟨x, hx0, hx1, rfl, hd3⟩
      obtain ⟨k, rfl⟩ := Int.eq_ofNat_of_zero_le hx0
      obtain ⟨b, off, x, y, rfl, hb, hx, hc0, hc1⟩ := ((hr.drawn hd2 hne).drawn hd3 hne).at2 (k := k) (by omega)
      clear hx
      go_wp2_with fail
      go_ret
      exact ⟨_, rfl, hd2.trans hd3⟩
def SomeStore (w : World) (e : Ending) (w' : World) : Prop := ∃ A n c l key, e = .returned (.tuple #[.slice A n c, sv key, sv [110, 101, 119, 10]]) ∧ OwnEntry w' w.heap.size A n c l ∧ n ≤ 9 ∧ Below w.heap.size w w'
set_option maxHeartbeats 1000000 in
theorem drawStoreEntry_any (A : Option Addr) (n c : Nat) (bs : List UInt8) (w : World) (hr : Reads encB 1 w w.heap.size A n bs) (hn : n ≤ 1048576) :
    Calls Try.prog 19 #[.slice A n c] w (SomeStore w) := by
  go_enter Try.func19, Try.ntmps19
  go_wp2_with fail
  refine (l1New_any A n c bs _ hr hn).mono ?_
  rintro e w1 ⟨rfl, hc1, hb1⟩
  go_wp2_with fail
  refine (l39Plain_any _ _ hc1).mono ?_
  rintro e w2 ⟨A2, n2, c2, l2, rfl, ho2, hn2, hd2⟩
  go_wp2_with fail
  have hl := hc1.lt
  refine (l39Key_any _ A2 n2 c2 l2 _ hd2.1 (ho2.reads enc2_len) (fun b off e => by subst e; have := ho2.lt; simp only at this; omega) hn2).mono ?_
  rintro e w3 ⟨key, rfl, hd3⟩
  go_wp2_with fail
  go_ret3
  exact ⟨A2, n2, c2, l2, key, rfl, (ho2.drawn hd3 hl).mono hb1.size, hn2, hb1.trans (((hd2.trans hd3).toBelow hc1))⟩
end Go.Proofs.Ytecebamhenlnoaa
