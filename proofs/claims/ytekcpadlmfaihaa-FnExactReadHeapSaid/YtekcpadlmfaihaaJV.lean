/- What it is to mark a datum; an element of an owned slice, taken out and put back. What the law's own mark and held do over slices of String. What the law's own mark and held do over slices of Int. What the law's own mark and held do over slices of Item. What the law's own mark and held do over slices of Vector. What the law's own mark and held do over slices of Cell. What the law's own mark and held do over slices of Heap. -/
import Derived.Test.YtekcpadlmfaihaaJB
import Derived.Test.YtekcpadlmfaihaaJG
import Derived.Test.YtekcpadlmfaihaaJC
import Derived.Test.YtekcpadlmfaihaaJD
import Derived.Test.YtekcpadlmfaihaaJE
set_option linter.unusedSimpArgs false
set_option linter.unusedVariables false
namespace Go.Proofs.Ytekcpadlmfaihaa
open Go.RowKit
mutual
/-- The number of marks in a datum. -/
def cntD : D → Nat
  | .i _ _ => 1
  | .s _ => 1
  | .b _ => 0
  | .sl xs => cntDs xs
  | .st fs => cntDs fs
def cntDs : List D → Nat
  | [] => 0
  | x :: t => cntD x + cntDs t
end
mutual
/-- The datum with the marks from k on. -/
def mkD : D → Nat → D
  | .i t _, k => .i t k
  | .s _, k => .s (mk k)
  | .b x, _ => .b x
  | .sl xs, k => .sl (mkDs xs k)
  | .st fs, k => .st (mkDs fs k)
def mkDs : List D → Nat → List D
  | [], _ => []
  | x :: t, k => mkD x k :: mkDs t (k + cntD x)
end
theorem mkDs_len : ∀ (l : List D) (k : Nat), (mkDs l k).length = l.length
  | [], _ => by rw [mkDs]
  | x :: t, k => by rw [mkDs, List.length_cons, mkDs_len t]; rfl
theorem mkDs_at : ∀ {l : List D} {k i : Nat} {d : D}, l[i]? = some d → (mkDs l k)[i]? = some (mkD d (k + cntDs (l.take i)))
  | [], _, _, _, h => by simp at h
  | x :: t, k, 0, d, h => by simp at h; subst h; rw [mkDs]; simp [cntDs]
  | x :: t, k, i + 1, d, h => by
    simp at h
    rw [mkDs, List.getElem?_cons_succ, mkDs_at h, List.take_succ_cons, cntDs, Nat.add_assoc]
theorem cntDs_take : ∀ {l : List D} {i : Nat} {d : D}, l[i]? = some d → cntDs (l.take (i + 1)) = cntDs (l.take i) + cntD d
  | [], _, _, h => by simp at h
  | x :: t, 0, d, h => by simp at h; subst h; simp [cntDs]
  | x :: t, i + 1, d, h => by
    simp at h
    rw [List.take_succ_cons, cntDs, cntDs_take h, List.take_succ_cons, cntDs, Nat.add_assoc]
theorem cntDs_le : ∀ (l : List D) (i : Nat), cntDs (l.take i) ≤ cntDs l
  | [], i => by simp
  | x :: t, 0 => by simp [cntDs]
  | x :: t, i + 1 => by rw [List.take_succ_cons, cntDs, cntDs]; have := cntDs_le t i; omega
/-- The first i elements marked. -/
def mkTo (l : List D) (k i : Nat) : List D := mkDs (l.take i) k ++ l.drop i
theorem mkTo_zero (l : List D) (k : Nat) : mkTo l k 0 = l := by simp [mkTo, mkDs]
theorem mkTo_all {l : List D} {k i : Nat} (h : l.length ≤ i) : mkTo l k i = mkDs l k := by
  rw [mkTo, List.take_of_length_le h, List.drop_of_length_le h, List.append_nil]
theorem mkTo_at {l : List D} {k i : Nat} {d : D} (h : l[i]? = some d) : (mkTo l k i)[i]? = some d := by
  have hi := (List.getElem?_eq_some_iff.1 h).1
  have hl : (mkDs (l.take i) k).length = i := by rw [mkDs_len, List.length_take]; omega
  rw [mkTo, List.getElem?_append_right (by omega), hl, Nat.sub_self, List.getElem?_drop]; exact h
theorem mkDs_snoc : ∀ {l : List D} {k : Nat} {d : D}, mkDs (l ++ [d]) k = mkDs l k ++ [mkD d (k + cntDs l)]
  | [], k, d => by simp [mkDs, cntDs]
  | x :: t, k, d => by rw [List.cons_append, mkDs, mkDs_snoc, mkDs, cntDs, Nat.add_assoc]; rfl
theorem mkTo_next {l : List D} {k i : Nat} {d : D} (h : l[i]? = some d) : (mkTo l k i).set i (mkD d (k + cntDs (l.take i))) = mkTo l k (i + 1) := by
  have hi := (List.getElem?_eq_some_iff.1 h).1
  have hl : (mkDs (l.take i) k).length = i := by rw [mkDs_len, List.length_take]; omega
  have h1 : l.take (i + 1) = l.take i ++ [d] := by rw [List.take_add_one, h]; rfl
  have h2 : l.drop i = d :: l.drop (i + 1) := by rw [List.drop_eq_getElem_cons hi]; rw [List.getElem?_eq_getElem hi] at h; injection h with h; rw [h]
  rw [mkTo, List.set_append_right _ _ (by omega), hl, Nat.sub_self, h2, List.set_cons_zero, mkTo, h1, mkDs_snoc, List.append_assoc]; rfl
section
variable {P : Program} {w : World}
theorem ownA_at : ∀ {l : List D} {e : TypeId} {F : List Nat} {css : List (List Value)} {k : Nat} {d : D}, ownA P w l e F css → l[k]? = some d →
    ∃ Fa Fd Fb cs, css[k]? = some cs ∧ F = Fa ++ (Fd ++ Fb) ∧ own P w d e Fd cs ∧ ∀ (w' : World) (d' : D) (cs' : List Value), own P w' d' e Fd cs' → (∀ x ∈ Fa ++ Fb, w'.heap[x]? = w.heap[x]?) → ownA P w' (l.set k d') e F (css.set k cs')
  | [], _, _, _, _, _, _, h => by simp at h
  | x :: t, e, F, css, k, d, ho, h => by
    rw [ownA] at ho
    obtain ⟨F1, F2, c1, c2, rfl, rfl, h3, h4⟩ := ho
    cases k with
    | zero =>
      simp at h; subst h
      refine ⟨[], F1, F2, c1, rfl, rfl, h3, fun w' d' cs' h5 h6 => ?_⟩
      rw [List.set_cons_zero, List.set_cons_zero, ownA]
      exact ⟨F1, F2, cs', c2, rfl, rfl, h5, ownA_same t e F2 c2 (fun g hg => h6 g (by simpa using hg)) h4⟩
    | succ k =>
      simp at h
      obtain ⟨Fa, Fd, Fb, cs, k1, rfl, k3, k4⟩ := ownA_at h4 h
      refine ⟨F1 ++ Fa, Fd, Fb, cs, by simpa using k1, by simp, k3, fun w' d' cs' h5 h6 => ?_⟩
      rw [List.set_cons_succ, List.set_cons_succ, ownA]
      exact ⟨F1, Fa ++ (Fd ++ Fb), c1, c2.set k cs', rfl, rfl, own_same x e F1 c1 (fun g hg => h6 g (by simp [hg])) h3, k4 w' d' cs' h5 (fun g hg => h6 g (by
        rcases List.mem_append.1 hg with hg | hg
        · simp [hg]
        · simp [hg]))⟩
theorem ownA_len : ∀ {l : List D} {e : TypeId} {F : List Nat} {css : List (List Value)}, ownA P w l e F css → l.length = css.length
  | [], _, _, _, h => by rw [ownA] at h; rw [h.2]; rfl
  | x :: t, _, _, _, h => by
    rw [ownA] at h
    obtain ⟨F1, F2, c1, c2, _, rfl, _, h5⟩ := h
    simp [ownA_len h5]
/-- An element taken out of an owned slice, and what it takes to put another in its place. -/
theorem own_elem {xs : List D} {t e : TypeId} {F : List Nat} {A : Option Addr} {n c k : Nat} {d : D} (ht : P.underlying t = some (.slice e)) (h : own P w (.sl xs) t F [.slice A n c]) (hF : F.Nodup) (hk : xs[k]? = some d) :
    ∃ g Fd cs pre post, A = some ⟨g, 0, none⟩ ∧ own P w d e Fd cs ∧ pre.length = k * cs.length ∧ Blk w g e (pre ++ (cs ++ post)) ∧ g ∉ Fd ∧ Fd.Nodup ∧ (∀ x ∈ Fd, x ∈ F) ∧ g ∈ F ∧
      ∀ (w' : World) (d' : D) (cs' : List Value), cs'.length = cs.length → own P w' d' e Fd cs' → Blk w' g e (pre ++ (cs' ++ post)) → (∀ x ∈ F, x ≠ g → x ∉ Fd → w'.heap[x]? = w.heap[x]?) → own P w' (.sl (xs.set k d')) t F [.slice A n c] := by
  rw [own] at h
  obtain ⟨e', A', n', c', s, rows, F2, h1, h2, h3, hm, h4, rfl, h6⟩ := h
  obtain rfl : e = e' := by rw [ht] at h1; injection h1 with h1; injection h1
  injection h3 with h3; injection h3 with e1 e2 e3; subst e1 e2 e3
  obtain ⟨Fa, Fd, Fb, cs, k1, rfl, k3, k4⟩ := ownA_at h6 hk
  have hlen := ownA_len h6
  have hn := h4.1
  rcases h4.2.2 with ⟨h0, h00⟩ | ⟨g, cap, cur, h0, hg, hh, hc, hmm, hz, hr⟩
  · exfalso
    have := (List.getElem?_eq_some_iff.1 hk).1
    rw [List.length_map] at hlen
    omega
  injection h0 with h0 _ h01
  subst h0 h01
  rw [List.getElem?_map] at k1
  cases hr0 : rows[k]? with
  | none => simp [hr0] at k1
  | some r =>
  simp [hr0] at k1
  subst k1
  have hs : r.v.length = s := Row.len r
  have hkn : k < rows.length := (List.getElem?_eq_some_iff.1 hr0).1
  have hnd := List.nodup_cons.1 hF
  have hnd2 := List.nodup_append.1 (show (Fa ++ (Fd ++ Fb)).Nodup from hnd.2)
  have hnd3 := List.nodup_append.1 hnd2.2.1
  have e4 : rows = rows.take k ++ (r :: rows.drop (k + 1)) := by
    rw [List.getElem?_eq_getElem hkn] at hr0; injection hr0 with hr0
    rw [← hr0, ← List.drop_eq_getElem_cons hkn, List.take_append_drop]
  have lp : ((rows.take k).flatMap Row.v).length = k * s := by rw [flat_length Row.len, List.length_take]; congr 1; omega
  have ec : cur.toList = (rows.take k).flatMap Row.v ++ (r.v ++ ((rows.drop (k + 1)).flatMap Row.v ++ cur.toList.drop (n * s))) := by
    conv => lhs; rw [← List.take_append_drop (n * s) cur.toList, hr, e4]
    simp
  refine ⟨g, Fd, r.v, (rows.take k).flatMap Row.v, (rows.drop (k + 1)).flatMap Row.v ++ cur.toList.drop (n * s), rfl, k3, by rw [hs]; exact lp, ?_, ?_, hnd3.1, fun x hx => by simp [hx], by simp [ablk], ?_⟩
  · unfold Blk; rw [← ec]; exact hh
  · intro hm; exact hnd.1 (by simp [hm])
  intro w' d' cs' q1 q2 q3 q4
  rw [own]
  have hs' : cs'.length = s := by rw [q1, hs]
  have e5 : (rows.set k ⟨cs', hs'⟩).map Row.v = (rows.map Row.v).set k cs' := by rw [List.map_set]
  have e6 : (rows.set k ⟨cs', hs'⟩).flatMap Row.v = (rows.take k).flatMap Row.v ++ (cs' ++ (rows.drop (k + 1)).flatMap Row.v) := by
    have : rows.set k (⟨cs', hs'⟩ : Row s) = rows.take k ++ ((⟨cs', hs'⟩ : Row s) :: rows.drop (k + 1)) := List.set_eq_take_append_cons_drop .. |>.trans (by rw [if_pos hkn])
    rw [this]; simp
  refine ⟨e, _, n, c, s, rows.set k ⟨cs', hs'⟩, Fa ++ (Fd ++ Fb), ht, h2, rfl, hm, ⟨by rw [List.length_set]; exact hn, by rw [flat_length Row.len, List.length_set, hn], .inr ⟨g, c, ((rows.take k).flatMap Row.v ++ (cs' ++ ((rows.drop (k + 1)).flatMap Row.v ++ cur.toList.drop (n * s)))).toArray, rfl, hg, q3, hc, hmm, ?_, ?_⟩⟩, rfl, ?_⟩
  · have h7 : cur.toList.length = c * s := by rw [Array.length_toList]; exact hz
    rw [ec] at h7
    simp only [List.size_toArray, List.length_append] at h7 ⊢
    rw [hs] at h7; rw [hs']; exact h7
  · rw [e6]
    have h8 : ((rows.take k).flatMap Row.v ++ (cs' ++ (rows.drop (k + 1)).flatMap Row.v)).length = n * s := by rw [← e6, flat_length Row.len, List.length_set, hn]
    have h9 : (rows.take k).flatMap Row.v ++ (cs' ++ ((rows.drop (k + 1)).flatMap Row.v ++ cur.toList.drop (n * s))) = ((rows.take k).flatMap Row.v ++ (cs' ++ (rows.drop (k + 1)).flatMap Row.v)) ++ cur.toList.drop (n * s) := by simp
    show List.take (n * s) (List.toArray _).toList = _
    rw [h9, List.take_left' h8]
  · rw [e5]
    refine k4 w' d' cs' q2 (fun x hx => q4 x ?_ ?_ ?_)
    · rcases List.mem_append.1 hx with hx | hx
      · simp [hx]
      · simp [hx]
    · rintro rfl
      refine hnd.1 ?_
      rcases List.mem_append.1 hx with hx | hx
      · simp [hx]
      · simp [hx]
    · intro hd
      rcases List.mem_append.1 hx with hx | hx
      · exact hnd2.2.2 x hx x (by simp [hd]) rfl
      · exact hnd3.2.2 x hd x hx rfl
/-- A store into the element that was taken out. -/
theorem Blk.put_ {g : Nat} {t : TypeId} {pre cs post : List Value} {m j o : Nat} (h : Blk w g t (pre ++ (cs ++ post))) (hp : pre.length = m) (hj : j < cs.length) (ho : o = m + j) (u : Value) : Blk (w.setCell ⟨g, o, none⟩ u) g t (pre ++ (cs.set j u ++ post)) := by
  have := h.set_ o u
  rwa [List.set_append_right _ _ (by omega), show o - pre.length = j from by omega, List.set_append_left _ _ hj] at this
theorem Blk.elem {g : Nat} {t : TypeId} {pre cs post : List Value} {m : Nat} (h : Blk w g t (pre ++ (cs ++ post))) (hp : pre.length = m) (j : Nat) (hj : j < cs.length) : w.cell? ⟨g, m + j, none⟩ = some (cs[j]'hj) := by
  rw [h.cell, List.getElem?_append_right (by omega), show m + j - pre.length = j from by omega, List.getElem?_append_left hj, List.getElem?_eq_getElem hj]
theorem Mod.poke {F : List Nat} {p : Addr} (hp : p.block ∈ F) (u : Value) : Mod F w (w.setCell p u) :=
  ⟨⟨rfl, rfl, rfl⟩, by simp [World.setCell], fun g _ hn => Below.heap_setCell w p u g (by rintro rfl; exact hn hp)⟩
theorem mod_in {F G : List Nat} {w' w2 : World} (h : Mod F w w') (k : Mod G w' w2) (hG : ∀ g ∈ G, g ∈ F) : Mod F w w2 := h.trans k (fun g hg => .inl (hG g hg))
theorem mod_below {F : List Nat} {w' w2 : World} (h : Mod F w w') (k : Below w'.heap.size w' w2) : Mod F w w2 := h.trans (Mod.of_below (F := []) k) (fun g hg => absurd hg (by simp))
end
theorem sl_atD {w : World} {B : Nat} {xs : List D} {A : Option Addr} {n c k : Nat} (h : rep w B (.sl xs) [.slice A n c]) (hk : k < n) :
    ∃ b off d cs, A = some ⟨b, off, none⟩ ∧ b < B ∧ xs[k]? = some d ∧ rep w B d cs ∧ ∀ j u, cs[j]? = some u → w.cell? ⟨b, off + k * cs.length + j, none⟩ = some u :=
  sl_at (f := id) (l := xs) (by rw [List.map_id]; exact h) hk
theorem markText_k (k : Nat) (w : World) {z : Int} (hz : z = (k : Int)) (hk : (k : Int) ≤ 1152921504606846976) :
    Calls Try.prog 92 #[.int .i64 z] w fun e w' => e = .returned (sv (mk k)) ∧ Below w.heap.size w w' := by
  subst hz; exact markText_nat k w hk
theorem mk_max {k : Nat} (hk : k ≤ 1152921504606846976) : (mk k).length ≤ maxLen := by have := mk_len k; unfold maxLen; omega
end Go.Proofs.Ytekcpadlmfaihaa
namespace Go.Proofs.Ytekcpadlmfaihaa
open Go.RowKit
set_option maxRecDepth 100000 in
set_option maxHeartbeats 16000000 in
theorem markStringS_of (l : List Str) (A : Option Addr) (n c : Nat) (F : List Nat) (z : Int) (k cn : Nat) (w : World) (h : own Try.prog w (.sl (l.map D.s)) 24 F [.slice A n c]) (hF : F.Nodup) (hz : z = (k : Int)) (hcn : cntDs (l.map D.s) = cn) (hk : k + cn ≤ 1152921504606846976) :
    Calls Try.prog 63 #[.slice A n c, .int .i64 z] w fun e w' => e = .returned (.int .i64 (z + (cn : Int))) ∧ own Try.prog w' (.sl (mkDs (l.map D.s) k)) 24 F [.slice A n c] ∧ Mod F w w' := by
  obtain ⟨hll, hlc, hcm⟩ := rep_sl_len (own_rep _ _ _ _ h)
  unfold maxLen at hcm
  rw [List.length_map] at hll
  obtain rfl := hz
  have HL := Lib.hid hll
  have HC := Lib.hid hcn
  clear hll hcn
  go_enter Try.func63, Try.ntmps63
  go_wp2_with fail
  go_loopw [1, 5] (fun m i wr => ∃ (j Q : Nat), j ≤ n ∧ i = .int .i64 j ∧ m = .int .i64 (Q : Int) ∧ Q = k + cntDs ((l.map D.s).take j) ∧ own Try.prog wr (.sl (mkTo (l.map D.s) k j)) 24 F [.slice A n c] ∧ Mod F w wr) (fun _ i _ => n - (intOf i).toNat)
  case atStart => exact ⟨0, k, by omega, rfl, rfl, by simp [cntDs], by rw [mkTo_zero]; exact h, Mod.refl⟩
  case round =>
    obtain ⟨j, Q, hj, rfl, rfl, hQ, ho, hm⟩ := hrel
    by_cases hlt : j < n
    · obtain ⟨x, hx⟩ : ∃ x, l[j]? = some x := ⟨_, List.getElem?_eq_getElem (by rw [HL.out]; exact hlt)⟩
      have hxm : (l.map D.s)[j]? = some (D.s x) := by rw [List.getElem?_map, hx]; rfl
      have hN : (mkTo (l.map D.s) k j).set j (mkD (D.s x) Q) = mkTo (l.map D.s) k (j + 1) := by rw [hQ]; exact mkTo_next hxm
      have hT := cntDs_take hxm
      have hU := cntDs_le (l.map D.s) (j + 1)
      rw [HC.out, hT] at hU
      obtain ⟨g, Fd, cs, pre, post, rfl, hod, hp, hB0, hgF, hnd, hsub, hgm, hput⟩ := own_elem Try.underlying24 ho hF (mkTo_at hxm)
      rw [own] at hod
      obtain ⟨rfl, rfl, _⟩ := hod
      have hc : cntD (D.s x) = 1 := by simp only [cntD]
      replace hp : pre.length = j := by simpa using hp
      have hq : (Q : Int) + (1) ≤ 1152921504606846976 := by rw [hc] at hU; omega
      have HQ := Lib.hid hQ
      have HX := Lib.hid hx
      have HN := Lib.hid hN
      have HT := Lib.hid hT
      have HK := Lib.hid hc
      clear hQ hx hxm hN hT hU hc
      have m0 : Mod (g :: ([])) wr wr := Mod.refl
      have c0_0 : wr.cell? ⟨g, j, none⟩ = some (sv x) := hB0.elem hp 0 (by simp)
      have f0_0 : wr.frozen? ⟨g, j, none⟩ = false := hB0.frozen _
      go_wp2_with fail
      refine (markText_k (Q) _ (by omega) (by omega)).mono ?_
      rintro e w1 ⟨rfl, b1⟩
      have B1 : Blk w1 g 9 (pre ++ ([sv x] ++ post)) := Blk.next hB0 b1
      have m1 := mod_below m0 b1
      have c0_1 : w1.cell? ⟨g, j, none⟩ = some (sv x) := B1.elem hp 0 (by simp)
      have f0_1 : w1.frozen? ⟨g, j, none⟩ = false := B1.frozen _
      go_wp2_with fail
      go_roundw
      case rel => exact ⟨j + 1, Q + 1, by omega, by go_num, by go_num, by have h1 := HQ.out; have h2 := HT.out; have h3 := HK.out; omega, by rw [← HN.out]; exact hput _ _ [sv (mk (Q))] rfl (by simp only [mkD]; rw [own]; exact ⟨rfl, rfl, mk_max (by omega)⟩) (Blk.put_ B1 hp (j := 0) (by simp) (by rfl) _) (fun y hy hyg hyd => (mod_in m1 (Mod.poke (F := g :: ([])) (by simp) _) (fun _ h => h)).2.2 y (own_lt _ _ _ _ ho y hy) (fun hm => by rcases List.mem_cons.1 hm with e | hm; exact hyg e; exact hyd hm)), hm.trans (mod_in m1 (Mod.poke (F := g :: ([])) (by simp) _) (fun _ h => h)) (fun y hy => .inl (by rcases List.mem_cons.1 hy with rfl | hy; exact hgm; exact hsub y hy))⟩
      case measure => simp [intOf]; omega
    · obtain rfl : j = n := by omega
      rw [mkTo_all (by rw [List.length_map, HL.out]; exact Nat.le_refl _)] at ho
      rw [List.take_of_length_le (by rw [List.length_map, HL.out]; exact Nat.le_refl _), HC.out] at hQ
      subst hQ
      go_wp2_with fail
      go_ret
      exact ⟨ret_int (by omega), ho, hm⟩
set_option maxRecDepth 100000 in
set_option maxHeartbeats 16000000 in
theorem heldStringS_of (l : List Str) (A : Option Addr) (n c : Nat) (z : Int) (k cn : Nat) (w : World) (h : rep w w.heap.size (.sl (mkDs (l.map D.s) k)) [.slice A n c]) (hz : z = (k : Int)) (hcn : cntDs (l.map D.s) = cn) (hk : k + cn ≤ 1152921504606846976) :
    Calls Try.prog 69 #[.slice A n c, .int .i64 z] w fun e w' => e = .returned (.int .i64 (z + (cn : Int))) ∧ Below w.heap.size w w' := by
  obtain ⟨hll, hlc, hcm⟩ := rep_sl_len h
  unfold maxLen at hcm
  rw [mkDs_len, List.length_map] at hll
  obtain rfl := hz
  have HL := Lib.hid hll
  have HC := Lib.hid hcn
  clear hll hcn
  go_enter Try.func69, Try.ntmps69
  go_wp2_with fail
  go_loopw [1, 5] (fun m i wr => ∃ (j Q : Nat), j ≤ n ∧ i = .int .i64 j ∧ m = .int .i64 (Q : Int) ∧ Q = k + cntDs ((l.map D.s).take j) ∧ Below w.heap.size w wr) (fun _ i _ => n - (intOf i).toNat)
  case atStart => exact ⟨0, k, by omega, rfl, rfl, by simp [cntDs], Below.refl _ _⟩
  case round =>
    obtain ⟨j, Q, hj, rfl, rfl, hQ, hb0⟩ := hrel
    by_cases hlt : j < n
    · obtain ⟨x, hx⟩ : ∃ x, l[j]? = some x := ⟨_, List.getElem?_eq_getElem (by rw [HL.out]; exact hlt)⟩
      have hxm : (l.map D.s)[j]? = some (D.s x) := by rw [List.getElem?_map, hx]; rfl
      have hT := cntDs_take hxm
      have hU := cntDs_le (l.map D.s) (j + 1)
      rw [HC.out, hT] at hU
      obtain ⟨b, off, d, cs, rfl, hbl, hd, hr, hcc⟩ := sl_atD (rep_below h hb0) hlt
      rw [mkDs_at hxm, ← hQ] at hd
      injection hd with hd
      subst hd
      simp only [mkD] at hr
      rw [rep] at hr
      obtain ⟨rfl, _⟩ := hr
      have hc : cntD (D.s x) = 1 := by simp only [cntD]
      have hq : (Q : Int) + (1) ≤ 1152921504606846976 := by rw [hc] at hU; omega
      have HQ := Lib.hid hQ
      have HX := Lib.hid hx
      have HT := Lib.hid hT
      have HK := Lib.hid hc
      clear hQ hx hxm hT hU hc
      have c0_0 : wr.cell? ⟨b, off + j, none⟩ = some (sv (mk (Q))) := by first | exact hcc 0 _ rfl | simpa using hcc 0 _ rfl
      clear hcc
      have i0 : (mk (Q) == mk (Q)) = true := by simp
      have y0 : b < wr.heap.size := by have := hb0.size; omega
      have i91 : (0 : Int) ≤ (j : Int) := by omega
      have i92 : (j : Int) < (n : Int) := by omega
      go_wp2_with fail
      go_region_held3 (fun w' => w'.cell? ⟨b, off + j, none⟩ = some (sv (mk (Q)))) (first | exact c0_0 | exact (b1.cell y0).trans c0_0) (first | (go_at_call 92; refine (markText_k (Q) _ (by omega) (by omega)).mono ?_; rintro e w1 ⟨rfl, b1⟩))
      have hb1 := bth hb0.drew b1
      have y1 : b < w1.heap.size := Nat.lt_of_lt_of_le y0 b1.size
      have c0_1 : w1.cell? ⟨b, off + j, none⟩ = some (sv (mk (Q))) := (b1.cell y0).trans c0_0
      go_wp2_with fail
      go_roundw
      case rel => exact ⟨j + 1, Q + 1, by omega, by go_num, by go_num, by have h1 := HQ.out; have h2 := HT.out; have h3 := HK.out; omega, hb1⟩
      case measure => simp [intOf]; omega
    · obtain rfl : j = n := by omega
      rw [List.take_of_length_le (by rw [List.length_map, HL.out]; exact Nat.le_refl _), HC.out] at hQ
      subst hQ
      go_wp2_with fail
      go_ret
      exact ⟨ret_int (by omega), hb0⟩
end Go.Proofs.Ytekcpadlmfaihaa
namespace Go.Proofs.Ytekcpadlmfaihaa
open Go.RowKit
set_option maxRecDepth 100000 in
set_option maxHeartbeats 16000000 in
theorem markIntS_of (l : List Int) (A : Option Addr) (n c : Nat) (F : List Nat) (z : Int) (k cn : Nat) (w : World) (h : own Try.prog w (.sl (l.map (D.i .i64))) 41 F [.slice A n c]) (hF : F.Nodup) (hz : z = (k : Int)) (hcn : cntDs (l.map (D.i .i64)) = cn) (hk : k + cn ≤ 1152921504606846976) :
    Calls Try.prog 64 #[.slice A n c, .int .i64 z] w fun e w' => e = .returned (.int .i64 (z + (cn : Int))) ∧ own Try.prog w' (.sl (mkDs (l.map (D.i .i64)) k)) 41 F [.slice A n c] ∧ Mod F w w' := by
  obtain ⟨hll, hlc, hcm⟩ := rep_sl_len (own_rep _ _ _ _ h)
  unfold maxLen at hcm
  rw [List.length_map] at hll
  obtain rfl := hz
  have HL := Lib.hid hll
  have HC := Lib.hid hcn
  clear hll hcn
  go_enter Try.func64, Try.ntmps64
  go_wp2_with fail
  go_loopw [1, 5] (fun m i wr => ∃ (j Q : Nat), j ≤ n ∧ i = .int .i64 j ∧ m = .int .i64 (Q : Int) ∧ Q = k + cntDs ((l.map (D.i .i64)).take j) ∧ own Try.prog wr (.sl (mkTo (l.map (D.i .i64)) k j)) 41 F [.slice A n c] ∧ Mod F w wr) (fun _ i _ => n - (intOf i).toNat)
  case atStart => exact ⟨0, k, by omega, rfl, rfl, by simp [cntDs], by rw [mkTo_zero]; exact h, Mod.refl⟩
  case round =>
    obtain ⟨j, Q, hj, rfl, rfl, hQ, ho, hm⟩ := hrel
    by_cases hlt : j < n
    · obtain ⟨x, hx⟩ : ∃ x, l[j]? = some x := ⟨_, List.getElem?_eq_getElem (by rw [HL.out]; exact hlt)⟩
      have hxm : (l.map (D.i .i64))[j]? = some ((D.i .i64) x) := by rw [List.getElem?_map, hx]; rfl
      have hN : (mkTo (l.map (D.i .i64)) k j).set j (mkD ((D.i .i64) x) Q) = mkTo (l.map (D.i .i64)) k (j + 1) := by rw [hQ]; exact mkTo_next hxm
      have hT := cntDs_take hxm
      have hU := cntDs_le (l.map (D.i .i64)) (j + 1)
      rw [HC.out, hT] at hU
      obtain ⟨g, Fd, cs, pre, post, rfl, hod, hp, hB0, hgF, hnd, hsub, hgm, hput⟩ := own_elem Try.underlying41 ho hF (mkTo_at hxm)
      rw [own] at hod
      obtain ⟨rfl, rfl, _⟩ := hod
      have hc : cntD ((D.i .i64) x) = 1 := by simp only [cntD]
      replace hp : pre.length = j := by simpa using hp
      have hq : (Q : Int) + (1) ≤ 1152921504606846976 := by rw [hc] at hU; omega
      have HQ := Lib.hid hQ
      have HX := Lib.hid hx
      have HN := Lib.hid hN
      have HT := Lib.hid hT
      have HK := Lib.hid hc
      clear hQ hx hxm hN hT hU hc
      have m0 : Mod (g :: ([])) wr wr := Mod.refl
      have c0_0 : wr.cell? ⟨g, j, none⟩ = some (.int .i64 x) := hB0.elem hp 0 (by simp)
      have f0_0 : wr.frozen? ⟨g, j, none⟩ = false := hB0.frozen _
      go_wp2_with fail
      go_roundw
      case rel => exact ⟨j + 1, Q + 1, by omega, by go_num, by go_num, by have h1 := HQ.out; have h2 := HT.out; have h3 := HK.out; omega, by rw [← HN.out]; exact hput _ _ [.int .i64 ((Q : Int))] rfl (by simp only [mkD]; rw [own]; exact ⟨rfl, rfl, wf64.2 (by constructor <;> omega)⟩) (Blk.put_ hB0 hp (j := 0) (by simp) (by rfl) _) (fun y hy hyg hyd => (mod_in m0 (Mod.poke (F := g :: ([])) (by simp) _) (fun _ h => h)).2.2 y (own_lt _ _ _ _ ho y hy) (fun hm => by rcases List.mem_cons.1 hm with e | hm; exact hyg e; exact hyd hm)), hm.trans (mod_in m0 (Mod.poke (F := g :: ([])) (by simp) _) (fun _ h => h)) (fun y hy => .inl (by rcases List.mem_cons.1 hy with rfl | hy; exact hgm; exact hsub y hy))⟩
      case measure => simp [intOf]; omega
    · obtain rfl : j = n := by omega
      rw [mkTo_all (by rw [List.length_map, HL.out]; exact Nat.le_refl _)] at ho
      rw [List.take_of_length_le (by rw [List.length_map, HL.out]; exact Nat.le_refl _), HC.out] at hQ
      subst hQ
      go_wp2_with fail
      go_ret
      exact ⟨ret_int (by omega), ho, hm⟩
end Go.Proofs.Ytekcpadlmfaihaa
namespace Go.Proofs.Ytekcpadlmfaihaa
open Go.RowKit
theorem Item_ownopen {w : World} {x : Item} {F : List Nat} {cs : List Value} (h : own Try.prog w x.toD 101 F cs) : ∃ (_ : Unit), cs = [.int .i64 x.num, .int .i64 x.den, sv x.text] ∧ F = [] := by
  rw [Item_toD, own] at h
  obtain ⟨fds, css, h1, rfl, h⟩ := h
  rw [Try.underlying101] at h1
  injection h1 with h1
  injection h1 with h1
  subst h1
  replace h : ownL Try.prog w [.i .i64 x.num, .i .i64 x.den, .s x.text] [3, 3, 9] F css := h
  rw [ownL] at h
  obtain ⟨t0, u0, G0, H0, d0, e0, ht, rfl, rfl, k0, h⟩ := h
  injection ht with ht1 ht2
  subst ht1 ht2
  rw [own] at k0
  obtain ⟨rfl, rfl, _⟩ := k0
  rw [ownL] at h
  obtain ⟨t1, u1, G1, H1, d1, e1, ht, rfl, rfl, k1, h⟩ := h
  injection ht with ht1 ht2
  subst ht1 ht2
  rw [own] at k1
  obtain ⟨rfl, rfl, _⟩ := k1
  rw [ownL] at h
  obtain ⟨t2, u2, G2, H2, d2, e2, ht, rfl, rfl, k2, h⟩ := h
  injection ht with ht1 ht2
  subst ht1 ht2
  rw [own] at k2
  obtain ⟨rfl, rfl, _⟩ := k2
  rw [ownL] at h
  obtain ⟨_, rfl, rfl⟩ := h
  exact ⟨(), rfl, rfl⟩
theorem Item_cnt (x : Item) : cntD x.toD = 1 + 1 + 1 := by
  rw [Item_toD]; simp only [cntD, cntDs] <;> omega
theorem Item_ownM {w : World} {x : Item} {q : Nat} {cs : List Value} {znum : Int} {zden : Int} {ktext : Nat} (hq : q + cntD x.toD ≤ 1152921504606846976) (enum : znum = ((q : Nat) : Int)) (eden : zden = ((q + 1 : Nat) : Int)) (etext : ktext = q + 1 + 1) (hcs : cs = [.int .i64 znum, .int .i64 zden, sv (mk ktext)]) : own Try.prog w (mkD x.toD q) 101 ([]) cs := by
  have hc := Item_cnt x
  rw [hc] at hq
  clear hc
  subst enum eden etext hcs
  rw [Item_toD]
  simp only [mkD, mkDs, cntD]
  rw [own]
  exact ⟨_, [[.int .i64 ((q : Nat) : Int)], [.int .i64 ((q + 1 : Nat) : Int)], [sv (mk (q + 1 + 1))]], Try.underlying101, rfl, (ownL_cons (F1 := []) (by rw [own]; exact ⟨rfl, rfl, wf64.2 (by constructor <;> omega)⟩) (ownL_cons (F1 := []) (by rw [own]; exact ⟨rfl, rfl, wf64.2 (by constructor <;> omega)⟩) (ownL_cons (F1 := []) (by rw [own]; exact ⟨rfl, rfl, mk_max (by omega)⟩) ownL_nil)))⟩
theorem Item_mopen {w : World} {B : Nat} {x : Item} {q : Nat} {cs : List Value} {znum : Int} {zden : Int} {ktext : Nat} (h : rep w B (mkD x.toD q) cs) (enum : znum = ((q : Nat) : Int)) (eden : zden = ((q + 1 : Nat) : Int)) (etext : ktext = q + 1 + 1) : ∃ (_ : Unit), cs = [.int .i64 znum, .int .i64 zden, sv (mk ktext)] := by
  subst enum eden etext
  rw [Item_toD] at h
  simp only [mkD, mkDs, cntD] at h
  rw [rep] at h
  obtain ⟨css, rfl, h⟩ := h
  rw [repL] at h
  obtain ⟨d0, css, rfl, k0, h⟩ := h
  rw [rep] at k0
  obtain ⟨rfl, _⟩ := k0
  rw [repL] at h
  obtain ⟨d1, css, rfl, k1, h⟩ := h
  rw [rep] at k1
  obtain ⟨rfl, _⟩ := k1
  rw [repL] at h
  obtain ⟨d2, css, rfl, k2, h⟩ := h
  rw [rep] at k2
  obtain ⟨rfl, _⟩ := k2
  rw [repL] at h
  subst h
  exact ⟨(), rfl⟩
set_option maxRecDepth 100000 in
set_option maxHeartbeats 16000000 in
theorem markItemS_of (l : List Item) (A : Option Addr) (n c : Nat) (F : List Nat) (z : Int) (k cn : Nat) (w : World) (h : own Try.prog w (.sl (l.map Item.toD)) 31 F [.slice A n c]) (hF : F.Nodup) (hz : z = (k : Int)) (hcn : cntDs (l.map Item.toD) = cn) (hk : k + cn ≤ 1152921504606846976) :
    Calls Try.prog 65 #[.slice A n c, .int .i64 z] w fun e w' => e = .returned (.int .i64 (z + (cn : Int))) ∧ own Try.prog w' (.sl (mkDs (l.map Item.toD) k)) 31 F [.slice A n c] ∧ Mod F w w' := by
  obtain ⟨hll, hlc, hcm⟩ := rep_sl_len (own_rep _ _ _ _ h)
  unfold maxLen at hcm
  rw [List.length_map] at hll
  obtain rfl := hz
  have HL := Lib.hid hll
  have HC := Lib.hid hcn
  clear hll hcn
  go_enter Try.func65, Try.ntmps65
  go_wp2_with fail
  go_loopw [1, 5] (fun m i wr => ∃ (j Q : Nat), j ≤ n ∧ i = .int .i64 j ∧ m = .int .i64 (Q : Int) ∧ Q = k + cntDs ((l.map Item.toD).take j) ∧ own Try.prog wr (.sl (mkTo (l.map Item.toD) k j)) 31 F [.slice A n c] ∧ Mod F w wr) (fun _ i _ => n - (intOf i).toNat)
  case atStart => exact ⟨0, k, by omega, rfl, rfl, by simp [cntDs], by rw [mkTo_zero]; exact h, Mod.refl⟩
  case round =>
    obtain ⟨j, Q, hj, rfl, rfl, hQ, ho, hm⟩ := hrel
    by_cases hlt : j < n
    · obtain ⟨x, hx⟩ : ∃ x, l[j]? = some x := ⟨_, List.getElem?_eq_getElem (by rw [HL.out]; exact hlt)⟩
      have hxm : (l.map Item.toD)[j]? = some x.toD := by rw [List.getElem?_map, hx]; rfl
      have hN : (mkTo (l.map Item.toD) k j).set j (mkD x.toD Q) = mkTo (l.map Item.toD) k (j + 1) := by rw [hQ]; exact mkTo_next hxm
      have hT := cntDs_take hxm
      have hU := cntDs_le (l.map Item.toD) (j + 1)
      rw [HC.out, hT] at hU
      obtain ⟨g, Fd, cs, pre, post, rfl, hod, hp, hB0, hgF, hnd, hsub, hgm, hput⟩ := own_elem Try.underlying31 ho hF (mkTo_at hxm)
      obtain ⟨_, rfl, rfl⟩ := Item_ownopen hod
      replace hp : pre.length = j * 3 := hp
      have hc := Item_cnt x
      have hq : (Q : Int) + (1 + 1 + 1) ≤ 1152921504606846976 := by rw [hc] at hU; omega
      have HQ := Lib.hid hQ
      have HX := Lib.hid hx
      have HN := Lib.hid hN
      have HT := Lib.hid hT
      have HK := Lib.hid hc
      clear hQ hx hxm hN hT hU hc
      have m0 : Mod (g :: ([])) wr wr := Mod.refl
      have c0_0 : wr.cell? ⟨g, j * 3, none⟩ = some (.int .i64 x.num) := hB0.elem hp 0 (by simp)
      have f0_0 : wr.frozen? ⟨g, j * 3, none⟩ = false := hB0.frozen _
      have c1_0 : wr.cell? ⟨g, j * 3 + 1, none⟩ = some (.int .i64 x.den) := hB0.elem hp 1 (by simp)
      have f1_0 : wr.frozen? ⟨g, j * 3 + 1, none⟩ = false := hB0.frozen _
      have c2_0 : wr.cell? ⟨g, j * 3 + 2, none⟩ = some (sv x.text) := hB0.elem hp 2 (by simp)
      have f2_0 : wr.frozen? ⟨g, j * 3 + 2, none⟩ = false := hB0.frozen _
      go_wp2_with fail
      refine (markText_k (Q + 1 + 1) _ (by omega) (by omega)).mono ?_
      rintro e w1 ⟨rfl, b1⟩
      have B1 : Blk w1 g 101 (pre ++ ([.int .i64 ((Q : Int)), .int .i64 ((Q : Int) + 1), sv x.text] ++ post)) := Blk.next (Blk.put_ (Blk.put_ hB0 hp (j := 0) (by simp) (by rfl) _) hp (j := 1) (by simp) (by rfl) _) b1
      have m1 := mod_below (mod_in (mod_in m0 (Mod.poke (F := g :: ([])) (by simp) _) (fun _ h => h)) (Mod.poke (F := g :: ([])) (by simp) _) (fun _ h => h)) b1
      have c2_1 : w1.cell? ⟨g, j * 3 + 2, none⟩ = some (sv x.text) := B1.elem hp 2 (by simp)
      have f2_1 : w1.frozen? ⟨g, j * 3 + 2, none⟩ = false := B1.frozen _
      go_wp2_with fail
      go_roundw
      case rel => exact ⟨j + 1, Q + 1 + 1 + 1, by omega, by go_num, by go_num, by have h1 := HQ.out; have h2 := HT.out; have h3 := HK.out; omega, by rw [← HN.out]; exact hput _ _ [.int .i64 ((Q : Int)), .int .i64 ((Q : Int) + 1), sv (mk (Q + 1 + 1))] rfl (Item_ownM (q := Q) (by have u0 := Item_cnt x; omega) (by omega) (by omega) (by omega) rfl) (Blk.put_ B1 hp (j := 2) (by simp) (by rfl) _) (fun y hy hyg hyd => (mod_in m1 (Mod.poke (F := g :: ([])) (by simp) _) (fun _ h => h)).2.2 y (own_lt _ _ _ _ ho y hy) (fun hm => by rcases List.mem_cons.1 hm with e | hm; exact hyg e; exact hyd hm)), hm.trans (mod_in m1 (Mod.poke (F := g :: ([])) (by simp) _) (fun _ h => h)) (fun y hy => .inl (by rcases List.mem_cons.1 hy with rfl | hy; exact hgm; exact hsub y hy))⟩
      case measure => simp [intOf]; omega
    · obtain rfl : j = n := by omega
      rw [mkTo_all (by rw [List.length_map, HL.out]; exact Nat.le_refl _)] at ho
      rw [List.take_of_length_le (by rw [List.length_map, HL.out]; exact Nat.le_refl _), HC.out] at hQ
      subst hQ
      go_wp2_with fail
      go_ret
      exact ⟨ret_int (by omega), ho, hm⟩
theorem markItemS_any (l : List Item) (A : Option Addr) (n c : Nat) (F : List Nat) (z : Int) (k cn : Nat) (w : World) (h : own Try.prog w (.sl (l.map Item.toD)) 31 F [.slice A n c]) (hF : F.Nodup) (hz : z = (k : Int)) (hcn : cntDs (l.map Item.toD) = cn) (hk : k + cn ≤ 1152921504606846976) :
    Calls Try.prog 65 #[.slice A n c, .int .i64 z] w fun e w' => e = .returned (.int .i64 (z + (cn : Int))) ∧ own Try.prog w' (.sl (mkDs (l.map Item.toD) k)) 31 F [.slice A n c] ∧ Mod F w w' := markItemS_of l A n c F z k cn w h hF hz hcn hk
set_option maxRecDepth 100000 in
set_option maxHeartbeats 16000000 in
theorem heldItemS_of (l : List Item) (A : Option Addr) (n c : Nat) (z : Int) (k cn : Nat) (w : World) (h : rep w w.heap.size (.sl (mkDs (l.map Item.toD) k)) [.slice A n c]) (hz : z = (k : Int)) (hcn : cntDs (l.map Item.toD) = cn) (hk : k + cn ≤ 1152921504606846976) :
    Calls Try.prog 67 #[.slice A n c, .int .i64 z] w fun e w' => e = .returned (.int .i64 (z + (cn : Int))) ∧ Below w.heap.size w w' := by
  obtain ⟨hll, hlc, hcm⟩ := rep_sl_len h
  unfold maxLen at hcm
  rw [mkDs_len, List.length_map] at hll
  obtain rfl := hz
  have HL := Lib.hid hll
  have HC := Lib.hid hcn
  clear hll hcn
  go_enter Try.func67, Try.ntmps67
  go_wp2_with fail
  go_loopw [1, 5] (fun m i wr => ∃ (j Q : Nat), j ≤ n ∧ i = .int .i64 j ∧ m = .int .i64 (Q : Int) ∧ Q = k + cntDs ((l.map Item.toD).take j) ∧ Below w.heap.size w wr) (fun _ i _ => n - (intOf i).toNat)
  case atStart => exact ⟨0, k, by omega, rfl, rfl, by simp [cntDs], Below.refl _ _⟩
  case round =>
    obtain ⟨j, Q, hj, rfl, rfl, hQ, hb0⟩ := hrel
    by_cases hlt : j < n
    · obtain ⟨x, hx⟩ : ∃ x, l[j]? = some x := ⟨_, List.getElem?_eq_getElem (by rw [HL.out]; exact hlt)⟩
      have hxm : (l.map Item.toD)[j]? = some x.toD := by rw [List.getElem?_map, hx]; rfl
      have hT := cntDs_take hxm
      have hU := cntDs_le (l.map Item.toD) (j + 1)
      rw [HC.out, hT] at hU
      obtain ⟨b, off, d, cs, rfl, hbl, hd, hr, hcc⟩ := sl_atD (rep_below h hb0) hlt
      rw [mkDs_at hxm, ← hQ] at hd
      injection hd with hd
      subst hd
      have hc := Item_cnt x
      obtain ⟨_, rfl⟩ := Item_mopen (znum := (Q : Int)) (zden := (Q : Int) + 1) (ktext := Q + 1 + 1) hr (by omega) (by omega) (by omega)
      have hq : (Q : Int) + (1 + 1 + 1) ≤ 1152921504606846976 := by rw [hc] at hU; omega
      have HQ := Lib.hid hQ
      have HX := Lib.hid hx
      have HT := Lib.hid hT
      have HK := Lib.hid hc
      clear hQ hx hxm hT hU hc
      have c0_0 : wr.cell? ⟨b, off + j * 3, none⟩ = some (.int .i64 ((Q : Int))) := by first | exact hcc 0 _ rfl | simpa using hcc 0 _ rfl
      have c1_0 : wr.cell? ⟨b, off + j * 3 + 1, none⟩ = some (.int .i64 ((Q : Int) + 1)) := by first | exact hcc 1 _ rfl | simpa using hcc 1 _ rfl
      have c2_0 : wr.cell? ⟨b, off + j * 3 + 2, none⟩ = some (sv (mk (Q + 1 + 1))) := by first | exact hcc 2 _ rfl | simpa using hcc 2 _ rfl
      clear hcc
      have i0 : (((Q : Int)) != ((Q : Int))) = false := by simp
      have i1 : (((Q : Int) + 1) != ((Q : Int) + 1)) = false := by simp
      have i2 : (mk (Q + 1 + 1) == mk (Q + 1 + 1)) = true := by simp
      have y0 : b < wr.heap.size := by have := hb0.size; omega
      have i91 : (0 : Int) ≤ (j : Int) := by omega
      have i92 : (j : Int) < (n : Int) := by omega
      go_wp2_with fail
      go_region_held3 (fun w' => w'.cell? ⟨b, off + j * 3, none⟩ = some (.int .i64 ((Q : Int))) ∧ w'.cell? ⟨b, off + j * 3 + 1, none⟩ = some (.int .i64 ((Q : Int) + 1)) ∧ w'.cell? ⟨b, off + j * 3 + 2, none⟩ = some (sv (mk (Q + 1 + 1)))) (first | exact ⟨c0_0, c1_0, c2_0⟩ | exact ⟨(b1.cell y0).trans c0_0, (b1.cell y0).trans c1_0, (b1.cell y0).trans c2_0⟩) (first | (go_at_call 92; refine (markText_k (Q + 1 + 1) _ (by omega) (by omega)).mono ?_; rintro e w1 ⟨rfl, b1⟩))
      have hb1 := bth hb0.drew b1
      have y1 : b < w1.heap.size := Nat.lt_of_lt_of_le y0 b1.size
      have c2_1 : w1.cell? ⟨b, off + j * 3 + 2, none⟩ = some (sv (mk (Q + 1 + 1))) := (b1.cell y0).trans c2_0
      go_wp2_with fail
      go_roundw
      case rel => exact ⟨j + 1, Q + 1 + 1 + 1, by omega, by go_num, by go_num, by have h1 := HQ.out; have h2 := HT.out; have h3 := HK.out; omega, hb1⟩
      case measure => simp [intOf]; omega
    · obtain rfl : j = n := by omega
      rw [List.take_of_length_le (by rw [List.length_map, HL.out]; exact Nat.le_refl _), HC.out] at hQ
      subst hQ
      go_wp2_with fail
      go_ret
      exact ⟨ret_int (by omega), hb0⟩
theorem heldItemS_any (l : List Item) (A : Option Addr) (n c : Nat) (z : Int) (k cn : Nat) (w : World) (h : rep w w.heap.size (.sl (mkDs (l.map Item.toD) k)) [.slice A n c]) (hz : z = (k : Int)) (hcn : cntDs (l.map Item.toD) = cn) (hk : k + cn ≤ 1152921504606846976) :
    Calls Try.prog 67 #[.slice A n c, .int .i64 z] w fun e w' => e = .returned (.int .i64 (z + (cn : Int))) ∧ Below w.heap.size w w' := heldItemS_of l A n c z k cn w h hz hcn hk
end Go.Proofs.Ytekcpadlmfaihaa
namespace Go.Proofs.Ytekcpadlmfaihaa
open Go.RowKit
theorem Vector_ownopen {w : World} {x : Vec} {F : List Nat} {cs : List Value} (h : own Try.prog w x.toD 34 F cs) : ∃ (Aitems : Option Addr) (nitems : Nat) (citems : Nat) (Aparts : Option Addr) (nparts : Nat) (cparts : Nat) (Anames : Option Addr) (nnames : Nat) (cnames : Nat) (Acls : Option Addr) (ncls : Nat) (ccls : Nat) (Alevels : Option Addr) (nlevels : Nat) (clevels : Nat) (Fitems : List Nat) (Fparts : List Nat) (Fnames : List Nat) (Fcls : List Nat) (Flevels : List Nat), cs = [.int .i64 x.kind, .slice Aitems nitems citems, .slice Aparts nparts cparts, .slice Anames nnames cnames, .slice Acls ncls ccls, .slice Alevels nlevels clevels, .int .i64 x.code, .int .i64 x.env] ∧ F = Fitems ++ (Fparts ++ (Fnames ++ (Fcls ++ (Flevels ++ [])))) ∧ own Try.prog w (.sl (x.items.map Item.toD)) 31 Fitems [.slice Aitems nitems citems] ∧ own Try.prog w (.sl (x.parts.map Vec.toD)) 32 Fparts [.slice Aparts nparts cparts] ∧ own Try.prog w (.sl (x.names.map D.s)) 24 Fnames [.slice Anames nnames cnames] ∧ own Try.prog w (.sl (x.cls.map D.s)) 24 Fcls [.slice Acls ncls ccls] ∧ own Try.prog w (.sl (x.levels.map D.s)) 24 Flevels [.slice Alevels nlevels clevels] := by
  rw [Vector_toD, own] at h
  obtain ⟨fds, css, h1, rfl, h⟩ := h
  rw [Try.underlying34] at h1
  injection h1 with h1
  injection h1 with h1
  subst h1
  replace h : ownL Try.prog w [.i .i64 x.kind, .sl (x.items.map Item.toD), .sl (x.parts.map Vec.toD), .sl (x.names.map .s), .sl (x.cls.map .s), .sl (x.levels.map .s), .i .i64 x.code, .i .i64 x.env] [3, 31, 32, 24, 24, 24, 3, 3] F css := h
  rw [ownL] at h
  obtain ⟨t0, u0, G0, H0, d0, e0, ht, rfl, rfl, k0, h⟩ := h
  injection ht with ht1 ht2
  subst ht1 ht2
  rw [own] at k0
  obtain ⟨rfl, rfl, _⟩ := k0
  rw [ownL] at h
  obtain ⟨t1, u1, G1, H1, d1, e1, ht, rfl, rfl, k1, h⟩ := h
  injection ht with ht1 ht2
  subst ht1 ht2
  obtain ⟨A1, n1, q1, rfl⟩ := rep_sl_val (own_rep _ _ _ _ k1)
  rw [ownL] at h
  obtain ⟨t2, u2, G2, H2, d2, e2, ht, rfl, rfl, k2, h⟩ := h
  injection ht with ht1 ht2
  subst ht1 ht2
  obtain ⟨A2, n2, q2, rfl⟩ := rep_sl_val (own_rep _ _ _ _ k2)
  rw [ownL] at h
  obtain ⟨t3, u3, G3, H3, d3, e3, ht, rfl, rfl, k3, h⟩ := h
  injection ht with ht1 ht2
  subst ht1 ht2
  obtain ⟨A3, n3, q3, rfl⟩ := rep_sl_val (own_rep _ _ _ _ k3)
  rw [ownL] at h
  obtain ⟨t4, u4, G4, H4, d4, e4, ht, rfl, rfl, k4, h⟩ := h
  injection ht with ht1 ht2
  subst ht1 ht2
  obtain ⟨A4, n4, q4, rfl⟩ := rep_sl_val (own_rep _ _ _ _ k4)
  rw [ownL] at h
  obtain ⟨t5, u5, G5, H5, d5, e5, ht, rfl, rfl, k5, h⟩ := h
  injection ht with ht1 ht2
  subst ht1 ht2
  obtain ⟨A5, n5, q5, rfl⟩ := rep_sl_val (own_rep _ _ _ _ k5)
  rw [ownL] at h
  obtain ⟨t6, u6, G6, H6, d6, e6, ht, rfl, rfl, k6, h⟩ := h
  injection ht with ht1 ht2
  subst ht1 ht2
  rw [own] at k6
  obtain ⟨rfl, rfl, _⟩ := k6
  rw [ownL] at h
  obtain ⟨t7, u7, G7, H7, d7, e7, ht, rfl, rfl, k7, h⟩ := h
  injection ht with ht1 ht2
  subst ht1 ht2
  rw [own] at k7
  obtain ⟨rfl, rfl, _⟩ := k7
  rw [ownL] at h
  obtain ⟨_, rfl, rfl⟩ := h
  exact ⟨A1, n1, q1, A2, n2, q2, A3, n3, q3, A4, n4, q4, A5, n5, q5, G1, G2, G3, G4, G5, rfl, rfl, k1, k2, k3, k4, k5⟩
theorem Vector_cnt (x : Vec) : cntD x.toD = 1 + cntDs (x.items.map Item.toD) + cntDs (x.parts.map Vec.toD) + cntDs (x.names.map D.s) + cntDs (x.cls.map D.s) + cntDs (x.levels.map D.s) + 1 + 1 := by
  rw [Vector_toD]; simp only [cntD, cntDs] <;> omega
theorem Vector_ownM {w : World} {x : Vec} {q : Nat} {cs : List Value} {zkind : Int} {Aitems : Option Addr} {nitems citems : Nat} {Fitems : List Nat} {kitems : Nat} {Aparts : Option Addr} {nparts cparts : Nat} {Fparts : List Nat} {kparts : Nat} {Anames : Option Addr} {nnames cnames : Nat} {Fnames : List Nat} {knames : Nat} {Acls : Option Addr} {ncls ccls : Nat} {Fcls : List Nat} {kcls : Nat} {Alevels : Option Addr} {nlevels clevels : Nat} {Flevels : List Nat} {klevels : Nat} {zcode : Int} {zenv : Int} (hq : q + cntD x.toD ≤ 1152921504606846976) (ekind : zkind = ((q : Nat) : Int)) (eitems : kitems = q + 1) (ritems : own Try.prog w (.sl (mkDs (x.items.map Item.toD) kitems)) 31 Fitems [.slice Aitems nitems citems]) (eparts : kparts = q + 1 + cntDs (x.items.map Item.toD)) (rparts : own Try.prog w (.sl (mkDs (x.parts.map Vec.toD) kparts)) 32 Fparts [.slice Aparts nparts cparts]) (enames : knames = q + 1 + cntDs (x.items.map Item.toD) + cntDs (x.parts.map Vec.toD)) (rnames : own Try.prog w (.sl (mkDs (x.names.map D.s) knames)) 24 Fnames [.slice Anames nnames cnames]) (ecls : kcls = q + 1 + cntDs (x.items.map Item.toD) + cntDs (x.parts.map Vec.toD) + cntDs (x.names.map D.s)) (rcls : own Try.prog w (.sl (mkDs (x.cls.map D.s) kcls)) 24 Fcls [.slice Acls ncls ccls]) (elevels : klevels = q + 1 + cntDs (x.items.map Item.toD) + cntDs (x.parts.map Vec.toD) + cntDs (x.names.map D.s) + cntDs (x.cls.map D.s)) (rlevels : own Try.prog w (.sl (mkDs (x.levels.map D.s) klevels)) 24 Flevels [.slice Alevels nlevels clevels]) (ecode : zcode = ((q + 1 + cntDs (x.items.map Item.toD) + cntDs (x.parts.map Vec.toD) + cntDs (x.names.map D.s) + cntDs (x.cls.map D.s) + cntDs (x.levels.map D.s) : Nat) : Int)) (eenv : zenv = ((q + 1 + cntDs (x.items.map Item.toD) + cntDs (x.parts.map Vec.toD) + cntDs (x.names.map D.s) + cntDs (x.cls.map D.s) + cntDs (x.levels.map D.s) + 1 : Nat) : Int)) (hcs : cs = [.int .i64 zkind, .slice Aitems nitems citems, .slice Aparts nparts cparts, .slice Anames nnames cnames, .slice Acls ncls ccls, .slice Alevels nlevels clevels, .int .i64 zcode, .int .i64 zenv]) : own Try.prog w (mkD x.toD q) 34 (Fitems ++ (Fparts ++ (Fnames ++ (Fcls ++ (Flevels ++ []))))) cs := by
  have hc := Vector_cnt x
  rw [hc] at hq
  clear hc
  subst ekind eitems eparts enames ecls elevels ecode eenv hcs
  rw [Vector_toD]
  simp only [mkD, mkDs, cntD]
  rw [own]
  exact ⟨_, [[.int .i64 ((q : Nat) : Int)], [.slice Aitems nitems citems], [.slice Aparts nparts cparts], [.slice Anames nnames cnames], [.slice Acls ncls ccls], [.slice Alevels nlevels clevels], [.int .i64 ((q + 1 + cntDs (x.items.map Item.toD) + cntDs (x.parts.map Vec.toD) + cntDs (x.names.map D.s) + cntDs (x.cls.map D.s) + cntDs (x.levels.map D.s) : Nat) : Int)], [.int .i64 ((q + 1 + cntDs (x.items.map Item.toD) + cntDs (x.parts.map Vec.toD) + cntDs (x.names.map D.s) + cntDs (x.cls.map D.s) + cntDs (x.levels.map D.s) + 1 : Nat) : Int)]], Try.underlying34, rfl, (ownL_cons (F1 := []) (by rw [own]; exact ⟨rfl, rfl, wf64.2 (by constructor <;> omega)⟩) (ownL_cons ritems (ownL_cons rparts (ownL_cons rnames (ownL_cons rcls (ownL_cons rlevels (ownL_cons (F1 := []) (by rw [own]; exact ⟨rfl, rfl, wf64.2 (by constructor <;> omega)⟩) (ownL_cons (F1 := []) (by rw [own]; exact ⟨rfl, rfl, wf64.2 (by constructor <;> omega)⟩) ownL_nil))))))))⟩
theorem Vector_mopen {w : World} {B : Nat} {x : Vec} {q : Nat} {cs : List Value} {zkind : Int} {zcode : Int} {zenv : Int} (h : rep w B (mkD x.toD q) cs) (ekind : zkind = ((q : Nat) : Int)) (ecode : zcode = ((q + 1 + cntDs (x.items.map Item.toD) + cntDs (x.parts.map Vec.toD) + cntDs (x.names.map D.s) + cntDs (x.cls.map D.s) + cntDs (x.levels.map D.s) : Nat) : Int)) (eenv : zenv = ((q + 1 + cntDs (x.items.map Item.toD) + cntDs (x.parts.map Vec.toD) + cntDs (x.names.map D.s) + cntDs (x.cls.map D.s) + cntDs (x.levels.map D.s) + 1 : Nat) : Int)) : ∃ (Aitems : Option Addr) (nitems : Nat) (citems : Nat) (Aparts : Option Addr) (nparts : Nat) (cparts : Nat) (Anames : Option Addr) (nnames : Nat) (cnames : Nat) (Acls : Option Addr) (ncls : Nat) (ccls : Nat) (Alevels : Option Addr) (nlevels : Nat) (clevels : Nat), cs = [.int .i64 zkind, .slice Aitems nitems citems, .slice Aparts nparts cparts, .slice Anames nnames cnames, .slice Acls ncls ccls, .slice Alevels nlevels clevels, .int .i64 zcode, .int .i64 zenv] ∧ rep w B (.sl (mkDs (x.items.map Item.toD) (q + 1))) [.slice Aitems nitems citems] ∧ rep w B (.sl (mkDs (x.parts.map Vec.toD) (q + 1 + cntDs (x.items.map Item.toD)))) [.slice Aparts nparts cparts] ∧ rep w B (.sl (mkDs (x.names.map D.s) (q + 1 + cntDs (x.items.map Item.toD) + cntDs (x.parts.map Vec.toD)))) [.slice Anames nnames cnames] ∧ rep w B (.sl (mkDs (x.cls.map D.s) (q + 1 + cntDs (x.items.map Item.toD) + cntDs (x.parts.map Vec.toD) + cntDs (x.names.map D.s)))) [.slice Acls ncls ccls] ∧ rep w B (.sl (mkDs (x.levels.map D.s) (q + 1 + cntDs (x.items.map Item.toD) + cntDs (x.parts.map Vec.toD) + cntDs (x.names.map D.s) + cntDs (x.cls.map D.s)))) [.slice Alevels nlevels clevels] := by
  subst ekind ecode eenv
  rw [Vector_toD] at h
  simp only [mkD, mkDs, cntD] at h
  rw [rep] at h
  obtain ⟨css, rfl, h⟩ := h
  rw [repL] at h
  obtain ⟨d0, css, rfl, k0, h⟩ := h
  rw [rep] at k0
  obtain ⟨rfl, _⟩ := k0
  rw [repL] at h
  obtain ⟨d1, css, rfl, k1, h⟩ := h
  obtain ⟨A1, n1, q1, rfl⟩ := rep_sl_val k1
  rw [repL] at h
  obtain ⟨d2, css, rfl, k2, h⟩ := h
  obtain ⟨A2, n2, q2, rfl⟩ := rep_sl_val k2
  rw [repL] at h
  obtain ⟨d3, css, rfl, k3, h⟩ := h
  obtain ⟨A3, n3, q3, rfl⟩ := rep_sl_val k3
  rw [repL] at h
  obtain ⟨d4, css, rfl, k4, h⟩ := h
  obtain ⟨A4, n4, q4, rfl⟩ := rep_sl_val k4
  rw [repL] at h
  obtain ⟨d5, css, rfl, k5, h⟩ := h
  obtain ⟨A5, n5, q5, rfl⟩ := rep_sl_val k5
  rw [repL] at h
  obtain ⟨d6, css, rfl, k6, h⟩ := h
  rw [rep] at k6
  obtain ⟨rfl, _⟩ := k6
  rw [repL] at h
  obtain ⟨d7, css, rfl, k7, h⟩ := h
  rw [rep] at k7
  obtain ⟨rfl, _⟩ := k7
  rw [repL] at h
  subst h
  exact ⟨A1, n1, q1, A2, n2, q2, A3, n3, q3, A4, n4, q4, A5, n5, q5, rfl, k1, k2, k3, k4, k5⟩
def Vector_mkP (x : Vec) : Prop := ∀ (A : Option Addr) (n c : Nat) (F : List Nat) (z : Int) (k cn : Nat) (w : World) (h : own Try.prog w (.sl (x.parts.map Vec.toD)) 32 F [.slice A n c]) (hF : F.Nodup) (hz : z = (k : Int)) (hcn : cntDs (x.parts.map Vec.toD) = cn) (hk : k + cn ≤ 1152921504606846976), Calls Try.prog 66 #[.slice A n c, .int .i64 z] w fun e w' => e = .returned (.int .i64 (z + (cn : Int))) ∧ own Try.prog w' (.sl (mkDs (x.parts.map Vec.toD) k)) 32 F [.slice A n c] ∧ Mod F w w'
set_option maxRecDepth 100000 in
set_option maxHeartbeats 16000000 in
theorem markVectorS_of (l : List Vec) (ih : ∀ x ∈ l, Vector_mkP x) (A : Option Addr) (n c : Nat) (F : List Nat) (z : Int) (k cn : Nat) (w : World) (h : own Try.prog w (.sl (l.map Vec.toD)) 32 F [.slice A n c]) (hF : F.Nodup) (hz : z = (k : Int)) (hcn : cntDs (l.map Vec.toD) = cn) (hk : k + cn ≤ 1152921504606846976) :
    Calls Try.prog 66 #[.slice A n c, .int .i64 z] w fun e w' => e = .returned (.int .i64 (z + (cn : Int))) ∧ own Try.prog w' (.sl (mkDs (l.map Vec.toD) k)) 32 F [.slice A n c] ∧ Mod F w w' := by
  obtain ⟨hll, hlc, hcm⟩ := rep_sl_len (own_rep _ _ _ _ h)
  unfold maxLen at hcm
  rw [List.length_map] at hll
  obtain rfl := hz
  have HL := Lib.hid hll
  have HC := Lib.hid hcn
  clear hll hcn
  have HI := Lib.hid ih
  clear ih
  go_enter Try.func66, Try.ntmps66
  go_wp2_with fail
  go_loopw [1, 5] (fun m i wr => ∃ (j Q : Nat), j ≤ n ∧ i = .int .i64 j ∧ m = .int .i64 (Q : Int) ∧ Q = k + cntDs ((l.map Vec.toD).take j) ∧ own Try.prog wr (.sl (mkTo (l.map Vec.toD) k j)) 32 F [.slice A n c] ∧ Mod F w wr) (fun _ i _ => n - (intOf i).toNat)
  case atStart => exact ⟨0, k, by omega, rfl, rfl, by simp [cntDs], by rw [mkTo_zero]; exact h, Mod.refl⟩
  case round =>
    obtain ⟨j, Q, hj, rfl, rfl, hQ, ho, hm⟩ := hrel
    by_cases hlt : j < n
    · obtain ⟨x, hx⟩ : ∃ x, l[j]? = some x := ⟨_, List.getElem?_eq_getElem (by rw [HL.out]; exact hlt)⟩
      have hxm : (l.map Vec.toD)[j]? = some x.toD := by rw [List.getElem?_map, hx]; rfl
      have hN : (mkTo (l.map Vec.toD) k j).set j (mkD x.toD Q) = mkTo (l.map Vec.toD) k (j + 1) := by rw [hQ]; exact mkTo_next hxm
      have hT := cntDs_take hxm
      have hU := cntDs_le (l.map Vec.toD) (j + 1)
      rw [HC.out, hT] at hU
      have HM := Lib.hid (List.mem_of_getElem? hx)
      obtain ⟨g, Fd, cs, pre, post, rfl, hod, hp, hB0, hgF, hnd, hsub, hgm, hput⟩ := own_elem Try.underlying32 ho hF (mkTo_at hxm)
      obtain ⟨Aitems, nitems, citems, Aparts, nparts, cparts, Anames, nnames, cnames, Acls, ncls, ccls, Alevels, nlevels, clevels, Fitems, Fparts, Fnames, Fcls, Flevels, rfl, rfl, oitems_0, oparts_0, onames_0, ocls_0, olevels_0⟩ := Vector_ownopen hod
      replace hp : pre.length = j * 8 := hp
      have hc := Vector_cnt x
      obtain ⟨Nitems, hitems⟩ : ∃ N : Nat, cntDs (x.items.map Item.toD) = N := ⟨_, rfl⟩
      obtain ⟨Nparts, hparts⟩ : ∃ N : Nat, cntDs (x.parts.map Vec.toD) = N := ⟨_, rfl⟩
      obtain ⟨Nnames, hnames⟩ : ∃ N : Nat, cntDs (x.names.map D.s) = N := ⟨_, rfl⟩
      obtain ⟨Ncls, hcls⟩ : ∃ N : Nat, cntDs (x.cls.map D.s) = N := ⟨_, rfl⟩
      obtain ⟨Nlevels, hlevels⟩ : ∃ N : Nat, cntDs (x.levels.map D.s) = N := ⟨_, rfl⟩
      rw [hitems, hparts, hnames, hcls, hlevels] at hc
      have hq : (Q : Int) + (1 + (Nitems : Int) + (Nparts : Int) + (Nnames : Int) + (Ncls : Int) + (Nlevels : Int) + 1 + 1) ≤ 1152921504606846976 := by rw [hc] at hU; omega
      have HQ := Lib.hid hQ
      have HX := Lib.hid hx
      have HN := Lib.hid hN
      have HT := Lib.hid hT
      have HK := Lib.hid hc
      clear hQ hx hxm hN hT hU hc
      have Hitems := Lib.hid hitems
      clear hitems
      have Hparts := Lib.hid hparts
      clear hparts
      have Hnames := Lib.hid hnames
      clear hnames
      have Hcls := Lib.hid hcls
      clear hcls
      have Hlevels := Lib.hid hlevels
      clear hlevels
      have hnF := hnd
      have N0 := List.nodup_append.1 hnF
      have N1 := List.nodup_append.1 N0.2.1
      have N2 := List.nodup_append.1 N1.2.1
      have N3 := List.nodup_append.1 N2.2.1
      have N4 := List.nodup_append.1 N3.2.1
      have gitems : g ∉ Fitems := fun hm => hgF (by simp [hm])
      have gparts : g ∉ Fparts := fun hm => hgF (by simp [hm])
      have gnames : g ∉ Fnames := fun hm => hgF (by simp [hm])
      have gcls : g ∉ Fcls := fun hm => hgF (by simp [hm])
      have glevels : g ∉ Flevels := fun hm => hgF (by simp [hm])
      have ditems := N0.1
      have dparts := N1.1
      have dnames := N2.1
      have dcls := N3.1
      have dlevels := N4.1
      have m0 : Mod (g :: (Fitems ++ (Fparts ++ (Fnames ++ (Fcls ++ (Flevels ++ [])))))) wr wr := Mod.refl
      have c0_0 : wr.cell? ⟨g, j * 8, none⟩ = some (.int .i64 x.kind) := hB0.elem hp 0 (by simp)
      have f0_0 : wr.frozen? ⟨g, j * 8, none⟩ = false := hB0.frozen _
      have c1_0 : wr.cell? ⟨g, j * 8 + 1, none⟩ = some (.slice Aitems nitems citems) := hB0.elem hp 1 (by simp)
      have f1_0 : wr.frozen? ⟨g, j * 8 + 1, none⟩ = false := hB0.frozen _
      have c2_0 : wr.cell? ⟨g, j * 8 + 2, none⟩ = some (.slice Aparts nparts cparts) := hB0.elem hp 2 (by simp)
      have f2_0 : wr.frozen? ⟨g, j * 8 + 2, none⟩ = false := hB0.frozen _
      have c3_0 : wr.cell? ⟨g, j * 8 + 3, none⟩ = some (.slice Anames nnames cnames) := hB0.elem hp 3 (by simp)
      have f3_0 : wr.frozen? ⟨g, j * 8 + 3, none⟩ = false := hB0.frozen _
      have c4_0 : wr.cell? ⟨g, j * 8 + 4, none⟩ = some (.slice Acls ncls ccls) := hB0.elem hp 4 (by simp)
      have f4_0 : wr.frozen? ⟨g, j * 8 + 4, none⟩ = false := hB0.frozen _
      have c5_0 : wr.cell? ⟨g, j * 8 + 5, none⟩ = some (.slice Alevels nlevels clevels) := hB0.elem hp 5 (by simp)
      have f5_0 : wr.frozen? ⟨g, j * 8 + 5, none⟩ = false := hB0.frozen _
      have c6_0 : wr.cell? ⟨g, j * 8 + 6, none⟩ = some (.int .i64 x.code) := hB0.elem hp 6 (by simp)
      have f6_0 : wr.frozen? ⟨g, j * 8 + 6, none⟩ = false := hB0.frozen _
      have c7_0 : wr.cell? ⟨g, j * 8 + 7, none⟩ = some (.int .i64 x.env) := hB0.elem hp 7 (by simp)
      have f7_0 : wr.frozen? ⟨g, j * 8 + 7, none⟩ = false := hB0.frozen _
      go_wp2_with fail
      refine (markItemS_any x.items _ _ _ _ _ (Q + 1) Nitems _ (own_pk oitems_0 (by exact gitems)) ditems (by omega) Hitems.out (by omega)).mono ?_
      rintro e w1 ⟨rfl, oitems_1, b1⟩
      have B1 : Blk w1 g 34 (pre ++ ([.int .i64 ((Q : Int)), .slice Aitems nitems citems, .slice Aparts nparts cparts, .slice Anames nnames cnames, .slice Acls ncls ccls, .slice Alevels nlevels clevels, .int .i64 x.code, .int .i64 x.env] ++ post)) := Blk.mod (g := g) (Blk.put_ hB0 hp (j := 0) (by simp) (by rfl) _) b1 gitems
      have m1 := mod_in (mod_in m0 (Mod.poke (F := g :: (Fitems ++ (Fparts ++ (Fnames ++ (Fcls ++ (Flevels ++ [])))))) (by simp) _) (fun _ h => h)) b1 (fun y hy => by simp [hy])
      have oparts_1 := own_mod (own_pk oparts_0 (by exact gparts)) b1 (fun y hy hz => N0.2.2 y hz y (by simp [hy]) rfl)
      have onames_1 := own_mod (own_pk onames_0 (by exact gnames)) b1 (fun y hy hz => N0.2.2 y hz y (by simp [hy]) rfl)
      have ocls_1 := own_mod (own_pk ocls_0 (by exact gcls)) b1 (fun y hy hz => N0.2.2 y hz y (by simp [hy]) rfl)
      have olevels_1 := own_mod (own_pk olevels_0 (by exact glevels)) b1 (fun y hy hz => N0.2.2 y hz y (by simp [hy]) rfl)
      have c2_1 : w1.cell? ⟨g, j * 8 + 2, none⟩ = some (.slice Aparts nparts cparts) := B1.elem hp 2 (by simp)
      have f2_1 : w1.frozen? ⟨g, j * 8 + 2, none⟩ = false := B1.frozen _
      have c3_1 : w1.cell? ⟨g, j * 8 + 3, none⟩ = some (.slice Anames nnames cnames) := B1.elem hp 3 (by simp)
      have f3_1 : w1.frozen? ⟨g, j * 8 + 3, none⟩ = false := B1.frozen _
      have c4_1 : w1.cell? ⟨g, j * 8 + 4, none⟩ = some (.slice Acls ncls ccls) := B1.elem hp 4 (by simp)
      have f4_1 : w1.frozen? ⟨g, j * 8 + 4, none⟩ = false := B1.frozen _
      have c5_1 : w1.cell? ⟨g, j * 8 + 5, none⟩ = some (.slice Alevels nlevels clevels) := B1.elem hp 5 (by simp)
      have f5_1 : w1.frozen? ⟨g, j * 8 + 5, none⟩ = false := B1.frozen _
      have c6_1 : w1.cell? ⟨g, j * 8 + 6, none⟩ = some (.int .i64 x.code) := B1.elem hp 6 (by simp)
      have f6_1 : w1.frozen? ⟨g, j * 8 + 6, none⟩ = false := B1.frozen _
      have c7_1 : w1.cell? ⟨g, j * 8 + 7, none⟩ = some (.int .i64 x.env) := B1.elem hp 7 (by simp)
      have f7_1 : w1.frozen? ⟨g, j * 8 + 7, none⟩ = false := B1.frozen _
      go_wp2_with fail
      refine (HI.out x HM.out _ _ _ _ _ (Q + 1 + Nitems) Nparts _ oparts_1 dparts (by omega) Hparts.out (by omega)).mono ?_
      rintro e w2 ⟨rfl, oparts_2, b2⟩
      have B2 : Blk w2 g 34 (pre ++ ([.int .i64 ((Q : Int)), .slice Aitems nitems citems, .slice Aparts nparts cparts, .slice Anames nnames cnames, .slice Acls ncls ccls, .slice Alevels nlevels clevels, .int .i64 x.code, .int .i64 x.env] ++ post)) := Blk.mod (g := g) B1 b2 gparts
      have m2 := mod_in m1 b2 (fun y hy => by simp [hy])
      have oitems_2 := own_mod oitems_1 b2 (fun y hy hz => N0.2.2 y hy y (by simp [hz]) rfl)
      have onames_2 := own_mod onames_1 b2 (fun y hy hz => N1.2.2 y hz y (by simp [hy]) rfl)
      have ocls_2 := own_mod ocls_1 b2 (fun y hy hz => N1.2.2 y hz y (by simp [hy]) rfl)
      have olevels_2 := own_mod olevels_1 b2 (fun y hy hz => N1.2.2 y hz y (by simp [hy]) rfl)
      have c3_2 : w2.cell? ⟨g, j * 8 + 3, none⟩ = some (.slice Anames nnames cnames) := B2.elem hp 3 (by simp)
      have f3_2 : w2.frozen? ⟨g, j * 8 + 3, none⟩ = false := B2.frozen _
      have c4_2 : w2.cell? ⟨g, j * 8 + 4, none⟩ = some (.slice Acls ncls ccls) := B2.elem hp 4 (by simp)
      have f4_2 : w2.frozen? ⟨g, j * 8 + 4, none⟩ = false := B2.frozen _
      have c5_2 : w2.cell? ⟨g, j * 8 + 5, none⟩ = some (.slice Alevels nlevels clevels) := B2.elem hp 5 (by simp)
      have f5_2 : w2.frozen? ⟨g, j * 8 + 5, none⟩ = false := B2.frozen _
      have c6_2 : w2.cell? ⟨g, j * 8 + 6, none⟩ = some (.int .i64 x.code) := B2.elem hp 6 (by simp)
      have f6_2 : w2.frozen? ⟨g, j * 8 + 6, none⟩ = false := B2.frozen _
      have c7_2 : w2.cell? ⟨g, j * 8 + 7, none⟩ = some (.int .i64 x.env) := B2.elem hp 7 (by simp)
      have f7_2 : w2.frozen? ⟨g, j * 8 + 7, none⟩ = false := B2.frozen _
      go_wp2_with fail
      refine (markStringS_of x.names _ _ _ _ _ (Q + 1 + Nitems + Nparts) Nnames _ onames_2 dnames (by omega) Hnames.out (by omega)).mono ?_
      rintro e w3 ⟨rfl, onames_3, b3⟩
      have B3 : Blk w3 g 34 (pre ++ ([.int .i64 ((Q : Int)), .slice Aitems nitems citems, .slice Aparts nparts cparts, .slice Anames nnames cnames, .slice Acls ncls ccls, .slice Alevels nlevels clevels, .int .i64 x.code, .int .i64 x.env] ++ post)) := Blk.mod (g := g) B2 b3 gnames
      have m3 := mod_in m2 b3 (fun y hy => by simp [hy])
      have oitems_3 := own_mod oitems_2 b3 (fun y hy hz => N0.2.2 y hy y (by simp [hz]) rfl)
      have oparts_3 := own_mod oparts_2 b3 (fun y hy hz => N1.2.2 y hy y (by simp [hz]) rfl)
      have ocls_3 := own_mod ocls_2 b3 (fun y hy hz => N2.2.2 y hz y (by simp [hy]) rfl)
      have olevels_3 := own_mod olevels_2 b3 (fun y hy hz => N2.2.2 y hz y (by simp [hy]) rfl)
      have c4_3 : w3.cell? ⟨g, j * 8 + 4, none⟩ = some (.slice Acls ncls ccls) := B3.elem hp 4 (by simp)
      have f4_3 : w3.frozen? ⟨g, j * 8 + 4, none⟩ = false := B3.frozen _
      have c5_3 : w3.cell? ⟨g, j * 8 + 5, none⟩ = some (.slice Alevels nlevels clevels) := B3.elem hp 5 (by simp)
      have f5_3 : w3.frozen? ⟨g, j * 8 + 5, none⟩ = false := B3.frozen _
      have c6_3 : w3.cell? ⟨g, j * 8 + 6, none⟩ = some (.int .i64 x.code) := B3.elem hp 6 (by simp)
      have f6_3 : w3.frozen? ⟨g, j * 8 + 6, none⟩ = false := B3.frozen _
      have c7_3 : w3.cell? ⟨g, j * 8 + 7, none⟩ = some (.int .i64 x.env) := B3.elem hp 7 (by simp)
      have f7_3 : w3.frozen? ⟨g, j * 8 + 7, none⟩ = false := B3.frozen _
      go_wp2_with fail
      refine (markStringS_of x.cls _ _ _ _ _ (Q + 1 + Nitems + Nparts + Nnames) Ncls _ ocls_3 dcls (by omega) Hcls.out (by omega)).mono ?_
      rintro e w4 ⟨rfl, ocls_4, b4⟩
      have B4 : Blk w4 g 34 (pre ++ ([.int .i64 ((Q : Int)), .slice Aitems nitems citems, .slice Aparts nparts cparts, .slice Anames nnames cnames, .slice Acls ncls ccls, .slice Alevels nlevels clevels, .int .i64 x.code, .int .i64 x.env] ++ post)) := Blk.mod (g := g) B3 b4 gcls
      have m4 := mod_in m3 b4 (fun y hy => by simp [hy])
      have oitems_4 := own_mod oitems_3 b4 (fun y hy hz => N0.2.2 y hy y (by simp [hz]) rfl)
      have oparts_4 := own_mod oparts_3 b4 (fun y hy hz => N1.2.2 y hy y (by simp [hz]) rfl)
      have onames_4 := own_mod onames_3 b4 (fun y hy hz => N2.2.2 y hy y (by simp [hz]) rfl)
      have olevels_4 := own_mod olevels_3 b4 (fun y hy hz => N3.2.2 y hz y (by simp [hy]) rfl)
      have c5_4 : w4.cell? ⟨g, j * 8 + 5, none⟩ = some (.slice Alevels nlevels clevels) := B4.elem hp 5 (by simp)
      have f5_4 : w4.frozen? ⟨g, j * 8 + 5, none⟩ = false := B4.frozen _
      have c6_4 : w4.cell? ⟨g, j * 8 + 6, none⟩ = some (.int .i64 x.code) := B4.elem hp 6 (by simp)
      have f6_4 : w4.frozen? ⟨g, j * 8 + 6, none⟩ = false := B4.frozen _
      have c7_4 : w4.cell? ⟨g, j * 8 + 7, none⟩ = some (.int .i64 x.env) := B4.elem hp 7 (by simp)
      have f7_4 : w4.frozen? ⟨g, j * 8 + 7, none⟩ = false := B4.frozen _
      go_wp2_with fail
      refine (markStringS_of x.levels _ _ _ _ _ (Q + 1 + Nitems + Nparts + Nnames + Ncls) Nlevels _ olevels_4 dlevels (by omega) Hlevels.out (by omega)).mono ?_
      rintro e w5 ⟨rfl, olevels_5, b5⟩
      have B5 : Blk w5 g 34 (pre ++ ([.int .i64 ((Q : Int)), .slice Aitems nitems citems, .slice Aparts nparts cparts, .slice Anames nnames cnames, .slice Acls ncls ccls, .slice Alevels nlevels clevels, .int .i64 x.code, .int .i64 x.env] ++ post)) := Blk.mod (g := g) B4 b5 glevels
      have m5 := mod_in m4 b5 (fun y hy => by simp [hy])
      have oitems_5 := own_mod oitems_4 b5 (fun y hy hz => N0.2.2 y hy y (by simp [hz]) rfl)
      have oparts_5 := own_mod oparts_4 b5 (fun y hy hz => N1.2.2 y hy y (by simp [hz]) rfl)
      have onames_5 := own_mod onames_4 b5 (fun y hy hz => N2.2.2 y hy y (by simp [hz]) rfl)
      have ocls_5 := own_mod ocls_4 b5 (fun y hy hz => N3.2.2 y hy y (by simp [hz]) rfl)
      have c6_5 : w5.cell? ⟨g, j * 8 + 6, none⟩ = some (.int .i64 x.code) := B5.elem hp 6 (by simp)
      have f6_5 : w5.frozen? ⟨g, j * 8 + 6, none⟩ = false := B5.frozen _
      have c7_5 : w5.cell? ⟨g, j * 8 + 7, none⟩ = some (.int .i64 x.env) := B5.elem hp 7 (by simp)
      have f7_5 : w5.frozen? ⟨g, j * 8 + 7, none⟩ = false := B5.frozen _
      go_wp2_with fail
      go_roundw
      case rel => exact ⟨j + 1, Q + 1 + Nitems + Nparts + Nnames + Ncls + Nlevels + 1 + 1, by omega, by go_num, by go_num, by have h1 := HQ.out; have h2 := HT.out; have h3 := HK.out; omega, by rw [← HN.out]; exact hput _ _ [.int .i64 ((Q : Int)), .slice Aitems nitems citems, .slice Aparts nparts cparts, .slice Anames nnames cnames, .slice Acls ncls ccls, .slice Alevels nlevels clevels, .int .i64 ((Q : Int) + 1 + (Nitems : Int) + (Nparts : Int) + (Nnames : Int) + (Ncls : Int) + (Nlevels : Int)), .int .i64 ((Q : Int) + 1 + (Nitems : Int) + (Nparts : Int) + (Nnames : Int) + (Ncls : Int) + (Nlevels : Int) + 1)] rfl (Vector_ownM (q := Q) (by have u0 := Vector_cnt x; have eitems := Hitems.out; have eparts := Hparts.out; have enames := Hnames.out; have ecls := Hcls.out; have elevels := Hlevels.out; omega) (by have eitems := Hitems.out; have eparts := Hparts.out; have enames := Hnames.out; have ecls := Hcls.out; have elevels := Hlevels.out; omega) (by have eitems := Hitems.out; have eparts := Hparts.out; have enames := Hnames.out; have ecls := Hcls.out; have elevels := Hlevels.out; omega) (own_pk (own_pk oitems_5 (by exact gitems)) (by exact gitems)) (by have eitems := Hitems.out; have eparts := Hparts.out; have enames := Hnames.out; have ecls := Hcls.out; have elevels := Hlevels.out; omega) (own_pk (own_pk oparts_5 (by exact gparts)) (by exact gparts)) (by have eitems := Hitems.out; have eparts := Hparts.out; have enames := Hnames.out; have ecls := Hcls.out; have elevels := Hlevels.out; omega) (own_pk (own_pk onames_5 (by exact gnames)) (by exact gnames)) (by have eitems := Hitems.out; have eparts := Hparts.out; have enames := Hnames.out; have ecls := Hcls.out; have elevels := Hlevels.out; omega) (own_pk (own_pk ocls_5 (by exact gcls)) (by exact gcls)) (by have eitems := Hitems.out; have eparts := Hparts.out; have enames := Hnames.out; have ecls := Hcls.out; have elevels := Hlevels.out; omega) (own_pk (own_pk olevels_5 (by exact glevels)) (by exact glevels)) (by have eitems := Hitems.out; have eparts := Hparts.out; have enames := Hnames.out; have ecls := Hcls.out; have elevels := Hlevels.out; omega) (by have eitems := Hitems.out; have eparts := Hparts.out; have enames := Hnames.out; have ecls := Hcls.out; have elevels := Hlevels.out; omega) rfl) (Blk.put_ (Blk.put_ B5 hp (j := 6) (by simp) (by rfl) _) hp (j := 7) (by simp) (by rfl) _) (fun y hy hyg hyd => (mod_in (mod_in m5 (Mod.poke (F := g :: (Fitems ++ (Fparts ++ (Fnames ++ (Fcls ++ (Flevels ++ [])))))) (by simp) _) (fun _ h => h)) (Mod.poke (F := g :: (Fitems ++ (Fparts ++ (Fnames ++ (Fcls ++ (Flevels ++ [])))))) (by simp) _) (fun _ h => h)).2.2 y (own_lt _ _ _ _ ho y hy) (fun hm => by rcases List.mem_cons.1 hm with e | hm; exact hyg e; exact hyd hm)), hm.trans (mod_in (mod_in m5 (Mod.poke (F := g :: (Fitems ++ (Fparts ++ (Fnames ++ (Fcls ++ (Flevels ++ [])))))) (by simp) _) (fun _ h => h)) (Mod.poke (F := g :: (Fitems ++ (Fparts ++ (Fnames ++ (Fcls ++ (Flevels ++ [])))))) (by simp) _) (fun _ h => h)) (fun y hy => .inl (by rcases List.mem_cons.1 hy with rfl | hy; exact hgm; exact hsub y hy))⟩
      case measure => simp [intOf]; omega
    · obtain rfl : j = n := by omega
      rw [mkTo_all (by rw [List.length_map, HL.out]; exact Nat.le_refl _)] at ho
      rw [List.take_of_length_le (by rw [List.length_map, HL.out]; exact Nat.le_refl _), HC.out] at hQ
      subst hQ
      go_wp2_with fail
      go_ret
      exact ⟨ret_int (by omega), ho, hm⟩
theorem Vector_mk (x : Vec) : Vector_mkP x := Vector_ind (P := Vector_mkP) (fun v ih => markVectorS_of v.parts ih) x
theorem markVectorS_any (l : List Vec) (A : Option Addr) (n c : Nat) (F : List Nat) (z : Int) (k cn : Nat) (w : World) (h : own Try.prog w (.sl (l.map Vec.toD)) 32 F [.slice A n c]) (hF : F.Nodup) (hz : z = (k : Int)) (hcn : cntDs (l.map Vec.toD) = cn) (hk : k + cn ≤ 1152921504606846976) :
    Calls Try.prog 66 #[.slice A n c, .int .i64 z] w fun e w' => e = .returned (.int .i64 (z + (cn : Int))) ∧ own Try.prog w' (.sl (mkDs (l.map Vec.toD) k)) 32 F [.slice A n c] ∧ Mod F w w' := markVectorS_of l (fun x _ => Vector_mk x) A n c F z k cn w h hF hz hcn hk
def Vector_hdP (x : Vec) : Prop := ∀ (A : Option Addr) (n c : Nat) (z : Int) (k cn : Nat) (w : World) (h : rep w w.heap.size (.sl (mkDs (x.parts.map Vec.toD) k)) [.slice A n c]) (hz : z = (k : Int)) (hcn : cntDs (x.parts.map Vec.toD) = cn) (hk : k + cn ≤ 1152921504606846976), Calls Try.prog 68 #[.slice A n c, .int .i64 z] w fun e w' => e = .returned (.int .i64 (z + (cn : Int))) ∧ Below w.heap.size w w'
set_option maxRecDepth 100000 in
set_option maxHeartbeats 16000000 in
theorem heldVectorS_of (l : List Vec) (ih : ∀ x ∈ l, Vector_hdP x) (A : Option Addr) (n c : Nat) (z : Int) (k cn : Nat) (w : World) (h : rep w w.heap.size (.sl (mkDs (l.map Vec.toD) k)) [.slice A n c]) (hz : z = (k : Int)) (hcn : cntDs (l.map Vec.toD) = cn) (hk : k + cn ≤ 1152921504606846976) :
    Calls Try.prog 68 #[.slice A n c, .int .i64 z] w fun e w' => e = .returned (.int .i64 (z + (cn : Int))) ∧ Below w.heap.size w w' := by
  obtain ⟨hll, hlc, hcm⟩ := rep_sl_len h
  unfold maxLen at hcm
  rw [mkDs_len, List.length_map] at hll
  obtain rfl := hz
  have HL := Lib.hid hll
  have HC := Lib.hid hcn
  clear hll hcn
  have HI := Lib.hid ih
  clear ih
  go_enter Try.func68, Try.ntmps68
  go_wp2_with fail
  go_loopw [1, 5] (fun m i wr => ∃ (j Q : Nat), j ≤ n ∧ i = .int .i64 j ∧ m = .int .i64 (Q : Int) ∧ Q = k + cntDs ((l.map Vec.toD).take j) ∧ Below w.heap.size w wr) (fun _ i _ => n - (intOf i).toNat)
  case atStart => exact ⟨0, k, by omega, rfl, rfl, by simp [cntDs], Below.refl _ _⟩
  case round =>
    obtain ⟨j, Q, hj, rfl, rfl, hQ, hb0⟩ := hrel
    by_cases hlt : j < n
    · obtain ⟨x, hx⟩ : ∃ x, l[j]? = some x := ⟨_, List.getElem?_eq_getElem (by rw [HL.out]; exact hlt)⟩
      have hxm : (l.map Vec.toD)[j]? = some x.toD := by rw [List.getElem?_map, hx]; rfl
      have hT := cntDs_take hxm
      have hU := cntDs_le (l.map Vec.toD) (j + 1)
      rw [HC.out, hT] at hU
      have HM := Lib.hid (List.mem_of_getElem? hx)
      obtain ⟨b, off, d, cs, rfl, hbl, hd, hr, hcc⟩ := sl_atD (rep_below h hb0) hlt
      rw [mkDs_at hxm, ← hQ] at hd
      injection hd with hd
      subst hd
      have hc := Vector_cnt x
      obtain ⟨Nitems, hitems⟩ : ∃ N : Nat, cntDs (x.items.map Item.toD) = N := ⟨_, rfl⟩
      obtain ⟨Nparts, hparts⟩ : ∃ N : Nat, cntDs (x.parts.map Vec.toD) = N := ⟨_, rfl⟩
      obtain ⟨Nnames, hnames⟩ : ∃ N : Nat, cntDs (x.names.map D.s) = N := ⟨_, rfl⟩
      obtain ⟨Ncls, hcls⟩ : ∃ N : Nat, cntDs (x.cls.map D.s) = N := ⟨_, rfl⟩
      obtain ⟨Nlevels, hlevels⟩ : ∃ N : Nat, cntDs (x.levels.map D.s) = N := ⟨_, rfl⟩
      rw [hitems, hparts, hnames, hcls, hlevels] at hc
      obtain ⟨Aitems, nitems, citems, Aparts, nparts, cparts, Anames, nnames, cnames, Acls, ncls, ccls, Alevels, nlevels, clevels, rfl, ritems, rparts, rnames, rcls, rlevels⟩ := Vector_mopen (zkind := (Q : Int)) (zcode := (Q : Int) + 1 + (Nitems : Int) + (Nparts : Int) + (Nnames : Int) + (Ncls : Int) + (Nlevels : Int)) (zenv := (Q : Int) + 1 + (Nitems : Int) + (Nparts : Int) + (Nnames : Int) + (Ncls : Int) + (Nlevels : Int) + 1) hr (by omega) (by omega) (by omega)
      have hq : (Q : Int) + (1 + (Nitems : Int) + (Nparts : Int) + (Nnames : Int) + (Ncls : Int) + (Nlevels : Int) + 1 + 1) ≤ 1152921504606846976 := by rw [hc] at hU; omega
      have HQ := Lib.hid hQ
      have HX := Lib.hid hx
      have HT := Lib.hid hT
      have HK := Lib.hid hc
      clear hQ hx hxm hT hU hc
      have Hitems := Lib.hid hitems
      clear hitems
      have Hparts := Lib.hid hparts
      clear hparts
      have Hnames := Lib.hid hnames
      clear hnames
      have Hcls := Lib.hid hcls
      clear hcls
      have Hlevels := Lib.hid hlevels
      clear hlevels
      have c0_0 : wr.cell? ⟨b, off + j * 8, none⟩ = some (.int .i64 ((Q : Int))) := by first | exact hcc 0 _ rfl | simpa using hcc 0 _ rfl
      have c1_0 : wr.cell? ⟨b, off + j * 8 + 1, none⟩ = some (.slice Aitems nitems citems) := by first | exact hcc 1 _ rfl | simpa using hcc 1 _ rfl
      have c2_0 : wr.cell? ⟨b, off + j * 8 + 2, none⟩ = some (.slice Aparts nparts cparts) := by first | exact hcc 2 _ rfl | simpa using hcc 2 _ rfl
      have c3_0 : wr.cell? ⟨b, off + j * 8 + 3, none⟩ = some (.slice Anames nnames cnames) := by first | exact hcc 3 _ rfl | simpa using hcc 3 _ rfl
      have c4_0 : wr.cell? ⟨b, off + j * 8 + 4, none⟩ = some (.slice Acls ncls ccls) := by first | exact hcc 4 _ rfl | simpa using hcc 4 _ rfl
      have c5_0 : wr.cell? ⟨b, off + j * 8 + 5, none⟩ = some (.slice Alevels nlevels clevels) := by first | exact hcc 5 _ rfl | simpa using hcc 5 _ rfl
      have c6_0 : wr.cell? ⟨b, off + j * 8 + 6, none⟩ = some (.int .i64 ((Q : Int) + 1 + (Nitems : Int) + (Nparts : Int) + (Nnames : Int) + (Ncls : Int) + (Nlevels : Int))) := by first | exact hcc 6 _ rfl | simpa using hcc 6 _ rfl
      have c7_0 : wr.cell? ⟨b, off + j * 8 + 7, none⟩ = some (.int .i64 ((Q : Int) + 1 + (Nitems : Int) + (Nparts : Int) + (Nnames : Int) + (Ncls : Int) + (Nlevels : Int) + 1)) := by first | exact hcc 7 _ rfl | simpa using hcc 7 _ rfl
      clear hcc
      have i0 : (((Q : Int)) != ((Q : Int))) = false := by simp
      have i6 : (((Q : Int) + 1 + (Nitems : Int) + (Nparts : Int) + (Nnames : Int) + (Ncls : Int) + (Nlevels : Int)) != ((Q : Int) + 1 + (Nitems : Int) + (Nparts : Int) + (Nnames : Int) + (Ncls : Int) + (Nlevels : Int))) = false := by simp
      have i7 : (((Q : Int) + 1 + (Nitems : Int) + (Nparts : Int) + (Nnames : Int) + (Ncls : Int) + (Nlevels : Int) + 1) != ((Q : Int) + 1 + (Nitems : Int) + (Nparts : Int) + (Nnames : Int) + (Ncls : Int) + (Nlevels : Int) + 1)) = false := by simp
      have ritems_0 := rep_more ritems hb0.size
      have rparts_0 := rep_more rparts hb0.size
      have rnames_0 := rep_more rnames hb0.size
      have rcls_0 := rep_more rcls hb0.size
      have rlevels_0 := rep_more rlevels hb0.size
      have y0 : b < wr.heap.size := by have := hb0.size; omega
      have i91 : (0 : Int) ≤ (j : Int) := by omega
      have i92 : (j : Int) < (n : Int) := by omega
      go_wp2_with fail
      refine (heldItemS_any x.items _ _ _ _ _ Nitems _ ritems_0 (by have eitems := Hitems.out; have eparts := Hparts.out; have enames := Hnames.out; have ecls := Hcls.out; have elevels := Hlevels.out; omega) Hitems.out (by have eitems := Hitems.out; have eparts := Hparts.out; have enames := Hnames.out; have ecls := Hcls.out; have elevels := Hlevels.out; omega)).mono ?_
      rintro e w1 ⟨rfl, b1⟩
      have ritems_1 := rep_next ritems_0 b1
      have rparts_1 := rep_next rparts_0 b1
      have rnames_1 := rep_next rnames_0 b1
      have rcls_1 := rep_next rcls_0 b1
      have rlevels_1 := rep_next rlevels_0 b1
      have hb1 := bth hb0 b1
      have y1 : b < w1.heap.size := Nat.lt_of_lt_of_le y0 b1.size
      have c2_1 : w1.cell? ⟨b, off + j * 8 + 2, none⟩ = some (.slice Aparts nparts cparts) := (b1.cell y0).trans c2_0
      have c3_1 : w1.cell? ⟨b, off + j * 8 + 3, none⟩ = some (.slice Anames nnames cnames) := (b1.cell y0).trans c3_0
      have c4_1 : w1.cell? ⟨b, off + j * 8 + 4, none⟩ = some (.slice Acls ncls ccls) := (b1.cell y0).trans c4_0
      have c5_1 : w1.cell? ⟨b, off + j * 8 + 5, none⟩ = some (.slice Alevels nlevels clevels) := (b1.cell y0).trans c5_0
      have c6_1 : w1.cell? ⟨b, off + j * 8 + 6, none⟩ = some (.int .i64 ((Q : Int) + 1 + (Nitems : Int) + (Nparts : Int) + (Nnames : Int) + (Ncls : Int) + (Nlevels : Int))) := (b1.cell y0).trans c6_0
      have c7_1 : w1.cell? ⟨b, off + j * 8 + 7, none⟩ = some (.int .i64 ((Q : Int) + 1 + (Nitems : Int) + (Nparts : Int) + (Nnames : Int) + (Ncls : Int) + (Nlevels : Int) + 1)) := (b1.cell y0).trans c7_0
      have t1 : decide ((Q : Int) + 1 + (Nitems : Int) < 0) = false := by simp; omega
      go_wp2_with fail
      refine (HI.out x HM.out _ _ _ _ _ Nparts _ rparts_1 (by have eitems := Hitems.out; have eparts := Hparts.out; have enames := Hnames.out; have ecls := Hcls.out; have elevels := Hlevels.out; omega) Hparts.out (by have eitems := Hitems.out; have eparts := Hparts.out; have enames := Hnames.out; have ecls := Hcls.out; have elevels := Hlevels.out; omega)).mono ?_
      rintro e w2 ⟨rfl, b2⟩
      have ritems_2 := rep_next ritems_1 b2
      have rparts_2 := rep_next rparts_1 b2
      have rnames_2 := rep_next rnames_1 b2
      have rcls_2 := rep_next rcls_1 b2
      have rlevels_2 := rep_next rlevels_1 b2
      have hb2 := bth hb1 b2
      have y2 : b < w2.heap.size := Nat.lt_of_lt_of_le y1 b2.size
      have c3_2 : w2.cell? ⟨b, off + j * 8 + 3, none⟩ = some (.slice Anames nnames cnames) := (b2.cell y1).trans c3_1
      have c4_2 : w2.cell? ⟨b, off + j * 8 + 4, none⟩ = some (.slice Acls ncls ccls) := (b2.cell y1).trans c4_1
      have c5_2 : w2.cell? ⟨b, off + j * 8 + 5, none⟩ = some (.slice Alevels nlevels clevels) := (b2.cell y1).trans c5_1
      have c6_2 : w2.cell? ⟨b, off + j * 8 + 6, none⟩ = some (.int .i64 ((Q : Int) + 1 + (Nitems : Int) + (Nparts : Int) + (Nnames : Int) + (Ncls : Int) + (Nlevels : Int))) := (b2.cell y1).trans c6_1
      have c7_2 : w2.cell? ⟨b, off + j * 8 + 7, none⟩ = some (.int .i64 ((Q : Int) + 1 + (Nitems : Int) + (Nparts : Int) + (Nnames : Int) + (Ncls : Int) + (Nlevels : Int) + 1)) := (b2.cell y1).trans c7_1
      have t2 : decide ((Q : Int) + 1 + (Nitems : Int) + (Nparts : Int) < 0) = false := by simp; omega
      go_wp2_with fail
      refine (heldStringS_of x.names _ _ _ _ _ Nnames _ rnames_2 (by have eitems := Hitems.out; have eparts := Hparts.out; have enames := Hnames.out; have ecls := Hcls.out; have elevels := Hlevels.out; omega) Hnames.out (by have eitems := Hitems.out; have eparts := Hparts.out; have enames := Hnames.out; have ecls := Hcls.out; have elevels := Hlevels.out; omega)).mono ?_
      rintro e w3 ⟨rfl, b3⟩
      have ritems_3 := rep_next ritems_2 b3
      have rparts_3 := rep_next rparts_2 b3
      have rnames_3 := rep_next rnames_2 b3
      have rcls_3 := rep_next rcls_2 b3
      have rlevels_3 := rep_next rlevels_2 b3
      have hb3 := bth hb2 b3
      have y3 : b < w3.heap.size := Nat.lt_of_lt_of_le y2 b3.size
      have c4_3 : w3.cell? ⟨b, off + j * 8 + 4, none⟩ = some (.slice Acls ncls ccls) := (b3.cell y2).trans c4_2
      have c5_3 : w3.cell? ⟨b, off + j * 8 + 5, none⟩ = some (.slice Alevels nlevels clevels) := (b3.cell y2).trans c5_2
      have c6_3 : w3.cell? ⟨b, off + j * 8 + 6, none⟩ = some (.int .i64 ((Q : Int) + 1 + (Nitems : Int) + (Nparts : Int) + (Nnames : Int) + (Ncls : Int) + (Nlevels : Int))) := (b3.cell y2).trans c6_2
      have c7_3 : w3.cell? ⟨b, off + j * 8 + 7, none⟩ = some (.int .i64 ((Q : Int) + 1 + (Nitems : Int) + (Nparts : Int) + (Nnames : Int) + (Ncls : Int) + (Nlevels : Int) + 1)) := (b3.cell y2).trans c7_2
      have t3 : decide ((Q : Int) + 1 + (Nitems : Int) + (Nparts : Int) + (Nnames : Int) < 0) = false := by simp; omega
      go_wp2_with fail
      refine (heldStringS_of x.cls _ _ _ _ _ Ncls _ rcls_3 (by have eitems := Hitems.out; have eparts := Hparts.out; have enames := Hnames.out; have ecls := Hcls.out; have elevels := Hlevels.out; omega) Hcls.out (by have eitems := Hitems.out; have eparts := Hparts.out; have enames := Hnames.out; have ecls := Hcls.out; have elevels := Hlevels.out; omega)).mono ?_
      rintro e w4 ⟨rfl, b4⟩
      have ritems_4 := rep_next ritems_3 b4
      have rparts_4 := rep_next rparts_3 b4
      have rnames_4 := rep_next rnames_3 b4
      have rcls_4 := rep_next rcls_3 b4
      have rlevels_4 := rep_next rlevels_3 b4
      have hb4 := bth hb3 b4
      have y4 : b < w4.heap.size := Nat.lt_of_lt_of_le y3 b4.size
      have c5_4 : w4.cell? ⟨b, off + j * 8 + 5, none⟩ = some (.slice Alevels nlevels clevels) := (b4.cell y3).trans c5_3
      have c6_4 : w4.cell? ⟨b, off + j * 8 + 6, none⟩ = some (.int .i64 ((Q : Int) + 1 + (Nitems : Int) + (Nparts : Int) + (Nnames : Int) + (Ncls : Int) + (Nlevels : Int))) := (b4.cell y3).trans c6_3
      have c7_4 : w4.cell? ⟨b, off + j * 8 + 7, none⟩ = some (.int .i64 ((Q : Int) + 1 + (Nitems : Int) + (Nparts : Int) + (Nnames : Int) + (Ncls : Int) + (Nlevels : Int) + 1)) := (b4.cell y3).trans c7_3
      have t4 : decide ((Q : Int) + 1 + (Nitems : Int) + (Nparts : Int) + (Nnames : Int) + (Ncls : Int) < 0) = false := by simp; omega
      go_wp2_with fail
      refine (heldStringS_of x.levels _ _ _ _ _ Nlevels _ rlevels_4 (by have eitems := Hitems.out; have eparts := Hparts.out; have enames := Hnames.out; have ecls := Hcls.out; have elevels := Hlevels.out; omega) Hlevels.out (by have eitems := Hitems.out; have eparts := Hparts.out; have enames := Hnames.out; have ecls := Hcls.out; have elevels := Hlevels.out; omega)).mono ?_
      rintro e w5 ⟨rfl, b5⟩
      have ritems_5 := rep_next ritems_4 b5
      have rparts_5 := rep_next rparts_4 b5
      have rnames_5 := rep_next rnames_4 b5
      have rcls_5 := rep_next rcls_4 b5
      have rlevels_5 := rep_next rlevels_4 b5
      have hb5 := bth hb4 b5
      have y5 : b < w5.heap.size := Nat.lt_of_lt_of_le y4 b5.size
      have c6_5 : w5.cell? ⟨b, off + j * 8 + 6, none⟩ = some (.int .i64 ((Q : Int) + 1 + (Nitems : Int) + (Nparts : Int) + (Nnames : Int) + (Ncls : Int) + (Nlevels : Int))) := (b5.cell y4).trans c6_4
      have c7_5 : w5.cell? ⟨b, off + j * 8 + 7, none⟩ = some (.int .i64 ((Q : Int) + 1 + (Nitems : Int) + (Nparts : Int) + (Nnames : Int) + (Ncls : Int) + (Nlevels : Int) + 1)) := (b5.cell y4).trans c7_4
      have t5 : decide ((Q : Int) + 1 + (Nitems : Int) + (Nparts : Int) + (Nnames : Int) + (Ncls : Int) + (Nlevels : Int) < 0) = false := by simp; omega
      go_wp2_with fail
      go_roundw
      case rel => exact ⟨j + 1, Q + 1 + Nitems + Nparts + Nnames + Ncls + Nlevels + 1 + 1, by omega, by go_num, by go_num, by have h1 := HQ.out; have h2 := HT.out; have h3 := HK.out; omega, hb5⟩
      case measure => simp [intOf]; omega
    · obtain rfl : j = n := by omega
      rw [List.take_of_length_le (by rw [List.length_map, HL.out]; exact Nat.le_refl _), HC.out] at hQ
      subst hQ
      go_wp2_with fail
      go_ret
      exact ⟨ret_int (by omega), hb0⟩
theorem Vector_hd (x : Vec) : Vector_hdP x := Vector_ind (P := Vector_hdP) (fun v ih => heldVectorS_of v.parts ih) x
theorem heldVectorS_any (l : List Vec) (A : Option Addr) (n c : Nat) (z : Int) (k cn : Nat) (w : World) (h : rep w w.heap.size (.sl (mkDs (l.map Vec.toD) k)) [.slice A n c]) (hz : z = (k : Int)) (hcn : cntDs (l.map Vec.toD) = cn) (hk : k + cn ≤ 1152921504606846976) :
    Calls Try.prog 68 #[.slice A n c, .int .i64 z] w fun e w' => e = .returned (.int .i64 (z + (cn : Int))) ∧ Below w.heap.size w w' := heldVectorS_of l (fun x _ => Vector_hd x) A n c z k cn w h hz hcn hk
set_option maxRecDepth 100000 in
set_option maxHeartbeats 16000000 in
theorem markVector_any (x : Vec) (Aitems : Option Addr) (nitems citems : Nat) (Aparts : Option Addr) (nparts cparts : Nat) (Anames : Option Addr) (nnames cnames : Nat) (Acls : Option Addr) (ncls ccls : Nat) (Alevels : Option Addr) (nlevels clevels : Nat) {Fitems Fparts Fnames Fcls Flevels : List Nat} (z : Int) (k : Nat) (w : World) (oitems_0 : own Try.prog w (.sl (x.items.map Item.toD)) 31 Fitems [.slice Aitems nitems citems]) (oparts_0 : own Try.prog w (.sl (x.parts.map Vec.toD)) 32 Fparts [.slice Aparts nparts cparts]) (onames_0 : own Try.prog w (.sl (x.names.map D.s)) 24 Fnames [.slice Anames nnames cnames]) (ocls_0 : own Try.prog w (.sl (x.cls.map D.s)) 24 Fcls [.slice Acls ncls ccls]) (olevels_0 : own Try.prog w (.sl (x.levels.map D.s)) 24 Flevels [.slice Alevels nlevels clevels]) {Nitems : Nat} (Hitems : cntDs (x.items.map Item.toD) = Nitems) {Nparts : Nat} (Hparts : cntDs (x.parts.map Vec.toD) = Nparts) {Nnames : Nat} (Hnames : cntDs (x.names.map D.s) = Nnames) {Ncls : Nat} (Hcls : cntDs (x.cls.map D.s) = Ncls) {Nlevels : Nat} (Hlevels : cntDs (x.levels.map D.s) = Nlevels) (hnd : (Fitems ++ (Fparts ++ (Fnames ++ (Fcls ++ (Flevels ++ []))))).Nodup) (hz : z = (k : Int)) (hk : k + Nitems + Nparts + Nnames + Ncls + Nlevels ≤ 1152921504606846976) :
    Calls Try.prog 23 #[.agg #[.int .i64 x.kind, .slice Aitems nitems citems, .slice Aparts nparts cparts, .slice Anames nnames cnames, .slice Acls ncls ccls, .slice Alevels nlevels clevels, .int .i64 x.code, .int .i64 x.env], .int .i64 z] w fun e w' => e = .returned (.int .i64 (z + (Nitems : Int) + (Nparts : Int) + (Nnames : Int) + (Ncls : Int) + (Nlevels : Int))) ∧ own Try.prog w' (.sl (mkDs (x.items.map Item.toD) (k))) 31 Fitems [.slice Aitems nitems citems] ∧ own Try.prog w' (.sl (mkDs (x.parts.map Vec.toD) (k + Nitems))) 32 Fparts [.slice Aparts nparts cparts] ∧ own Try.prog w' (.sl (mkDs (x.names.map D.s) (k + Nitems + Nparts))) 24 Fnames [.slice Anames nnames cnames] ∧ own Try.prog w' (.sl (mkDs (x.cls.map D.s) (k + Nitems + Nparts + Nnames))) 24 Fcls [.slice Acls ncls ccls] ∧ own Try.prog w' (.sl (mkDs (x.levels.map D.s) (k + Nitems + Nparts + Nnames + Ncls))) 24 Flevels [.slice Alevels nlevels clevels] ∧ Mod (Fitems ++ (Fparts ++ (Fnames ++ (Fcls ++ (Flevels ++ []))))) w w' := by
  obtain rfl := hz
  have gitems : w.heap.size ∉ Fitems := (own_lo oitems_0).notin (Nat.le_refl _)
  have gparts : w.heap.size ∉ Fparts := (own_lo oparts_0).notin (Nat.le_refl _)
  have gnames : w.heap.size ∉ Fnames := (own_lo onames_0).notin (Nat.le_refl _)
  have gcls : w.heap.size ∉ Fcls := (own_lo ocls_0).notin (Nat.le_refl _)
  have glevels : w.heap.size ∉ Flevels := (own_lo olevels_0).notin (Nat.le_refl _)
  have N0 := List.nodup_append.1 hnd
  have N1 := List.nodup_append.1 N0.2.1
  have N2 := List.nodup_append.1 N1.2.1
  have N3 := List.nodup_append.1 N2.2.1
  have N4 := List.nodup_append.1 N3.2.1
  have hitems := Lib.hid Hitems
  clear Hitems
  have hparts := Lib.hid Hparts
  clear Hparts
  have hnames := Lib.hid Hnames
  clear Hnames
  have hcls := Lib.hid Hcls
  clear Hcls
  have hlevels := Lib.hid Hlevels
  clear Hlevels
  have B0 := Blk.new_ w 34 #[.int .i64 x.kind, .slice Aitems nitems citems, .slice Aparts nparts cparts, .slice Anames nnames cnames, .slice Acls ncls ccls, .slice Alevels nlevels clevels, .int .i64 x.code, .int .i64 x.env]
  have m0 : Mod (Fitems ++ (Fparts ++ (Fnames ++ (Fcls ++ (Flevels ++ []))))) w (w.alloc (.cells #[.int .i64 x.kind, .slice Aitems nitems citems, .slice Aparts nparts cparts, .slice Anames nnames cnames, .slice Acls ncls ccls, .slice Alevels nlevels clevels, .int .i64 x.code, .int .i64 x.env] 34)) := mod_below Mod.refl ((Below.refl w.heap.size w).alloc (Nat.le_refl _) _)
  replace oitems_0 := own_al (o := .cells #[.int .i64 x.kind, .slice Aitems nitems citems, .slice Aparts nparts cparts, .slice Anames nnames cnames, .slice Acls ncls ccls, .slice Alevels nlevels clevels, .int .i64 x.code, .int .i64 x.env] 34) oitems_0
  replace oparts_0 := own_al (o := .cells #[.int .i64 x.kind, .slice Aitems nitems citems, .slice Aparts nparts cparts, .slice Anames nnames cnames, .slice Acls ncls ccls, .slice Alevels nlevels clevels, .int .i64 x.code, .int .i64 x.env] 34) oparts_0
  replace onames_0 := own_al (o := .cells #[.int .i64 x.kind, .slice Aitems nitems citems, .slice Aparts nparts cparts, .slice Anames nnames cnames, .slice Acls ncls ccls, .slice Alevels nlevels clevels, .int .i64 x.code, .int .i64 x.env] 34) onames_0
  replace ocls_0 := own_al (o := .cells #[.int .i64 x.kind, .slice Aitems nitems citems, .slice Aparts nparts cparts, .slice Anames nnames cnames, .slice Acls ncls ccls, .slice Alevels nlevels clevels, .int .i64 x.code, .int .i64 x.env] 34) ocls_0
  replace olevels_0 := own_al (o := .cells #[.int .i64 x.kind, .slice Aitems nitems citems, .slice Aparts nparts cparts, .slice Anames nnames cnames, .slice Acls ncls ccls, .slice Alevels nlevels clevels, .int .i64 x.code, .int .i64 x.env] 34) olevels_0
  go_enter Try.func23, Try.ntmps23
  go_wp2_with fail
  refine (markItemS_any x.items _ _ _ _ _ (k) Nitems _ oitems_0 N0.1 (by omega) hitems.out (by omega)).mono ?_
  rintro e w1 ⟨rfl, oitems_1, b1⟩
  have B1 := Blk.mod (g := w.heap.size) B0 b1 gitems
  have m1 := mod_in m0 b1 (fun y hy => by simp [hy])
  have oparts_1 := own_mod oparts_0 b1 (fun y hy hz => N0.2.2 y hz y (by simp [hy]) rfl)
  have onames_1 := own_mod onames_0 b1 (fun y hy hz => N0.2.2 y hz y (by simp [hy]) rfl)
  have ocls_1 := own_mod ocls_0 b1 (fun y hy hz => N0.2.2 y hz y (by simp [hy]) rfl)
  have olevels_1 := own_mod olevels_0 b1 (fun y hy hz => N0.2.2 y hz y (by simp [hy]) rfl)
  have c0_1 : w1.cell? ⟨w.heap.size, 0, none⟩ = some (.int .i64 x.kind) := B1.cell 0
  have c1_1 : w1.cell? ⟨w.heap.size, 1, none⟩ = some (.slice Aitems nitems citems) := B1.cell 1
  have c2_1 : w1.cell? ⟨w.heap.size, 2, none⟩ = some (.slice Aparts nparts cparts) := B1.cell 2
  have c3_1 : w1.cell? ⟨w.heap.size, 3, none⟩ = some (.slice Anames nnames cnames) := B1.cell 3
  have c4_1 : w1.cell? ⟨w.heap.size, 4, none⟩ = some (.slice Acls ncls ccls) := B1.cell 4
  have c5_1 : w1.cell? ⟨w.heap.size, 5, none⟩ = some (.slice Alevels nlevels clevels) := B1.cell 5
  have c6_1 : w1.cell? ⟨w.heap.size, 6, none⟩ = some (.int .i64 x.code) := B1.cell 6
  have c7_1 : w1.cell? ⟨w.heap.size, 7, none⟩ = some (.int .i64 x.env) := B1.cell 7
  go_wp2_with fail
  refine (markVectorS_any x.parts _ _ _ _ _ (k + Nitems) Nparts _ oparts_1 N1.1 (by omega) hparts.out (by omega)).mono ?_
  rintro e w2 ⟨rfl, oparts_2, b2⟩
  have B2 := Blk.mod (g := w.heap.size) B1 b2 gparts
  have m2 := mod_in m1 b2 (fun y hy => by simp [hy])
  have oitems_2 := own_mod oitems_1 b2 (fun y hy hz => N0.2.2 y hy y (by simp [hz]) rfl)
  have onames_2 := own_mod onames_1 b2 (fun y hy hz => N1.2.2 y hz y (by simp [hy]) rfl)
  have ocls_2 := own_mod ocls_1 b2 (fun y hy hz => N1.2.2 y hz y (by simp [hy]) rfl)
  have olevels_2 := own_mod olevels_1 b2 (fun y hy hz => N1.2.2 y hz y (by simp [hy]) rfl)
  have c0_2 : w2.cell? ⟨w.heap.size, 0, none⟩ = some (.int .i64 x.kind) := B2.cell 0
  have c1_2 : w2.cell? ⟨w.heap.size, 1, none⟩ = some (.slice Aitems nitems citems) := B2.cell 1
  have c2_2 : w2.cell? ⟨w.heap.size, 2, none⟩ = some (.slice Aparts nparts cparts) := B2.cell 2
  have c3_2 : w2.cell? ⟨w.heap.size, 3, none⟩ = some (.slice Anames nnames cnames) := B2.cell 3
  have c4_2 : w2.cell? ⟨w.heap.size, 4, none⟩ = some (.slice Acls ncls ccls) := B2.cell 4
  have c5_2 : w2.cell? ⟨w.heap.size, 5, none⟩ = some (.slice Alevels nlevels clevels) := B2.cell 5
  have c6_2 : w2.cell? ⟨w.heap.size, 6, none⟩ = some (.int .i64 x.code) := B2.cell 6
  have c7_2 : w2.cell? ⟨w.heap.size, 7, none⟩ = some (.int .i64 x.env) := B2.cell 7
  go_wp2_with fail
  refine (markStringS_of x.names _ _ _ _ _ (k + Nitems + Nparts) Nnames _ onames_2 N2.1 (by omega) hnames.out (by omega)).mono ?_
  rintro e w3 ⟨rfl, onames_3, b3⟩
  have B3 := Blk.mod (g := w.heap.size) B2 b3 gnames
  have m3 := mod_in m2 b3 (fun y hy => by simp [hy])
  have oitems_3 := own_mod oitems_2 b3 (fun y hy hz => N0.2.2 y hy y (by simp [hz]) rfl)
  have oparts_3 := own_mod oparts_2 b3 (fun y hy hz => N1.2.2 y hy y (by simp [hz]) rfl)
  have ocls_3 := own_mod ocls_2 b3 (fun y hy hz => N2.2.2 y hz y (by simp [hy]) rfl)
  have olevels_3 := own_mod olevels_2 b3 (fun y hy hz => N2.2.2 y hz y (by simp [hy]) rfl)
  have c0_3 : w3.cell? ⟨w.heap.size, 0, none⟩ = some (.int .i64 x.kind) := B3.cell 0
  have c1_3 : w3.cell? ⟨w.heap.size, 1, none⟩ = some (.slice Aitems nitems citems) := B3.cell 1
  have c2_3 : w3.cell? ⟨w.heap.size, 2, none⟩ = some (.slice Aparts nparts cparts) := B3.cell 2
  have c3_3 : w3.cell? ⟨w.heap.size, 3, none⟩ = some (.slice Anames nnames cnames) := B3.cell 3
  have c4_3 : w3.cell? ⟨w.heap.size, 4, none⟩ = some (.slice Acls ncls ccls) := B3.cell 4
  have c5_3 : w3.cell? ⟨w.heap.size, 5, none⟩ = some (.slice Alevels nlevels clevels) := B3.cell 5
  have c6_3 : w3.cell? ⟨w.heap.size, 6, none⟩ = some (.int .i64 x.code) := B3.cell 6
  have c7_3 : w3.cell? ⟨w.heap.size, 7, none⟩ = some (.int .i64 x.env) := B3.cell 7
  go_wp2_with fail
  refine (markStringS_of x.cls _ _ _ _ _ (k + Nitems + Nparts + Nnames) Ncls _ ocls_3 N3.1 (by omega) hcls.out (by omega)).mono ?_
  rintro e w4 ⟨rfl, ocls_4, b4⟩
  have B4 := Blk.mod (g := w.heap.size) B3 b4 gcls
  have m4 := mod_in m3 b4 (fun y hy => by simp [hy])
  have oitems_4 := own_mod oitems_3 b4 (fun y hy hz => N0.2.2 y hy y (by simp [hz]) rfl)
  have oparts_4 := own_mod oparts_3 b4 (fun y hy hz => N1.2.2 y hy y (by simp [hz]) rfl)
  have onames_4 := own_mod onames_3 b4 (fun y hy hz => N2.2.2 y hy y (by simp [hz]) rfl)
  have olevels_4 := own_mod olevels_3 b4 (fun y hy hz => N3.2.2 y hz y (by simp [hy]) rfl)
  have c0_4 : w4.cell? ⟨w.heap.size, 0, none⟩ = some (.int .i64 x.kind) := B4.cell 0
  have c1_4 : w4.cell? ⟨w.heap.size, 1, none⟩ = some (.slice Aitems nitems citems) := B4.cell 1
  have c2_4 : w4.cell? ⟨w.heap.size, 2, none⟩ = some (.slice Aparts nparts cparts) := B4.cell 2
  have c3_4 : w4.cell? ⟨w.heap.size, 3, none⟩ = some (.slice Anames nnames cnames) := B4.cell 3
  have c4_4 : w4.cell? ⟨w.heap.size, 4, none⟩ = some (.slice Acls ncls ccls) := B4.cell 4
  have c5_4 : w4.cell? ⟨w.heap.size, 5, none⟩ = some (.slice Alevels nlevels clevels) := B4.cell 5
  have c6_4 : w4.cell? ⟨w.heap.size, 6, none⟩ = some (.int .i64 x.code) := B4.cell 6
  have c7_4 : w4.cell? ⟨w.heap.size, 7, none⟩ = some (.int .i64 x.env) := B4.cell 7
  go_wp2_with fail
  refine (markStringS_of x.levels _ _ _ _ _ (k + Nitems + Nparts + Nnames + Ncls) Nlevels _ olevels_4 N4.1 (by omega) hlevels.out (by omega)).mono ?_
  rintro e w5 ⟨rfl, olevels_5, b5⟩
  have B5 := Blk.mod (g := w.heap.size) B4 b5 glevels
  have m5 := mod_in m4 b5 (fun y hy => by simp [hy])
  have oitems_5 := own_mod oitems_4 b5 (fun y hy hz => N0.2.2 y hy y (by simp [hz]) rfl)
  have oparts_5 := own_mod oparts_4 b5 (fun y hy hz => N1.2.2 y hy y (by simp [hz]) rfl)
  have onames_5 := own_mod onames_4 b5 (fun y hy hz => N2.2.2 y hy y (by simp [hz]) rfl)
  have ocls_5 := own_mod ocls_4 b5 (fun y hy hz => N3.2.2 y hy y (by simp [hz]) rfl)
  have c0_5 : w5.cell? ⟨w.heap.size, 0, none⟩ = some (.int .i64 x.kind) := B5.cell 0
  have c1_5 : w5.cell? ⟨w.heap.size, 1, none⟩ = some (.slice Aitems nitems citems) := B5.cell 1
  have c2_5 : w5.cell? ⟨w.heap.size, 2, none⟩ = some (.slice Aparts nparts cparts) := B5.cell 2
  have c3_5 : w5.cell? ⟨w.heap.size, 3, none⟩ = some (.slice Anames nnames cnames) := B5.cell 3
  have c4_5 : w5.cell? ⟨w.heap.size, 4, none⟩ = some (.slice Acls ncls ccls) := B5.cell 4
  have c5_5 : w5.cell? ⟨w.heap.size, 5, none⟩ = some (.slice Alevels nlevels clevels) := B5.cell 5
  have c6_5 : w5.cell? ⟨w.heap.size, 6, none⟩ = some (.int .i64 x.code) := B5.cell 6
  have c7_5 : w5.cell? ⟨w.heap.size, 7, none⟩ = some (.int .i64 x.env) := B5.cell 7
  go_wp2_with fail
  go_ret
  exact ⟨rfl, oitems_5, oparts_5, onames_5, ocls_5, olevels_5, m5⟩
set_option maxRecDepth 100000 in
set_option maxHeartbeats 16000000 in
theorem heldVector_any (x : Vec) (Aitems : Option Addr) (nitems citems : Nat) (Aparts : Option Addr) (nparts cparts : Nat) (Anames : Option Addr) (nnames cnames : Nat) (Acls : Option Addr) (ncls ccls : Nat) (Alevels : Option Addr) (nlevels clevels : Nat) (z : Int) (k : Nat) (w : World) {Nitems : Nat} (Hitems : cntDs (x.items.map Item.toD) = Nitems) {Nparts : Nat} (Hparts : cntDs (x.parts.map Vec.toD) = Nparts) {Nnames : Nat} (Hnames : cntDs (x.names.map D.s) = Nnames) {Ncls : Nat} (Hcls : cntDs (x.cls.map D.s) = Ncls) {Nlevels : Nat} (Hlevels : cntDs (x.levels.map D.s) = Nlevels) (ritems_0 : rep w w.heap.size (.sl (mkDs (x.items.map Item.toD) (k))) [.slice Aitems nitems citems]) (rparts_0 : rep w w.heap.size (.sl (mkDs (x.parts.map Vec.toD) (k + Nitems))) [.slice Aparts nparts cparts]) (rnames_0 : rep w w.heap.size (.sl (mkDs (x.names.map D.s) (k + Nitems + Nparts))) [.slice Anames nnames cnames]) (rcls_0 : rep w w.heap.size (.sl (mkDs (x.cls.map D.s) (k + Nitems + Nparts + Nnames))) [.slice Acls ncls ccls]) (rlevels_0 : rep w w.heap.size (.sl (mkDs (x.levels.map D.s) (k + Nitems + Nparts + Nnames + Ncls))) [.slice Alevels nlevels clevels]) (hz : z = (k : Int)) (hk : k + Nitems + Nparts + Nnames + Ncls + Nlevels ≤ 1152921504606846976) :
    Calls Try.prog 24 #[.agg #[.int .i64 x.kind, .slice Aitems nitems citems, .slice Aparts nparts cparts, .slice Anames nnames cnames, .slice Acls ncls ccls, .slice Alevels nlevels clevels, .int .i64 x.code, .int .i64 x.env], .int .i64 z] w fun e w' => e = .returned (.int .i64 (z + (Nitems : Int) + (Nparts : Int) + (Nnames : Int) + (Ncls : Int) + (Nlevels : Int))) ∧ Below w.heap.size w w' := by
  obtain rfl := hz
  have hitems := Lib.hid Hitems
  clear Hitems
  have hparts := Lib.hid Hparts
  clear Hparts
  have hnames := Lib.hid Hnames
  clear Hnames
  have hcls := Lib.hid Hcls
  clear Hcls
  have hlevels := Lib.hid Hlevels
  clear Hlevels
  have B0 := Blk.new_ w 34 #[.int .i64 x.kind, .slice Aitems nitems citems, .slice Aparts nparts cparts, .slice Anames nnames cnames, .slice Acls ncls ccls, .slice Alevels nlevels clevels, .int .i64 x.code, .int .i64 x.env]
  have q0 := (Below.refl w.heap.size w).alloc (Nat.le_refl _) (.cells #[.int .i64 x.kind, .slice Aitems nitems citems, .slice Aparts nparts cparts, .slice Anames nnames cnames, .slice Acls ncls ccls, .slice Alevels nlevels clevels, .int .i64 x.code, .int .i64 x.env] 34)
  replace ritems_0 := rep_next ritems_0 q0
  replace rparts_0 := rep_next rparts_0 q0
  replace rnames_0 := rep_next rnames_0 q0
  replace rcls_0 := rep_next rcls_0 q0
  replace rlevels_0 := rep_next rlevels_0 q0
  go_enter Try.func24, Try.ntmps24
  go_wp2_with fail
  refine (heldItemS_any x.items _ _ _ _ _ Nitems _ ritems_0 (by omega) hitems.out (by omega)).mono ?_
  rintro e w1 ⟨rfl, b1⟩
  have B1 := B0.next b1
  have q1 := bth q0 b1
  have ritems_1 := rep_next ritems_0 b1
  have rparts_1 := rep_next rparts_0 b1
  have rnames_1 := rep_next rnames_0 b1
  have rcls_1 := rep_next rcls_0 b1
  have rlevels_1 := rep_next rlevels_0 b1
  have c0_1 : w1.cell? ⟨w.heap.size, 0, none⟩ = some (.int .i64 x.kind) := B1.cell 0
  have c1_1 : w1.cell? ⟨w.heap.size, 1, none⟩ = some (.slice Aitems nitems citems) := B1.cell 1
  have c2_1 : w1.cell? ⟨w.heap.size, 2, none⟩ = some (.slice Aparts nparts cparts) := B1.cell 2
  have c3_1 : w1.cell? ⟨w.heap.size, 3, none⟩ = some (.slice Anames nnames cnames) := B1.cell 3
  have c4_1 : w1.cell? ⟨w.heap.size, 4, none⟩ = some (.slice Acls ncls ccls) := B1.cell 4
  have c5_1 : w1.cell? ⟨w.heap.size, 5, none⟩ = some (.slice Alevels nlevels clevels) := B1.cell 5
  have c6_1 : w1.cell? ⟨w.heap.size, 6, none⟩ = some (.int .i64 x.code) := B1.cell 6
  have c7_1 : w1.cell? ⟨w.heap.size, 7, none⟩ = some (.int .i64 x.env) := B1.cell 7
  have t1 : decide ((k : Int) + (Nitems : Int) < 0) = false := by simp; omega
  go_wp2_with fail
  refine (heldVectorS_any x.parts _ _ _ _ _ Nparts _ rparts_1 (by omega) hparts.out (by omega)).mono ?_
  rintro e w2 ⟨rfl, b2⟩
  have B2 := B1.next b2
  have q2 := bth q1 b2
  have ritems_2 := rep_next ritems_1 b2
  have rparts_2 := rep_next rparts_1 b2
  have rnames_2 := rep_next rnames_1 b2
  have rcls_2 := rep_next rcls_1 b2
  have rlevels_2 := rep_next rlevels_1 b2
  have c0_2 : w2.cell? ⟨w.heap.size, 0, none⟩ = some (.int .i64 x.kind) := B2.cell 0
  have c1_2 : w2.cell? ⟨w.heap.size, 1, none⟩ = some (.slice Aitems nitems citems) := B2.cell 1
  have c2_2 : w2.cell? ⟨w.heap.size, 2, none⟩ = some (.slice Aparts nparts cparts) := B2.cell 2
  have c3_2 : w2.cell? ⟨w.heap.size, 3, none⟩ = some (.slice Anames nnames cnames) := B2.cell 3
  have c4_2 : w2.cell? ⟨w.heap.size, 4, none⟩ = some (.slice Acls ncls ccls) := B2.cell 4
  have c5_2 : w2.cell? ⟨w.heap.size, 5, none⟩ = some (.slice Alevels nlevels clevels) := B2.cell 5
  have c6_2 : w2.cell? ⟨w.heap.size, 6, none⟩ = some (.int .i64 x.code) := B2.cell 6
  have c7_2 : w2.cell? ⟨w.heap.size, 7, none⟩ = some (.int .i64 x.env) := B2.cell 7
  have t2 : decide ((k : Int) + (Nitems : Int) + (Nparts : Int) < 0) = false := by simp; omega
  go_wp2_with fail
  refine (heldStringS_of x.names _ _ _ _ _ Nnames _ rnames_2 (by omega) hnames.out (by omega)).mono ?_
  rintro e w3 ⟨rfl, b3⟩
  have B3 := B2.next b3
  have q3 := bth q2 b3
  have ritems_3 := rep_next ritems_2 b3
  have rparts_3 := rep_next rparts_2 b3
  have rnames_3 := rep_next rnames_2 b3
  have rcls_3 := rep_next rcls_2 b3
  have rlevels_3 := rep_next rlevels_2 b3
  have c0_3 : w3.cell? ⟨w.heap.size, 0, none⟩ = some (.int .i64 x.kind) := B3.cell 0
  have c1_3 : w3.cell? ⟨w.heap.size, 1, none⟩ = some (.slice Aitems nitems citems) := B3.cell 1
  have c2_3 : w3.cell? ⟨w.heap.size, 2, none⟩ = some (.slice Aparts nparts cparts) := B3.cell 2
  have c3_3 : w3.cell? ⟨w.heap.size, 3, none⟩ = some (.slice Anames nnames cnames) := B3.cell 3
  have c4_3 : w3.cell? ⟨w.heap.size, 4, none⟩ = some (.slice Acls ncls ccls) := B3.cell 4
  have c5_3 : w3.cell? ⟨w.heap.size, 5, none⟩ = some (.slice Alevels nlevels clevels) := B3.cell 5
  have c6_3 : w3.cell? ⟨w.heap.size, 6, none⟩ = some (.int .i64 x.code) := B3.cell 6
  have c7_3 : w3.cell? ⟨w.heap.size, 7, none⟩ = some (.int .i64 x.env) := B3.cell 7
  have t3 : decide ((k : Int) + (Nitems : Int) + (Nparts : Int) + (Nnames : Int) < 0) = false := by simp; omega
  go_wp2_with fail
  refine (heldStringS_of x.cls _ _ _ _ _ Ncls _ rcls_3 (by omega) hcls.out (by omega)).mono ?_
  rintro e w4 ⟨rfl, b4⟩
  have B4 := B3.next b4
  have q4 := bth q3 b4
  have ritems_4 := rep_next ritems_3 b4
  have rparts_4 := rep_next rparts_3 b4
  have rnames_4 := rep_next rnames_3 b4
  have rcls_4 := rep_next rcls_3 b4
  have rlevels_4 := rep_next rlevels_3 b4
  have c0_4 : w4.cell? ⟨w.heap.size, 0, none⟩ = some (.int .i64 x.kind) := B4.cell 0
  have c1_4 : w4.cell? ⟨w.heap.size, 1, none⟩ = some (.slice Aitems nitems citems) := B4.cell 1
  have c2_4 : w4.cell? ⟨w.heap.size, 2, none⟩ = some (.slice Aparts nparts cparts) := B4.cell 2
  have c3_4 : w4.cell? ⟨w.heap.size, 3, none⟩ = some (.slice Anames nnames cnames) := B4.cell 3
  have c4_4 : w4.cell? ⟨w.heap.size, 4, none⟩ = some (.slice Acls ncls ccls) := B4.cell 4
  have c5_4 : w4.cell? ⟨w.heap.size, 5, none⟩ = some (.slice Alevels nlevels clevels) := B4.cell 5
  have c6_4 : w4.cell? ⟨w.heap.size, 6, none⟩ = some (.int .i64 x.code) := B4.cell 6
  have c7_4 : w4.cell? ⟨w.heap.size, 7, none⟩ = some (.int .i64 x.env) := B4.cell 7
  have t4 : decide ((k : Int) + (Nitems : Int) + (Nparts : Int) + (Nnames : Int) + (Ncls : Int) < 0) = false := by simp; omega
  go_wp2_with fail
  refine (heldStringS_of x.levels _ _ _ _ _ Nlevels _ rlevels_4 (by omega) hlevels.out (by omega)).mono ?_
  rintro e w5 ⟨rfl, b5⟩
  have B5 := B4.next b5
  have q5 := bth q4 b5
  have ritems_5 := rep_next ritems_4 b5
  have rparts_5 := rep_next rparts_4 b5
  have rnames_5 := rep_next rnames_4 b5
  have rcls_5 := rep_next rcls_4 b5
  have rlevels_5 := rep_next rlevels_4 b5
  have c0_5 : w5.cell? ⟨w.heap.size, 0, none⟩ = some (.int .i64 x.kind) := B5.cell 0
  have c1_5 : w5.cell? ⟨w.heap.size, 1, none⟩ = some (.slice Aitems nitems citems) := B5.cell 1
  have c2_5 : w5.cell? ⟨w.heap.size, 2, none⟩ = some (.slice Aparts nparts cparts) := B5.cell 2
  have c3_5 : w5.cell? ⟨w.heap.size, 3, none⟩ = some (.slice Anames nnames cnames) := B5.cell 3
  have c4_5 : w5.cell? ⟨w.heap.size, 4, none⟩ = some (.slice Acls ncls ccls) := B5.cell 4
  have c5_5 : w5.cell? ⟨w.heap.size, 5, none⟩ = some (.slice Alevels nlevels clevels) := B5.cell 5
  have c6_5 : w5.cell? ⟨w.heap.size, 6, none⟩ = some (.int .i64 x.code) := B5.cell 6
  have c7_5 : w5.cell? ⟨w.heap.size, 7, none⟩ = some (.int .i64 x.env) := B5.cell 7
  have t5 : decide ((k : Int) + (Nitems : Int) + (Nparts : Int) + (Nnames : Int) + (Ncls : Int) + (Nlevels : Int) < 0) = false := by simp; omega
  go_wp2_with fail
  go_ret
  exact ⟨rfl, q5⟩
end Go.Proofs.Ytekcpadlmfaihaa
namespace Go.Proofs.Ytekcpadlmfaihaa
open Go.RowKit
theorem Cell_ownopen {w : World} {x : Cel} {F : List Nat} {cs : List Value} (h : own Try.prog w x.toD 71 F cs) : ∃ (Avalue_items : Option Addr) (nvalue_items : Nat) (cvalue_items : Nat) (Avalue_parts : Option Addr) (nvalue_parts : Nat) (cvalue_parts : Nat) (Avalue_names : Option Addr) (nvalue_names : Nat) (cvalue_names : Nat) (Avalue_cls : Option Addr) (nvalue_cls : Nat) (cvalue_cls : Nat) (Avalue_levels : Option Addr) (nvalue_levels : Nat) (cvalue_levels : Nat) (Aparts : Option Addr) (nparts : Nat) (cparts : Nat) (Fvalue_items : List Nat) (Fvalue_parts : List Nat) (Fvalue_names : List Nat) (Fvalue_cls : List Nat) (Fvalue_levels : List Nat) (Fparts : List Nat), cs = [.int .i64 x.count, .int .i64 x.value.kind, .slice Avalue_items nvalue_items cvalue_items, .slice Avalue_parts nvalue_parts cvalue_parts, .slice Avalue_names nvalue_names cvalue_names, .slice Avalue_cls nvalue_cls cvalue_cls, .slice Avalue_levels nvalue_levels cvalue_levels, .int .i64 x.value.code, .int .i64 x.value.env, .slice Aparts nparts cparts] ∧ F = (Fvalue_items ++ (Fvalue_parts ++ (Fvalue_names ++ (Fvalue_cls ++ (Fvalue_levels ++ []))))) ++ (Fparts ++ []) ∧ own Try.prog w (.sl (x.value.items.map Item.toD)) 31 Fvalue_items [.slice Avalue_items nvalue_items cvalue_items] ∧ own Try.prog w (.sl (x.value.parts.map Vec.toD)) 32 Fvalue_parts [.slice Avalue_parts nvalue_parts cvalue_parts] ∧ own Try.prog w (.sl (x.value.names.map D.s)) 24 Fvalue_names [.slice Avalue_names nvalue_names cvalue_names] ∧ own Try.prog w (.sl (x.value.cls.map D.s)) 24 Fvalue_cls [.slice Avalue_cls nvalue_cls cvalue_cls] ∧ own Try.prog w (.sl (x.value.levels.map D.s)) 24 Fvalue_levels [.slice Avalue_levels nvalue_levels cvalue_levels] ∧ own Try.prog w (.sl (x.parts.map (D.i .i64))) 41 Fparts [.slice Aparts nparts cparts] := by
  rw [Cell_toD, own] at h
  obtain ⟨fds, css, h1, rfl, h⟩ := h
  rw [Try.underlying71] at h1
  injection h1 with h1
  injection h1 with h1
  subst h1
  replace h : ownL Try.prog w [.i .i64 x.count, x.value.toD, .sl (x.parts.map (.i .i64))] [3, 34, 41] F css := h
  rw [ownL] at h
  obtain ⟨t0, u0, G0, H0, d0, e0, ht, rfl, rfl, k0, h⟩ := h
  injection ht with ht1 ht2
  subst ht1 ht2
  rw [own] at k0
  obtain ⟨rfl, rfl, _⟩ := k0
  rw [ownL] at h
  obtain ⟨t1, u1, G1, H1, d1, e1, ht, rfl, rfl, k1, h⟩ := h
  injection ht with ht1 ht2
  subst ht1 ht2
  obtain ⟨A1value_items, n1value_items, q1value_items, A1value_parts, n1value_parts, q1value_parts, A1value_names, n1value_names, q1value_names, A1value_cls, n1value_cls, q1value_cls, A1value_levels, n1value_levels, q1value_levels, G1value_items, G1value_parts, G1value_names, G1value_cls, G1value_levels, rfl, rfl, k1value_items, k1value_parts, k1value_names, k1value_cls, k1value_levels⟩ := Vector_ownopen k1
  rw [ownL] at h
  obtain ⟨t2, u2, G2, H2, d2, e2, ht, rfl, rfl, k2, h⟩ := h
  injection ht with ht1 ht2
  subst ht1 ht2
  obtain ⟨A2, n2, q2, rfl⟩ := rep_sl_val (own_rep _ _ _ _ k2)
  rw [ownL] at h
  obtain ⟨_, rfl, rfl⟩ := h
  exact ⟨A1value_items, n1value_items, q1value_items, A1value_parts, n1value_parts, q1value_parts, A1value_names, n1value_names, q1value_names, A1value_cls, n1value_cls, q1value_cls, A1value_levels, n1value_levels, q1value_levels, A2, n2, q2, G1value_items, G1value_parts, G1value_names, G1value_cls, G1value_levels, G2, rfl, rfl, k1value_items, k1value_parts, k1value_names, k1value_cls, k1value_levels, k2⟩
theorem Cell_cnt (x : Cel) : cntD x.toD = 1 + cntD x.value.toD + cntDs (x.parts.map (D.i .i64)) := by
  rw [Cell_toD]; simp only [cntD, cntDs] <;> omega
theorem Cell_ownM {w : World} {x : Cel} {q : Nat} {cs : List Value} {zcount : Int} {Cvalue : List Value} {Fvalue : List Nat} {kvalue : Nat} {Aparts : Option Addr} {nparts cparts : Nat} {Fparts : List Nat} {kparts : Nat} (hq : q + cntD x.toD ≤ 1152921504606846976) (ecount : zcount = ((q : Nat) : Int)) (evalue : kvalue = q + 1) (rvalue : own Try.prog w (mkD x.value.toD kvalue) 34 Fvalue Cvalue) (eparts : kparts = q + 1 + cntD x.value.toD) (rparts : own Try.prog w (.sl (mkDs (x.parts.map (D.i .i64)) kparts)) 41 Fparts [.slice Aparts nparts cparts]) (hcs : cs = [[.int .i64 zcount], Cvalue, [.slice Aparts nparts cparts]].flatten) : own Try.prog w (mkD x.toD q) 71 (Fvalue ++ (Fparts ++ [])) cs := by
  have hc := Cell_cnt x
  rw [hc] at hq
  clear hc
  subst ecount evalue eparts hcs
  rw [Cell_toD]
  simp only [mkD, mkDs, cntD]
  rw [own]
  exact ⟨_, [[.int .i64 ((q : Nat) : Int)], Cvalue, [.slice Aparts nparts cparts]], Try.underlying71, rfl, (ownL_cons (F1 := []) (by rw [own]; exact ⟨rfl, rfl, wf64.2 (by constructor <;> omega)⟩) (ownL_cons rvalue (ownL_cons rparts ownL_nil)))⟩
set_option maxRecDepth 100000 in
set_option maxHeartbeats 16000000 in
theorem markCellS_of (l : List Cel) (A : Option Addr) (n c : Nat) (F : List Nat) (z : Int) (k cn : Nat) (w : World) (h : own Try.prog w (.sl (l.map Cel.toD)) 46 F [.slice A n c]) (hF : F.Nodup) (hz : z = (k : Int)) (hcn : cntDs (l.map Cel.toD) = cn) (hk : k + cn ≤ 1152921504606846976) :
    Calls Try.prog 62 #[.slice A n c, .int .i64 z] w fun e w' => e = .returned (.int .i64 (z + (cn : Int))) ∧ own Try.prog w' (.sl (mkDs (l.map Cel.toD) k)) 46 F [.slice A n c] ∧ Mod F w w' := by
  obtain ⟨hll, hlc, hcm⟩ := rep_sl_len (own_rep _ _ _ _ h)
  unfold maxLen at hcm
  rw [List.length_map] at hll
  obtain rfl := hz
  have HL := Lib.hid hll
  have HC := Lib.hid hcn
  clear hll hcn
  go_enter Try.func62, Try.ntmps62
  go_wp2_with fail
  go_loopw [1, 5] (fun m i wr => ∃ (j Q : Nat), j ≤ n ∧ i = .int .i64 j ∧ m = .int .i64 (Q : Int) ∧ Q = k + cntDs ((l.map Cel.toD).take j) ∧ own Try.prog wr (.sl (mkTo (l.map Cel.toD) k j)) 46 F [.slice A n c] ∧ Mod F w wr) (fun _ i _ => n - (intOf i).toNat)
  case atStart => exact ⟨0, k, by omega, rfl, rfl, by simp [cntDs], by rw [mkTo_zero]; exact h, Mod.refl⟩
  case round =>
    obtain ⟨j, Q, hj, rfl, rfl, hQ, ho, hm⟩ := hrel
    by_cases hlt : j < n
    · obtain ⟨x, hx⟩ : ∃ x, l[j]? = some x := ⟨_, List.getElem?_eq_getElem (by rw [HL.out]; exact hlt)⟩
      have hxm : (l.map Cel.toD)[j]? = some x.toD := by rw [List.getElem?_map, hx]; rfl
      have hN : (mkTo (l.map Cel.toD) k j).set j (mkD x.toD Q) = mkTo (l.map Cel.toD) k (j + 1) := by rw [hQ]; exact mkTo_next hxm
      have hT := cntDs_take hxm
      have hU := cntDs_le (l.map Cel.toD) (j + 1)
      rw [HC.out, hT] at hU
      obtain ⟨g, Fd, cs, pre, post, rfl, hod, hp, hB0, hgF, hnd, hsub, hgm, hput⟩ := own_elem Try.underlying46 ho hF (mkTo_at hxm)
      obtain ⟨Avalue_items, nvalue_items, cvalue_items, Avalue_parts, nvalue_parts, cvalue_parts, Avalue_names, nvalue_names, cvalue_names, Avalue_cls, nvalue_cls, cvalue_cls, Avalue_levels, nvalue_levels, cvalue_levels, Aparts, nparts, cparts, Fvalue_items, Fvalue_parts, Fvalue_names, Fvalue_cls, Fvalue_levels, Fparts, rfl, rfl, ovalue_items_0, ovalue_parts_0, ovalue_names_0, ovalue_cls_0, ovalue_levels_0, oparts_0⟩ := Cell_ownopen hod
      replace hp : pre.length = j * 10 := hp
      have hc := Cell_cnt x
      rw [Vector_cnt x.value] at hc
      obtain ⟨Nvalue_items, hvalue_items⟩ : ∃ N : Nat, cntDs (x.value.items.map Item.toD) = N := ⟨_, rfl⟩
      obtain ⟨Nvalue_parts, hvalue_parts⟩ : ∃ N : Nat, cntDs (x.value.parts.map Vec.toD) = N := ⟨_, rfl⟩
      obtain ⟨Nvalue_names, hvalue_names⟩ : ∃ N : Nat, cntDs (x.value.names.map D.s) = N := ⟨_, rfl⟩
      obtain ⟨Nvalue_cls, hvalue_cls⟩ : ∃ N : Nat, cntDs (x.value.cls.map D.s) = N := ⟨_, rfl⟩
      obtain ⟨Nvalue_levels, hvalue_levels⟩ : ∃ N : Nat, cntDs (x.value.levels.map D.s) = N := ⟨_, rfl⟩
      obtain ⟨Nparts, hparts⟩ : ∃ N : Nat, cntDs (x.parts.map (D.i .i64)) = N := ⟨_, rfl⟩
      rw [hvalue_items, hvalue_parts, hvalue_names, hvalue_cls, hvalue_levels, hparts] at hc
      have hq : (Q : Int) + (1 + 1 + (Nvalue_items : Int) + (Nvalue_parts : Int) + (Nvalue_names : Int) + (Nvalue_cls : Int) + (Nvalue_levels : Int) + 1 + 1 + (Nparts : Int)) ≤ 1152921504606846976 := by rw [hc] at hU; omega
      have HQ := Lib.hid hQ
      have HX := Lib.hid hx
      have HN := Lib.hid hN
      have HT := Lib.hid hT
      have HK := Lib.hid hc
      clear hQ hx hxm hN hT hU hc
      have Hvalue_items := Lib.hid hvalue_items
      clear hvalue_items
      have Hvalue_parts := Lib.hid hvalue_parts
      clear hvalue_parts
      have Hvalue_names := Lib.hid hvalue_names
      clear hvalue_names
      have Hvalue_cls := Lib.hid hvalue_cls
      clear hvalue_cls
      have Hvalue_levels := Lib.hid hvalue_levels
      clear hvalue_levels
      have Hparts := Lib.hid hparts
      clear hparts
      have hnF := hnd
      simp only [List.append_assoc, List.nil_append, List.append_nil] at hnF
      have N0 := List.nodup_append.1 hnF
      have N1 := List.nodup_append.1 N0.2.1
      have N2 := List.nodup_append.1 N1.2.1
      have N3 := List.nodup_append.1 N2.2.1
      have N4 := List.nodup_append.1 N3.2.1
      have gvalue_items : g ∉ Fvalue_items := fun hm => hgF (by simp [hm])
      have gvalue_parts : g ∉ Fvalue_parts := fun hm => hgF (by simp [hm])
      have gvalue_names : g ∉ Fvalue_names := fun hm => hgF (by simp [hm])
      have gvalue_cls : g ∉ Fvalue_cls := fun hm => hgF (by simp [hm])
      have gvalue_levels : g ∉ Fvalue_levels := fun hm => hgF (by simp [hm])
      have gparts : g ∉ Fparts := fun hm => hgF (by simp [hm])
      have dvalue_items := N0.1
      have dvalue_parts := N1.1
      have dvalue_names := N2.1
      have dvalue_cls := N3.1
      have dvalue_levels := N4.1
      have dparts := N4.2.1
      have m0 : Mod (g :: ((Fvalue_items ++ (Fvalue_parts ++ (Fvalue_names ++ (Fvalue_cls ++ (Fvalue_levels ++ []))))) ++ (Fparts ++ []))) wr wr := Mod.refl
      have c0_0 : wr.cell? ⟨g, j * 10, none⟩ = some (.int .i64 x.count) := hB0.elem hp 0 (by simp)
      have f0_0 : wr.frozen? ⟨g, j * 10, none⟩ = false := hB0.frozen _
      have c1_0 : wr.cell? ⟨g, j * 10 + 1, none⟩ = some (.int .i64 x.value.kind) := hB0.elem hp 1 (by simp)
      have f1_0 : wr.frozen? ⟨g, j * 10 + 1, none⟩ = false := hB0.frozen _
      have c2_0 : wr.cell? ⟨g, j * 10 + 2, none⟩ = some (.slice Avalue_items nvalue_items cvalue_items) := hB0.elem hp 2 (by simp)
      have f2_0 : wr.frozen? ⟨g, j * 10 + 2, none⟩ = false := hB0.frozen _
      have c3_0 : wr.cell? ⟨g, j * 10 + 3, none⟩ = some (.slice Avalue_parts nvalue_parts cvalue_parts) := hB0.elem hp 3 (by simp)
      have f3_0 : wr.frozen? ⟨g, j * 10 + 3, none⟩ = false := hB0.frozen _
      have c4_0 : wr.cell? ⟨g, j * 10 + 4, none⟩ = some (.slice Avalue_names nvalue_names cvalue_names) := hB0.elem hp 4 (by simp)
      have f4_0 : wr.frozen? ⟨g, j * 10 + 4, none⟩ = false := hB0.frozen _
      have c5_0 : wr.cell? ⟨g, j * 10 + 5, none⟩ = some (.slice Avalue_cls nvalue_cls cvalue_cls) := hB0.elem hp 5 (by simp)
      have f5_0 : wr.frozen? ⟨g, j * 10 + 5, none⟩ = false := hB0.frozen _
      have c6_0 : wr.cell? ⟨g, j * 10 + 6, none⟩ = some (.slice Avalue_levels nvalue_levels cvalue_levels) := hB0.elem hp 6 (by simp)
      have f6_0 : wr.frozen? ⟨g, j * 10 + 6, none⟩ = false := hB0.frozen _
      have c7_0 : wr.cell? ⟨g, j * 10 + 7, none⟩ = some (.int .i64 x.value.code) := hB0.elem hp 7 (by simp)
      have f7_0 : wr.frozen? ⟨g, j * 10 + 7, none⟩ = false := hB0.frozen _
      have c8_0 : wr.cell? ⟨g, j * 10 + 8, none⟩ = some (.int .i64 x.value.env) := hB0.elem hp 8 (by simp)
      have f8_0 : wr.frozen? ⟨g, j * 10 + 8, none⟩ = false := hB0.frozen _
      have c9_0 : wr.cell? ⟨g, j * 10 + 9, none⟩ = some (.slice Aparts nparts cparts) := hB0.elem hp 9 (by simp)
      have f9_0 : wr.frozen? ⟨g, j * 10 + 9, none⟩ = false := hB0.frozen _
      go_wp2_with fail
      refine (markItemS_any x.value.items _ _ _ _ _ (Q + 1 + 1) Nvalue_items _ (own_pk (own_pk ovalue_items_0 (by exact gvalue_items)) (by exact gvalue_items)) dvalue_items (by omega) Hvalue_items.out (by omega)).mono ?_
      rintro e w1 ⟨rfl, ovalue_items_1, b1⟩
      have B1 : Blk w1 g 71 (pre ++ ([.int .i64 ((Q : Int)), .int .i64 ((Q : Int) + 1), .slice Avalue_items nvalue_items cvalue_items, .slice Avalue_parts nvalue_parts cvalue_parts, .slice Avalue_names nvalue_names cvalue_names, .slice Avalue_cls nvalue_cls cvalue_cls, .slice Avalue_levels nvalue_levels cvalue_levels, .int .i64 x.value.code, .int .i64 x.value.env, .slice Aparts nparts cparts] ++ post)) := Blk.mod (g := g) (Blk.put_ (Blk.put_ hB0 hp (j := 0) (by simp) (by rfl) _) hp (j := 1) (by simp) (by rfl) _) b1 gvalue_items
      have m1 := mod_in (mod_in (mod_in m0 (Mod.poke (F := g :: ((Fvalue_items ++ (Fvalue_parts ++ (Fvalue_names ++ (Fvalue_cls ++ (Fvalue_levels ++ []))))) ++ (Fparts ++ []))) (by simp) _) (fun _ h => h)) (Mod.poke (F := g :: ((Fvalue_items ++ (Fvalue_parts ++ (Fvalue_names ++ (Fvalue_cls ++ (Fvalue_levels ++ []))))) ++ (Fparts ++ []))) (by simp) _) (fun _ h => h)) b1 (fun y hy => by simp [hy])
      have ovalue_parts_1 := own_mod (own_pk (own_pk ovalue_parts_0 (by exact gvalue_parts)) (by exact gvalue_parts)) b1 (fun y hy hz => N0.2.2 y hz y (by simp [hy]) rfl)
      have ovalue_names_1 := own_mod (own_pk (own_pk ovalue_names_0 (by exact gvalue_names)) (by exact gvalue_names)) b1 (fun y hy hz => N0.2.2 y hz y (by simp [hy]) rfl)
      have ovalue_cls_1 := own_mod (own_pk (own_pk ovalue_cls_0 (by exact gvalue_cls)) (by exact gvalue_cls)) b1 (fun y hy hz => N0.2.2 y hz y (by simp [hy]) rfl)
      have ovalue_levels_1 := own_mod (own_pk (own_pk ovalue_levels_0 (by exact gvalue_levels)) (by exact gvalue_levels)) b1 (fun y hy hz => N0.2.2 y hz y (by simp [hy]) rfl)
      have oparts_1 := own_mod (own_pk (own_pk oparts_0 (by exact gparts)) (by exact gparts)) b1 (fun y hy hz => N0.2.2 y hz y (by simp [hy]) rfl)
      have c3_1 : w1.cell? ⟨g, j * 10 + 3, none⟩ = some (.slice Avalue_parts nvalue_parts cvalue_parts) := B1.elem hp 3 (by simp)
      have f3_1 : w1.frozen? ⟨g, j * 10 + 3, none⟩ = false := B1.frozen _
      have c4_1 : w1.cell? ⟨g, j * 10 + 4, none⟩ = some (.slice Avalue_names nvalue_names cvalue_names) := B1.elem hp 4 (by simp)
      have f4_1 : w1.frozen? ⟨g, j * 10 + 4, none⟩ = false := B1.frozen _
      have c5_1 : w1.cell? ⟨g, j * 10 + 5, none⟩ = some (.slice Avalue_cls nvalue_cls cvalue_cls) := B1.elem hp 5 (by simp)
      have f5_1 : w1.frozen? ⟨g, j * 10 + 5, none⟩ = false := B1.frozen _
      have c6_1 : w1.cell? ⟨g, j * 10 + 6, none⟩ = some (.slice Avalue_levels nvalue_levels cvalue_levels) := B1.elem hp 6 (by simp)
      have f6_1 : w1.frozen? ⟨g, j * 10 + 6, none⟩ = false := B1.frozen _
      have c7_1 : w1.cell? ⟨g, j * 10 + 7, none⟩ = some (.int .i64 x.value.code) := B1.elem hp 7 (by simp)
      have f7_1 : w1.frozen? ⟨g, j * 10 + 7, none⟩ = false := B1.frozen _
      have c8_1 : w1.cell? ⟨g, j * 10 + 8, none⟩ = some (.int .i64 x.value.env) := B1.elem hp 8 (by simp)
      have f8_1 : w1.frozen? ⟨g, j * 10 + 8, none⟩ = false := B1.frozen _
      have c9_1 : w1.cell? ⟨g, j * 10 + 9, none⟩ = some (.slice Aparts nparts cparts) := B1.elem hp 9 (by simp)
      have f9_1 : w1.frozen? ⟨g, j * 10 + 9, none⟩ = false := B1.frozen _
      go_wp2_with fail
      refine (markVectorS_any x.value.parts _ _ _ _ _ (Q + 1 + 1 + Nvalue_items) Nvalue_parts _ ovalue_parts_1 dvalue_parts (by omega) Hvalue_parts.out (by omega)).mono ?_
      rintro e w2 ⟨rfl, ovalue_parts_2, b2⟩
      have B2 : Blk w2 g 71 (pre ++ ([.int .i64 ((Q : Int)), .int .i64 ((Q : Int) + 1), .slice Avalue_items nvalue_items cvalue_items, .slice Avalue_parts nvalue_parts cvalue_parts, .slice Avalue_names nvalue_names cvalue_names, .slice Avalue_cls nvalue_cls cvalue_cls, .slice Avalue_levels nvalue_levels cvalue_levels, .int .i64 x.value.code, .int .i64 x.value.env, .slice Aparts nparts cparts] ++ post)) := Blk.mod (g := g) B1 b2 gvalue_parts
      have m2 := mod_in m1 b2 (fun y hy => by simp [hy])
      have ovalue_items_2 := own_mod ovalue_items_1 b2 (fun y hy hz => N0.2.2 y hy y (by simp [hz]) rfl)
      have ovalue_names_2 := own_mod ovalue_names_1 b2 (fun y hy hz => N1.2.2 y hz y (by simp [hy]) rfl)
      have ovalue_cls_2 := own_mod ovalue_cls_1 b2 (fun y hy hz => N1.2.2 y hz y (by simp [hy]) rfl)
      have ovalue_levels_2 := own_mod ovalue_levels_1 b2 (fun y hy hz => N1.2.2 y hz y (by simp [hy]) rfl)
      have oparts_2 := own_mod oparts_1 b2 (fun y hy hz => N1.2.2 y hz y (by simp [hy]) rfl)
      have c4_2 : w2.cell? ⟨g, j * 10 + 4, none⟩ = some (.slice Avalue_names nvalue_names cvalue_names) := B2.elem hp 4 (by simp)
      have f4_2 : w2.frozen? ⟨g, j * 10 + 4, none⟩ = false := B2.frozen _
      have c5_2 : w2.cell? ⟨g, j * 10 + 5, none⟩ = some (.slice Avalue_cls nvalue_cls cvalue_cls) := B2.elem hp 5 (by simp)
      have f5_2 : w2.frozen? ⟨g, j * 10 + 5, none⟩ = false := B2.frozen _
      have c6_2 : w2.cell? ⟨g, j * 10 + 6, none⟩ = some (.slice Avalue_levels nvalue_levels cvalue_levels) := B2.elem hp 6 (by simp)
      have f6_2 : w2.frozen? ⟨g, j * 10 + 6, none⟩ = false := B2.frozen _
      have c7_2 : w2.cell? ⟨g, j * 10 + 7, none⟩ = some (.int .i64 x.value.code) := B2.elem hp 7 (by simp)
      have f7_2 : w2.frozen? ⟨g, j * 10 + 7, none⟩ = false := B2.frozen _
      have c8_2 : w2.cell? ⟨g, j * 10 + 8, none⟩ = some (.int .i64 x.value.env) := B2.elem hp 8 (by simp)
      have f8_2 : w2.frozen? ⟨g, j * 10 + 8, none⟩ = false := B2.frozen _
      have c9_2 : w2.cell? ⟨g, j * 10 + 9, none⟩ = some (.slice Aparts nparts cparts) := B2.elem hp 9 (by simp)
      have f9_2 : w2.frozen? ⟨g, j * 10 + 9, none⟩ = false := B2.frozen _
      go_wp2_with fail
      refine (markStringS_of x.value.names _ _ _ _ _ (Q + 1 + 1 + Nvalue_items + Nvalue_parts) Nvalue_names _ ovalue_names_2 dvalue_names (by omega) Hvalue_names.out (by omega)).mono ?_
      rintro e w3 ⟨rfl, ovalue_names_3, b3⟩
      have B3 : Blk w3 g 71 (pre ++ ([.int .i64 ((Q : Int)), .int .i64 ((Q : Int) + 1), .slice Avalue_items nvalue_items cvalue_items, .slice Avalue_parts nvalue_parts cvalue_parts, .slice Avalue_names nvalue_names cvalue_names, .slice Avalue_cls nvalue_cls cvalue_cls, .slice Avalue_levels nvalue_levels cvalue_levels, .int .i64 x.value.code, .int .i64 x.value.env, .slice Aparts nparts cparts] ++ post)) := Blk.mod (g := g) B2 b3 gvalue_names
      have m3 := mod_in m2 b3 (fun y hy => by simp [hy])
      have ovalue_items_3 := own_mod ovalue_items_2 b3 (fun y hy hz => N0.2.2 y hy y (by simp [hz]) rfl)
      have ovalue_parts_3 := own_mod ovalue_parts_2 b3 (fun y hy hz => N1.2.2 y hy y (by simp [hz]) rfl)
      have ovalue_cls_3 := own_mod ovalue_cls_2 b3 (fun y hy hz => N2.2.2 y hz y (by simp [hy]) rfl)
      have ovalue_levels_3 := own_mod ovalue_levels_2 b3 (fun y hy hz => N2.2.2 y hz y (by simp [hy]) rfl)
      have oparts_3 := own_mod oparts_2 b3 (fun y hy hz => N2.2.2 y hz y (by simp [hy]) rfl)
      have c5_3 : w3.cell? ⟨g, j * 10 + 5, none⟩ = some (.slice Avalue_cls nvalue_cls cvalue_cls) := B3.elem hp 5 (by simp)
      have f5_3 : w3.frozen? ⟨g, j * 10 + 5, none⟩ = false := B3.frozen _
      have c6_3 : w3.cell? ⟨g, j * 10 + 6, none⟩ = some (.slice Avalue_levels nvalue_levels cvalue_levels) := B3.elem hp 6 (by simp)
      have f6_3 : w3.frozen? ⟨g, j * 10 + 6, none⟩ = false := B3.frozen _
      have c7_3 : w3.cell? ⟨g, j * 10 + 7, none⟩ = some (.int .i64 x.value.code) := B3.elem hp 7 (by simp)
      have f7_3 : w3.frozen? ⟨g, j * 10 + 7, none⟩ = false := B3.frozen _
      have c8_3 : w3.cell? ⟨g, j * 10 + 8, none⟩ = some (.int .i64 x.value.env) := B3.elem hp 8 (by simp)
      have f8_3 : w3.frozen? ⟨g, j * 10 + 8, none⟩ = false := B3.frozen _
      have c9_3 : w3.cell? ⟨g, j * 10 + 9, none⟩ = some (.slice Aparts nparts cparts) := B3.elem hp 9 (by simp)
      have f9_3 : w3.frozen? ⟨g, j * 10 + 9, none⟩ = false := B3.frozen _
      go_wp2_with fail
      refine (markStringS_of x.value.cls _ _ _ _ _ (Q + 1 + 1 + Nvalue_items + Nvalue_parts + Nvalue_names) Nvalue_cls _ ovalue_cls_3 dvalue_cls (by omega) Hvalue_cls.out (by omega)).mono ?_
      rintro e w4 ⟨rfl, ovalue_cls_4, b4⟩
      have B4 : Blk w4 g 71 (pre ++ ([.int .i64 ((Q : Int)), .int .i64 ((Q : Int) + 1), .slice Avalue_items nvalue_items cvalue_items, .slice Avalue_parts nvalue_parts cvalue_parts, .slice Avalue_names nvalue_names cvalue_names, .slice Avalue_cls nvalue_cls cvalue_cls, .slice Avalue_levels nvalue_levels cvalue_levels, .int .i64 x.value.code, .int .i64 x.value.env, .slice Aparts nparts cparts] ++ post)) := Blk.mod (g := g) B3 b4 gvalue_cls
      have m4 := mod_in m3 b4 (fun y hy => by simp [hy])
      have ovalue_items_4 := own_mod ovalue_items_3 b4 (fun y hy hz => N0.2.2 y hy y (by simp [hz]) rfl)
      have ovalue_parts_4 := own_mod ovalue_parts_3 b4 (fun y hy hz => N1.2.2 y hy y (by simp [hz]) rfl)
      have ovalue_names_4 := own_mod ovalue_names_3 b4 (fun y hy hz => N2.2.2 y hy y (by simp [hz]) rfl)
      have ovalue_levels_4 := own_mod ovalue_levels_3 b4 (fun y hy hz => N3.2.2 y hz y (by simp [hy]) rfl)
      have oparts_4 := own_mod oparts_3 b4 (fun y hy hz => N3.2.2 y hz y (by simp [hy]) rfl)
      have c6_4 : w4.cell? ⟨g, j * 10 + 6, none⟩ = some (.slice Avalue_levels nvalue_levels cvalue_levels) := B4.elem hp 6 (by simp)
      have f6_4 : w4.frozen? ⟨g, j * 10 + 6, none⟩ = false := B4.frozen _
      have c7_4 : w4.cell? ⟨g, j * 10 + 7, none⟩ = some (.int .i64 x.value.code) := B4.elem hp 7 (by simp)
      have f7_4 : w4.frozen? ⟨g, j * 10 + 7, none⟩ = false := B4.frozen _
      have c8_4 : w4.cell? ⟨g, j * 10 + 8, none⟩ = some (.int .i64 x.value.env) := B4.elem hp 8 (by simp)
      have f8_4 : w4.frozen? ⟨g, j * 10 + 8, none⟩ = false := B4.frozen _
      have c9_4 : w4.cell? ⟨g, j * 10 + 9, none⟩ = some (.slice Aparts nparts cparts) := B4.elem hp 9 (by simp)
      have f9_4 : w4.frozen? ⟨g, j * 10 + 9, none⟩ = false := B4.frozen _
      go_wp2_with fail
      refine (markStringS_of x.value.levels _ _ _ _ _ (Q + 1 + 1 + Nvalue_items + Nvalue_parts + Nvalue_names + Nvalue_cls) Nvalue_levels _ ovalue_levels_4 dvalue_levels (by omega) Hvalue_levels.out (by omega)).mono ?_
      rintro e w5 ⟨rfl, ovalue_levels_5, b5⟩
      have B5 : Blk w5 g 71 (pre ++ ([.int .i64 ((Q : Int)), .int .i64 ((Q : Int) + 1), .slice Avalue_items nvalue_items cvalue_items, .slice Avalue_parts nvalue_parts cvalue_parts, .slice Avalue_names nvalue_names cvalue_names, .slice Avalue_cls nvalue_cls cvalue_cls, .slice Avalue_levels nvalue_levels cvalue_levels, .int .i64 x.value.code, .int .i64 x.value.env, .slice Aparts nparts cparts] ++ post)) := Blk.mod (g := g) B4 b5 gvalue_levels
      have m5 := mod_in m4 b5 (fun y hy => by simp [hy])
      have ovalue_items_5 := own_mod ovalue_items_4 b5 (fun y hy hz => N0.2.2 y hy y (by simp [hz]) rfl)
      have ovalue_parts_5 := own_mod ovalue_parts_4 b5 (fun y hy hz => N1.2.2 y hy y (by simp [hz]) rfl)
      have ovalue_names_5 := own_mod ovalue_names_4 b5 (fun y hy hz => N2.2.2 y hy y (by simp [hz]) rfl)
      have ovalue_cls_5 := own_mod ovalue_cls_4 b5 (fun y hy hz => N3.2.2 y hy y (by simp [hz]) rfl)
      have oparts_5 := own_mod oparts_4 b5 (fun y hy hz => N4.2.2 y hz y (by simp [hy]) rfl)
      have c7_5 : w5.cell? ⟨g, j * 10 + 7, none⟩ = some (.int .i64 x.value.code) := B5.elem hp 7 (by simp)
      have f7_5 : w5.frozen? ⟨g, j * 10 + 7, none⟩ = false := B5.frozen _
      have c8_5 : w5.cell? ⟨g, j * 10 + 8, none⟩ = some (.int .i64 x.value.env) := B5.elem hp 8 (by simp)
      have f8_5 : w5.frozen? ⟨g, j * 10 + 8, none⟩ = false := B5.frozen _
      have c9_5 : w5.cell? ⟨g, j * 10 + 9, none⟩ = some (.slice Aparts nparts cparts) := B5.elem hp 9 (by simp)
      have f9_5 : w5.frozen? ⟨g, j * 10 + 9, none⟩ = false := B5.frozen _
      go_wp2_with fail
      refine (markIntS_of x.parts _ _ _ _ _ (Q + 1 + 1 + Nvalue_items + Nvalue_parts + Nvalue_names + Nvalue_cls + Nvalue_levels + 1 + 1) Nparts _ (own_pk (own_pk oparts_5 (by exact gparts)) (by exact gparts)) dparts (by omega) Hparts.out (by omega)).mono ?_
      rintro e w6 ⟨rfl, oparts_6, b6⟩
      have B6 : Blk w6 g 71 (pre ++ ([.int .i64 ((Q : Int)), .int .i64 ((Q : Int) + 1), .slice Avalue_items nvalue_items cvalue_items, .slice Avalue_parts nvalue_parts cvalue_parts, .slice Avalue_names nvalue_names cvalue_names, .slice Avalue_cls nvalue_cls cvalue_cls, .slice Avalue_levels nvalue_levels cvalue_levels, .int .i64 ((Q : Int) + 1 + 1 + (Nvalue_items : Int) + (Nvalue_parts : Int) + (Nvalue_names : Int) + (Nvalue_cls : Int) + (Nvalue_levels : Int)), .int .i64 ((Q : Int) + 1 + 1 + (Nvalue_items : Int) + (Nvalue_parts : Int) + (Nvalue_names : Int) + (Nvalue_cls : Int) + (Nvalue_levels : Int) + 1), .slice Aparts nparts cparts] ++ post)) := Blk.mod (g := g) (Blk.put_ (Blk.put_ B5 hp (j := 7) (by simp) (by rfl) _) hp (j := 8) (by simp) (by rfl) _) b6 gparts
      have m6 := mod_in (mod_in (mod_in m5 (Mod.poke (F := g :: ((Fvalue_items ++ (Fvalue_parts ++ (Fvalue_names ++ (Fvalue_cls ++ (Fvalue_levels ++ []))))) ++ (Fparts ++ []))) (by simp) _) (fun _ h => h)) (Mod.poke (F := g :: ((Fvalue_items ++ (Fvalue_parts ++ (Fvalue_names ++ (Fvalue_cls ++ (Fvalue_levels ++ []))))) ++ (Fparts ++ []))) (by simp) _) (fun _ h => h)) b6 (fun y hy => by simp [hy])
      have ovalue_items_6 := own_mod (own_pk (own_pk ovalue_items_5 (by exact gvalue_items)) (by exact gvalue_items)) b6 (fun y hy hz => N0.2.2 y hy y (by simp [hz]) rfl)
      have ovalue_parts_6 := own_mod (own_pk (own_pk ovalue_parts_5 (by exact gvalue_parts)) (by exact gvalue_parts)) b6 (fun y hy hz => N1.2.2 y hy y (by simp [hz]) rfl)
      have ovalue_names_6 := own_mod (own_pk (own_pk ovalue_names_5 (by exact gvalue_names)) (by exact gvalue_names)) b6 (fun y hy hz => N2.2.2 y hy y (by simp [hz]) rfl)
      have ovalue_cls_6 := own_mod (own_pk (own_pk ovalue_cls_5 (by exact gvalue_cls)) (by exact gvalue_cls)) b6 (fun y hy hz => N3.2.2 y hy y (by simp [hz]) rfl)
      have ovalue_levels_6 := own_mod (own_pk (own_pk ovalue_levels_5 (by exact gvalue_levels)) (by exact gvalue_levels)) b6 (fun y hy hz => N4.2.2 y hy y (by simp [hz]) rfl)
      go_wp2_with fail
      go_roundw
      case rel => exact ⟨j + 1, Q + 1 + 1 + Nvalue_items + Nvalue_parts + Nvalue_names + Nvalue_cls + Nvalue_levels + 1 + 1 + Nparts, by omega, by go_num, by go_num, by have h1 := HQ.out; have h2 := HT.out; have h3 := HK.out; omega, by rw [← HN.out]; exact hput _ _ [.int .i64 ((Q : Int)), .int .i64 ((Q : Int) + 1), .slice Avalue_items nvalue_items cvalue_items, .slice Avalue_parts nvalue_parts cvalue_parts, .slice Avalue_names nvalue_names cvalue_names, .slice Avalue_cls nvalue_cls cvalue_cls, .slice Avalue_levels nvalue_levels cvalue_levels, .int .i64 ((Q : Int) + 1 + 1 + (Nvalue_items : Int) + (Nvalue_parts : Int) + (Nvalue_names : Int) + (Nvalue_cls : Int) + (Nvalue_levels : Int)), .int .i64 ((Q : Int) + 1 + 1 + (Nvalue_items : Int) + (Nvalue_parts : Int) + (Nvalue_names : Int) + (Nvalue_cls : Int) + (Nvalue_levels : Int) + 1), .slice Aparts nparts cparts] rfl (Cell_ownM (q := Q) (Cvalue := [.int .i64 ((Q : Int) + 1), .slice Avalue_items nvalue_items cvalue_items, .slice Avalue_parts nvalue_parts cvalue_parts, .slice Avalue_names nvalue_names cvalue_names, .slice Avalue_cls nvalue_cls cvalue_cls, .slice Avalue_levels nvalue_levels cvalue_levels, .int .i64 ((Q : Int) + 1 + 1 + (Nvalue_items : Int) + (Nvalue_parts : Int) + (Nvalue_names : Int) + (Nvalue_cls : Int) + (Nvalue_levels : Int)), .int .i64 ((Q : Int) + 1 + 1 + (Nvalue_items : Int) + (Nvalue_parts : Int) + (Nvalue_names : Int) + (Nvalue_cls : Int) + (Nvalue_levels : Int) + 1)]) (by have u0 := Cell_cnt x; have evalue_items := Hvalue_items.out; have evalue_parts := Hvalue_parts.out; have evalue_names := Hvalue_names.out; have evalue_cls := Hvalue_cls.out; have evalue_levels := Hvalue_levels.out; have eparts := Hparts.out; have vvalue := Vector_cnt x.value; omega) (by have evalue_items := Hvalue_items.out; have evalue_parts := Hvalue_parts.out; have evalue_names := Hvalue_names.out; have evalue_cls := Hvalue_cls.out; have evalue_levels := Hvalue_levels.out; have eparts := Hparts.out; have vvalue := Vector_cnt x.value; omega) (by have evalue_items := Hvalue_items.out; have evalue_parts := Hvalue_parts.out; have evalue_names := Hvalue_names.out; have evalue_cls := Hvalue_cls.out; have evalue_levels := Hvalue_levels.out; have eparts := Hparts.out; have vvalue := Vector_cnt x.value; omega) (Vector_ownM (q := Q + 1) (by have u0 := Vector_cnt x.value; have evalue_items := Hvalue_items.out; have evalue_parts := Hvalue_parts.out; have evalue_names := Hvalue_names.out; have evalue_cls := Hvalue_cls.out; have evalue_levels := Hvalue_levels.out; have eparts := Hparts.out; have vvalue := Vector_cnt x.value; omega) (by have evalue_items := Hvalue_items.out; have evalue_parts := Hvalue_parts.out; have evalue_names := Hvalue_names.out; have evalue_cls := Hvalue_cls.out; have evalue_levels := Hvalue_levels.out; have eparts := Hparts.out; have vvalue := Vector_cnt x.value; omega) (by have evalue_items := Hvalue_items.out; have evalue_parts := Hvalue_parts.out; have evalue_names := Hvalue_names.out; have evalue_cls := Hvalue_cls.out; have evalue_levels := Hvalue_levels.out; have eparts := Hparts.out; have vvalue := Vector_cnt x.value; omega) ovalue_items_6 (by have evalue_items := Hvalue_items.out; have evalue_parts := Hvalue_parts.out; have evalue_names := Hvalue_names.out; have evalue_cls := Hvalue_cls.out; have evalue_levels := Hvalue_levels.out; have eparts := Hparts.out; have vvalue := Vector_cnt x.value; omega) ovalue_parts_6 (by have evalue_items := Hvalue_items.out; have evalue_parts := Hvalue_parts.out; have evalue_names := Hvalue_names.out; have evalue_cls := Hvalue_cls.out; have evalue_levels := Hvalue_levels.out; have eparts := Hparts.out; have vvalue := Vector_cnt x.value; omega) ovalue_names_6 (by have evalue_items := Hvalue_items.out; have evalue_parts := Hvalue_parts.out; have evalue_names := Hvalue_names.out; have evalue_cls := Hvalue_cls.out; have evalue_levels := Hvalue_levels.out; have eparts := Hparts.out; have vvalue := Vector_cnt x.value; omega) ovalue_cls_6 (by have evalue_items := Hvalue_items.out; have evalue_parts := Hvalue_parts.out; have evalue_names := Hvalue_names.out; have evalue_cls := Hvalue_cls.out; have evalue_levels := Hvalue_levels.out; have eparts := Hparts.out; have vvalue := Vector_cnt x.value; omega) ovalue_levels_6 (by have evalue_items := Hvalue_items.out; have evalue_parts := Hvalue_parts.out; have evalue_names := Hvalue_names.out; have evalue_cls := Hvalue_cls.out; have evalue_levels := Hvalue_levels.out; have eparts := Hparts.out; have vvalue := Vector_cnt x.value; omega) (by have evalue_items := Hvalue_items.out; have evalue_parts := Hvalue_parts.out; have evalue_names := Hvalue_names.out; have evalue_cls := Hvalue_cls.out; have evalue_levels := Hvalue_levels.out; have eparts := Hparts.out; have vvalue := Vector_cnt x.value; omega) rfl) (by have evalue_items := Hvalue_items.out; have evalue_parts := Hvalue_parts.out; have evalue_names := Hvalue_names.out; have evalue_cls := Hvalue_cls.out; have evalue_levels := Hvalue_levels.out; have eparts := Hparts.out; have vvalue := Vector_cnt x.value; omega) oparts_6 rfl) B6 (fun y hy hyg hyd => m6.2.2 y (own_lt _ _ _ _ ho y hy) (fun hm => by rcases List.mem_cons.1 hm with e | hm; exact hyg e; exact hyd hm)), hm.trans m6 (fun y hy => .inl (by rcases List.mem_cons.1 hy with rfl | hy; exact hgm; exact hsub y hy))⟩
      case measure => simp [intOf]; omega
    · obtain rfl : j = n := by omega
      rw [mkTo_all (by rw [List.length_map, HL.out]; exact Nat.le_refl _)] at ho
      rw [List.take_of_length_le (by rw [List.length_map, HL.out]; exact Nat.le_refl _), HC.out] at hQ
      subst hQ
      go_wp2_with fail
      go_ret
      exact ⟨ret_int (by omega), ho, hm⟩
theorem markCellS_any (l : List Cel) (A : Option Addr) (n c : Nat) (F : List Nat) (z : Int) (k cn : Nat) (w : World) (h : own Try.prog w (.sl (l.map Cel.toD)) 46 F [.slice A n c]) (hF : F.Nodup) (hz : z = (k : Int)) (hcn : cntDs (l.map Cel.toD) = cn) (hk : k + cn ≤ 1152921504606846976) :
    Calls Try.prog 62 #[.slice A n c, .int .i64 z] w fun e w' => e = .returned (.int .i64 (z + (cn : Int))) ∧ own Try.prog w' (.sl (mkDs (l.map Cel.toD) k)) 46 F [.slice A n c] ∧ Mod F w w' := markCellS_of l A n c F z k cn w h hF hz hcn hk
end Go.Proofs.Ytekcpadlmfaihaa
namespace Go.Proofs.Ytekcpadlmfaihaa
open Go.RowKit
theorem Heap_ownopen {w : World} {x : Hp} {F : List Nat} {cs : List Value} (h : own Try.prog w x.toD 48 F cs) : ∃ (Acells : Option Addr) (ncells : Nat) (ccells : Nat) (Anames : Option Addr) (nnames : Nat) (cnames : Nat) (Aslots : Option Addr) (nslots : Nat) (cslots : Nat) (Fcells : List Nat) (Fnames : List Nat) (Fslots : List Nat), cs = [.slice Acells ncells ccells, .slice Anames nnames cnames, .slice Aslots nslots cslots, .int .i64 x.copies] ∧ F = Fcells ++ (Fnames ++ (Fslots ++ [])) ∧ own Try.prog w (.sl (x.cells.map Cel.toD)) 46 Fcells [.slice Acells ncells ccells] ∧ own Try.prog w (.sl (x.names.map D.s)) 24 Fnames [.slice Anames nnames cnames] ∧ own Try.prog w (.sl (x.slots.map (D.i .i64))) 41 Fslots [.slice Aslots nslots cslots] := by
  rw [Heap_toD, own] at h
  obtain ⟨fds, css, h1, rfl, h⟩ := h
  rw [Try.underlying48] at h1
  injection h1 with h1
  injection h1 with h1
  subst h1
  replace h : ownL Try.prog w [.sl (x.cells.map Cel.toD), .sl (x.names.map .s), .sl (x.slots.map (.i .i64)), .i .i64 x.copies] [46, 24, 41, 3] F css := h
  rw [ownL] at h
  obtain ⟨t0, u0, G0, H0, d0, e0, ht, rfl, rfl, k0, h⟩ := h
  injection ht with ht1 ht2
  subst ht1 ht2
  obtain ⟨A0, n0, q0, rfl⟩ := rep_sl_val (own_rep _ _ _ _ k0)
  rw [ownL] at h
  obtain ⟨t1, u1, G1, H1, d1, e1, ht, rfl, rfl, k1, h⟩ := h
  injection ht with ht1 ht2
  subst ht1 ht2
  obtain ⟨A1, n1, q1, rfl⟩ := rep_sl_val (own_rep _ _ _ _ k1)
  rw [ownL] at h
  obtain ⟨t2, u2, G2, H2, d2, e2, ht, rfl, rfl, k2, h⟩ := h
  injection ht with ht1 ht2
  subst ht1 ht2
  obtain ⟨A2, n2, q2, rfl⟩ := rep_sl_val (own_rep _ _ _ _ k2)
  rw [ownL] at h
  obtain ⟨t3, u3, G3, H3, d3, e3, ht, rfl, rfl, k3, h⟩ := h
  injection ht with ht1 ht2
  subst ht1 ht2
  rw [own] at k3
  obtain ⟨rfl, rfl, _⟩ := k3
  rw [ownL] at h
  obtain ⟨_, rfl, rfl⟩ := h
  exact ⟨A0, n0, q0, A1, n1, q1, A2, n2, q2, G0, G1, G2, rfl, rfl, k0, k1, k2⟩
set_option maxRecDepth 100000 in
set_option maxHeartbeats 16000000 in
theorem markHeap_any (x : Hp) (Acells : Option Addr) (ncells ccells : Nat) (Anames : Option Addr) (nnames cnames : Nat) (Aslots : Option Addr) (nslots cslots : Nat) {Fcells Fnames Fslots : List Nat} (z : Int) (k : Nat) (w : World) (ocells_0 : own Try.prog w (.sl (x.cells.map Cel.toD)) 46 Fcells [.slice Acells ncells ccells]) (onames_0 : own Try.prog w (.sl (x.names.map D.s)) 24 Fnames [.slice Anames nnames cnames]) (oslots_0 : own Try.prog w (.sl (x.slots.map (D.i .i64))) 41 Fslots [.slice Aslots nslots cslots]) {Ncells : Nat} (Hcells : cntDs (x.cells.map Cel.toD) = Ncells) {Nnames : Nat} (Hnames : cntDs (x.names.map D.s) = Nnames) {Nslots : Nat} (Hslots : cntDs (x.slots.map (D.i .i64)) = Nslots) (hnd : (Fcells ++ (Fnames ++ (Fslots ++ []))).Nodup) (hz : z = (k : Int)) (hk : k + Ncells + Nnames + Nslots ≤ 1152921504606846976) :
    Calls Try.prog 22 #[.agg #[.slice Acells ncells ccells, .slice Anames nnames cnames, .slice Aslots nslots cslots, .int .i64 x.copies], .int .i64 z] w fun e w' => e = .returned (.int .i64 (z + (Ncells : Int) + (Nnames : Int) + (Nslots : Int))) ∧ own Try.prog w' (.sl (mkDs (x.cells.map Cel.toD) (k))) 46 Fcells [.slice Acells ncells ccells] ∧ own Try.prog w' (.sl (mkDs (x.names.map D.s) (k + Ncells))) 24 Fnames [.slice Anames nnames cnames] ∧ own Try.prog w' (.sl (mkDs (x.slots.map (D.i .i64)) (k + Ncells + Nnames))) 41 Fslots [.slice Aslots nslots cslots] ∧ Mod (Fcells ++ (Fnames ++ (Fslots ++ []))) w w' := by
  obtain rfl := hz
  have gcells : w.heap.size ∉ Fcells := (own_lo ocells_0).notin (Nat.le_refl _)
  have gnames : w.heap.size ∉ Fnames := (own_lo onames_0).notin (Nat.le_refl _)
  have gslots : w.heap.size ∉ Fslots := (own_lo oslots_0).notin (Nat.le_refl _)
  have N0 := List.nodup_append.1 hnd
  have N1 := List.nodup_append.1 N0.2.1
  have N2 := List.nodup_append.1 N1.2.1
  have hcells := Lib.hid Hcells
  clear Hcells
  have hnames := Lib.hid Hnames
  clear Hnames
  have hslots := Lib.hid Hslots
  clear Hslots
  have B0 := Blk.new_ w 48 #[.slice Acells ncells ccells, .slice Anames nnames cnames, .slice Aslots nslots cslots, .int .i64 x.copies]
  have m0 : Mod (Fcells ++ (Fnames ++ (Fslots ++ []))) w (w.alloc (.cells #[.slice Acells ncells ccells, .slice Anames nnames cnames, .slice Aslots nslots cslots, .int .i64 x.copies] 48)) := mod_below Mod.refl ((Below.refl w.heap.size w).alloc (Nat.le_refl _) _)
  replace ocells_0 := own_al (o := .cells #[.slice Acells ncells ccells, .slice Anames nnames cnames, .slice Aslots nslots cslots, .int .i64 x.copies] 48) ocells_0
  replace onames_0 := own_al (o := .cells #[.slice Acells ncells ccells, .slice Anames nnames cnames, .slice Aslots nslots cslots, .int .i64 x.copies] 48) onames_0
  replace oslots_0 := own_al (o := .cells #[.slice Acells ncells ccells, .slice Anames nnames cnames, .slice Aslots nslots cslots, .int .i64 x.copies] 48) oslots_0
  go_enter Try.func22, Try.ntmps22
  go_wp2_with fail
  refine (markCellS_any x.cells _ _ _ _ _ (k) Ncells _ ocells_0 N0.1 (by omega) hcells.out (by omega)).mono ?_
  rintro e w1 ⟨rfl, ocells_1, b1⟩
  have B1 := Blk.mod (g := w.heap.size) B0 b1 gcells
  have m1 := mod_in m0 b1 (fun y hy => by simp [hy])
  have onames_1 := own_mod onames_0 b1 (fun y hy hz => N0.2.2 y hz y (by simp [hy]) rfl)
  have oslots_1 := own_mod oslots_0 b1 (fun y hy hz => N0.2.2 y hz y (by simp [hy]) rfl)
  have c0_1 : w1.cell? ⟨w.heap.size, 0, none⟩ = some (.slice Acells ncells ccells) := B1.cell 0
  have c1_1 : w1.cell? ⟨w.heap.size, 1, none⟩ = some (.slice Anames nnames cnames) := B1.cell 1
  have c2_1 : w1.cell? ⟨w.heap.size, 2, none⟩ = some (.slice Aslots nslots cslots) := B1.cell 2
  have c3_1 : w1.cell? ⟨w.heap.size, 3, none⟩ = some (.int .i64 x.copies) := B1.cell 3
  go_wp2_with fail
  refine (markStringS_of x.names _ _ _ _ _ (k + Ncells) Nnames _ onames_1 N1.1 (by omega) hnames.out (by omega)).mono ?_
  rintro e w2 ⟨rfl, onames_2, b2⟩
  have B2 := Blk.mod (g := w.heap.size) B1 b2 gnames
  have m2 := mod_in m1 b2 (fun y hy => by simp [hy])
  have ocells_2 := own_mod ocells_1 b2 (fun y hy hz => N0.2.2 y hy y (by simp [hz]) rfl)
  have oslots_2 := own_mod oslots_1 b2 (fun y hy hz => N1.2.2 y hz y (by simp [hy]) rfl)
  have c0_2 : w2.cell? ⟨w.heap.size, 0, none⟩ = some (.slice Acells ncells ccells) := B2.cell 0
  have c1_2 : w2.cell? ⟨w.heap.size, 1, none⟩ = some (.slice Anames nnames cnames) := B2.cell 1
  have c2_2 : w2.cell? ⟨w.heap.size, 2, none⟩ = some (.slice Aslots nslots cslots) := B2.cell 2
  have c3_2 : w2.cell? ⟨w.heap.size, 3, none⟩ = some (.int .i64 x.copies) := B2.cell 3
  go_wp2_with fail
  refine (markIntS_of x.slots _ _ _ _ _ (k + Ncells + Nnames) Nslots _ oslots_2 N2.1 (by omega) hslots.out (by omega)).mono ?_
  rintro e w3 ⟨rfl, oslots_3, b3⟩
  have B3 := Blk.mod (g := w.heap.size) B2 b3 gslots
  have m3 := mod_in m2 b3 (fun y hy => by simp [hy])
  have ocells_3 := own_mod ocells_2 b3 (fun y hy hz => N0.2.2 y hy y (by simp [hz]) rfl)
  have onames_3 := own_mod onames_2 b3 (fun y hy hz => N1.2.2 y hy y (by simp [hz]) rfl)
  have c0_3 : w3.cell? ⟨w.heap.size, 0, none⟩ = some (.slice Acells ncells ccells) := B3.cell 0
  have c1_3 : w3.cell? ⟨w.heap.size, 1, none⟩ = some (.slice Anames nnames cnames) := B3.cell 1
  have c2_3 : w3.cell? ⟨w.heap.size, 2, none⟩ = some (.slice Aslots nslots cslots) := B3.cell 2
  have c3_3 : w3.cell? ⟨w.heap.size, 3, none⟩ = some (.int .i64 x.copies) := B3.cell 3
  go_wp2_with fail
  go_ret
  exact ⟨rfl, ocells_3, onames_3, oslots_3, m3⟩
end Go.Proofs.Ytekcpadlmfaihaa
