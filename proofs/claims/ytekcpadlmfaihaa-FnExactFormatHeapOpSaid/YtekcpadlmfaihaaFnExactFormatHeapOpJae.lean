/- append onto an owned slice of whatever data; what turns only some blocks. Copies of vectors: what copyVector returns. -/
import Derived.Test.YtekcpadlmfaihaaFnExactFormatHeapOpJad
import Derived.Test.YtekcpadlmfaihaaFnExactFormatHeapOpJab
import Derived.Deep.DeepCutAuto
import Derived.Deep.RegionLaw
namespace Go.Proofs.Ytekcpadlmfaihaa
open Go.RowKit
/-- Nothing but the blocks of F, and what is new, has turned. -/
def Mod (F : List Nat) (w w' : World) : Prop := (w'.os = w.os ∧ w'.tape = w.tape ∧ w'.output = w.output) ∧ w.heap.size ≤ w'.heap.size ∧ ∀ g, g < w.heap.size → g ∉ F → w'.heap[g]? = w.heap[g]?
section
variable {P : Program} {w w' : World} {F G : List Nat} {B : Nat}
theorem Mod.size (h : Mod F w w') : w.heap.size ≤ w'.heap.size := h.2.1
theorem Mod.below (h : Mod F w w') (hF : ∀ g ∈ F, B ≤ g) (hB : B ≤ w.heap.size) : Below B w w' :=
  ⟨h.1.1, h.1.2.1, h.1.2.2, h.2.1, fun k hk => h.2.2 k (by omega) (fun hm => by have := hF k hm; omega)⟩
theorem Mod.of_below (h : Below w.heap.size w w') : Mod F w w' := ⟨⟨h.os, h.tape, h.output⟩, h.size, fun k hk _ => h.block k hk⟩
theorem Mod.mono (h : Mod F w w') (hF : ∀ g ∈ F, g ∈ G) : Mod G w w' := ⟨h.1, h.2.1, fun k hk hn => h.2.2 k hk (fun hm => hn (hF k hm))⟩
theorem Mod.trans {w2 : World} (h : Mod F w w') (k : Mod G w' w2) (hG : ∀ g ∈ G, g ∈ F ∨ w.heap.size ≤ g) : Mod F w w2 :=
  ⟨⟨k.1.1.trans h.1.1, k.1.2.1.trans h.1.2.1, k.1.2.2.trans h.1.2.2⟩, Nat.le_trans h.2.1 k.2.1, fun g hg hn => (k.2.2 g (Nat.lt_of_lt_of_le hg h.2.1) (fun hm => by rcases hG g hm with h1 | h1; exact hn h1; omega)).trans (h.2.2 g hg hn)⟩
theorem Mod.refl : Mod F w w := ⟨⟨rfl, rfl, rfl⟩, Nat.le_refl _, fun _ _ _ => rfl⟩
theorem own_mod {d : D} {t : TypeId} {cs : List Value} (h : own P w d t G cs) (hm : Mod F w w') (hd : ∀ g ∈ G, g ∉ F) : own P w' d t G cs :=
  own_same d t G cs (fun g hg => hm.2.2 g (own_lt d t G cs h g hg) (hd g hg)) h
theorem ownA_mod {l : List D} {e : TypeId} {css : List (List Value)} (h : ownA P w l e G css) (hm : Mod F w w') (hd : ∀ g ∈ G, g ∉ F) : ownA P w' l e G css :=
  ownA_same l e G css (fun g hg => hm.2.2 g (ownA_lt l e G css h g hg) (hd g hg)) h
theorem Blk.mod {g : Nat} {t : TypeId} {cs : List Value} (h : Blk w g t cs) (hm : Mod F w w') (hd : g ∉ F) : Blk w' g t cs := (hm.2.2 g h.lt hd).trans h
theorem bel_mod {a : World} (h : Below B a w) (hm : Mod F w w') (hF : ∀ g ∈ F, B ≤ g) (hB : B ≤ w.heap.size) : Below B a w' := h.trans (hm.below hF hB)
mutual
theorem rep_one : ∀ (d : D) (cs : List Value), rep w B d cs → ∀ u ∈ cs, u.oneCell' = true
  | .i _ _, cs, h => by rw [rep] at h; rw [h.1]; simp [Value.oneCell']
  | .b _, cs, h => by rw [rep] at h; rw [h]; simp [Value.oneCell']
  | .s _, cs, h => by rw [rep] at h; rw [h.1]; simp [Value.oneCell']
  | .st fs, cs, h => by
    rw [rep] at h
    obtain ⟨css, rfl, h2⟩ := h
    intro u hu
    obtain ⟨c1, hc, hu⟩ := List.mem_flatten.1 hu
    exact repL_one fs css h2 c1 hc u hu
  | .sl xs, cs, h => by
    rw [rep] at h
    obtain ⟨A, n, c, s, rows, rfl, _⟩ := h
    simp [Value.oneCell']
theorem repL_one : ∀ (l : List D) (css : List (List Value)), repL w B l css → ∀ c ∈ css, ∀ u ∈ c, u.oneCell' = true
  | [], css, h => by rw [repL] at h; rw [h]; simp
  | x :: t, css, h => by
    rw [repL] at h
    obtain ⟨c1, c2, rfl, h1, h2⟩ := h
    intro c hc
    rcases List.mem_cons.1 hc with rfl | hc
    · exact rep_one x _ h1
    · exact repL_one t c2 h2 c hc
end
theorem own_one {d : D} {t : TypeId} {cs : List Value} (h : own P w d t F cs) : ∀ u ∈ cs, u.oneCell' = true := rep_one d cs (own_rep d t F cs h)
end
/-- The blocks of a slice behind an append. -/
def AppF (H : Nat) (F F' F'' : List Nat) : Prop := F''.Nodup ∧ ∀ x ∈ F'', x ∈ F ∨ x ∈ F' ∨ x = H
theorem appD_core {P : Program} {w w' : World} {t e : TypeId} {xs : List D} {A : Option Addr} {n c s g c' : Nat} {F F2 F' : List Nat} {d : D} {cs : List Value} {rows : List (Row s)} (h1 : P.underlying t = some (.slice e)) (h2 : P.cellsOf e = s)
    (hO : Own Row.v s e w 0 A n c rows) (hF : F = ablk A ++ F2) (hA : ownA P w xs e F2 (rows.map Row.v)) (hd : own P w d e F' cs) (hl : cs.length = s) (hnd : (F ++ F').Nodup)
    (k1 : w'.ownsRow 0 e s (.slice (some ⟨g, 0, none⟩) (n + 1) c') (n + 1) (rows.flatMap Row.v ++ cs)) (k2 : w.grownBy w' (Value.slice A n c).ownBlock) (k3 : (Value.slice A n c).ownBlock = some g ∨ g = w.heap.size) :
    ∃ F'', own P w' (.sl (xs ++ [d])) t F'' [.slice (some ⟨g, 0, none⟩) (n + 1) c'] ∧ AppF w.heap.size F F' F'' ∧ Mod F w w' := by
  subst hF
  have hob : ∀ x, (Value.slice A n c).ownBlock = some x → x ∈ ablk A := by
    intro x hx
    cases A with
    | none => simp [Value.ownBlock] at hx
    | some a => simp [Value.ownBlock] at hx; simp [ablk, hx]
  have hown : Own Row.v s e w' 0 (some ⟨g, 0, none⟩) (n + 1) c' (rows ++ [⟨cs, hl⟩]) := ⟨by simp [hO.1], by simpa [List.flatMap_append] using k1⟩
  have hnd2 := hnd
  rw [List.append_assoc] at hnd2
  obtain ⟨n1, n2, n3⟩ := List.nodup_append.1 hnd2
  have hm : Mod (ablk A) w w' := ⟨⟨k2.os, k2.tape, k2.output⟩, k2.size, fun i hi hn => k2.block i hi (fun e => hn (hob i e.symm))⟩
  have hlt : ∀ x ∈ F2 ++ F', x < w.heap.size := fun x hx => by
    rcases List.mem_append.1 hx with hx | hx
    · exact ownA_lt _ _ _ _ hA x hx
    · exact own_lt _ _ _ _ hd x hx
  have hgn : g ∉ F2 ++ F' := fun hx => by
    rcases k3 with k3 | k3
    · exact n3 g (hob g k3) g hx rfl
    · have := hlt g hx; omega
  refine ⟨g :: (F2 ++ F'), ?_, ⟨List.nodup_cons.2 ⟨hgn, n2⟩, fun x hx => ?_⟩, hm.mono fun g hg => List.mem_append_left _ hg⟩
  · rw [own]
    refine ⟨e, _, _, _, s, rows ++ [⟨cs, hl⟩], F2 ++ F', h1, h2, rfl, ?_, hown, rfl, ?_⟩
    · exact hown.fil.2
    · rw [List.map_append]
      exact ownA_snoc (ownA_mod hA hm fun x hx hn => n3 x hn x (List.mem_append_left _ hx) rfl) (own_mod hd hm fun x hx hn => n3 x hn x (List.mem_append_right _ hx) rfl)
  · rcases List.mem_cons.1 hx with rfl | hx
    · rcases k3 with k3 | k3
      · exact .inl (List.mem_append_left _ (hob _ k3))
      · exact .inr (.inr k3)
    · rcases List.mem_append.1 hx with hx | hx
      · exact .inl (List.mem_append_right _ hx)
      · exact .inr (.inl hx)
section
variable {P : Program} {size bytes : Nat} {t e : TypeId} {ops : Array Oper} {o : Oper} {a : Act} {Q : Exit → Act → World → Prop} {w : World} {xs : List D} {A : Option Addr} {n c : Nat} {F F' : List Nat} {d : D} {cs : List Value} {b m : Nat} {te : TypeId}
/-- append of one datum onto an owned slice, in a region that draws its order. -/
theorem step_appD {K : Act → World → Prop} {E : Prop} (hT : ElemTy P t e size bytes) (hsz : P.cellsOf e = size) (hgd : o.guard = none) (sl x : Operand)
    (ho : o.op = .call { callee := .builtin .append, args := #[sl, x], argTypes := #[t, t] }) (hs : a.eval sl = .slice A n c) (hown : own P w (.sl xs) t F [.slice A n c])
    (hx : a.eval x = .slice (some ⟨b, 0, none⟩) 1 m) (hb : Blk w b te cs) (hd : own P w d e F' cs) (hl : cs.length = size) (hnd : (F ++ F').Nodup) (hn : n + 1 ≤ maxLen) (h63 : (n + 1) * bytes ≤ 140737488355328)
    (h : ∀ g c' w' F'', own P w' (.sl (xs ++ [d])) t F'' [.slice (some ⟨g, 0, none⟩) (n + 1) c'] → AppF w.heap.size F F' F'' → Mod F w w' → K (a.put o.dst (.slice (some ⟨g, 0, none⟩) (n + 1) c')) w') :
    if Region.wanted o (yielded ops a.tmps) = true then Oper.wp P o a w K Q else E := by
  obtain ⟨i, z, ht, hi, hz, i1, i2, i3, i4⟩ := hT.ok
  have hown' := hown
  rw [own] at hown'
  obtain ⟨e', A', n', c', s, rows, F2, h1, h2, he, hm, hO, hF, hA⟩ := hown'
  injection he with he; injection he with e1 e2 e3; subst e1 e2 e3
  rw [ht] at h1; injection h1 with h1; injection h1 with h1; subst h1
  rw [hsz] at h2; subst h2
  refine step_append_lies w hgd sl x t ho 0 e i z size bytes ht hi hz i1 i2 i3 i4 _ n _ hs hO.2 ⟨b, 0, none⟩ 1 m cs hx (by rw [hl, Nat.one_mul]) (World.news_of_block (cs := cs.toArray) hb) (own_one hd) (by omega) hn h63 (Nat.zero_le _) _ rfl ?_
  intro g cap w' k1 k2 k3 k4
  obtain ⟨F'', p1, p2, p3⟩ := appD_core ht hsz hO hF hA hd hl hnd k1 k2 k3
  exact h g cap w' F'' p1 p2 p3
/-- append of one datum onto an owned slice. -/
theorem wpList_appD {rest : List Oper} (hT : ElemTy P t e size bytes) (hsz : P.cellsOf e = size) (hgd : o.guard = none) (sl x : Operand)
    (ho : o.op = .call { callee := .builtin .append, args := #[sl, x], argTypes := #[t, t] }) (hs : a.eval sl = .slice A n c) (hown : own P w (.sl xs) t F [.slice A n c])
    (hx : a.eval x = .slice (some ⟨b, 0, none⟩) 1 m) (hb : Blk w b te cs) (hd : own P w d e F' cs) (hl : cs.length = size) (hnd : (F ++ F').Nodup) (hn : n + 1 ≤ maxLen) (h63 : (n + 1) * bytes ≤ 140737488355328)
    (h : ∀ g c' w' F'', own P w' (.sl (xs ++ [d])) t F'' [.slice (some ⟨g, 0, none⟩) (n + 1) c'] → AppF w.heap.size F F' F'' → Mod F w w' → wpList P ops Q rest (a.put o.dst (.slice (some ⟨g, 0, none⟩) (n + 1) c')) w') :
    wpList P ops Q (o :: rest) a w := by
  obtain ⟨i, z, ht, hi, hz, i1, i2, i3, i4⟩ := hT.ok
  have hown' := hown
  rw [own] at hown'
  obtain ⟨e', A', n', c', s, rows, F2, h1, h2, he, hm, hO, hF, hA⟩ := hown'
  injection he with he; injection he with e1 e2 e3; subst e1 e2 e3
  rw [ht] at h1; injection h1 with h1; injection h1 with h1; subst h1
  rw [hsz] at h2; subst h2
  refine wpList_append_lies w hgd sl x t ho 0 e i z size bytes ht hi hz i1 i2 i3 i4 _ n _ hs hO.2 ⟨b, 0, none⟩ 1 m cs hx (by rw [hl, Nat.one_mul]) (World.news_of_block (cs := cs.toArray) hb) (own_one hd) (by omega) hn h63 (Nat.zero_le _) _ rfl ?_
  intro g cap w' k1 k2 k3 k4
  obtain ⟨F'', p1, p2, p3⟩ := appD_core ht hsz hO hF hA hd hl hnd k1 k2 k3
  exact h g cap w' F'' p1 p2 p3
end
/-! Lists of blocks. -/
theorem Fresh.repl {B C : Nat} {Y Y' Z F' : List Nat} (h : Fresh B (Y ++ Z)) (hl : Lo C (Y ++ Z)) (hB : B ≤ C) (hF : ∀ x ∈ F', C ≤ x) {H : Nat} (hH : C ≤ H) (ha : AppF H Y F' Y') : Fresh B (Y' ++ Z) := by
  obtain ⟨n1, n2, n3⟩ := List.nodup_append.1 h.1
  have key : ∀ x ∈ Y', x ∈ Y ∨ C ≤ x := fun x hx => by
    rcases ha.2 x hx with h1 | h1 | h1
    · exact .inl h1
    · exact .inr (hF x h1)
    · exact .inr (by omega)
  refine ⟨List.nodup_append.2 ⟨ha.1, n2, fun x hx y hy hxy => ?_⟩, fun x hx => ?_⟩
  · subst hxy
    rcases key x hx with h1 | h1
    · exact n3 x h1 x hy rfl
    · have := hl x (List.mem_append_right _ hy); omega
  · rcases List.mem_append.1 hx with hx | hx
    · rcases key x hx with h1 | h1
      · exact h.2 x (List.mem_append_left _ h1)
      · omega
    · exact h.2 x (List.mem_append_right _ hx)
theorem AppF.notin {H C g : Nat} {F F' F'' : List Nat} (ha : AppF H F F' F'') (h1 : g ∉ F) (h2 : ∀ x ∈ F', C ≤ x) (h3 : g < C) (h4 : g < H) : g ∉ F'' := fun hm => by
  rcases ha.2 g hm with h | h | h
  · exact h1 h
  · have := h2 g h; omega
  · omega
theorem Fresh.sub {B : Nat} {F G : List Nat} (h : Fresh B F) (hs : G.Sublist F) : Fresh B G := ⟨h.1.sublist hs, fun x hx => h.2 x (hs.subset hx)⟩
theorem Fresh.perm {B : Nat} {F G : List Nat} (h : Fresh B F) (hp : F.Perm G) : Fresh B G := ⟨hp.nodup h.1, fun x hx => h.2 x (hp.mem_iff.2 hx)⟩
theorem Fresh.tail {B g : Nat} {F : List Nat} (h : Fresh B (g :: F)) : Fresh B F := ⟨(List.nodup_cons.1 h.1).2, fun x hx => h.2 x (List.mem_cons_of_mem _ hx)⟩
theorem Fresh.right {B : Nat} {F G : List Nat} (h : Fresh B (F ++ G)) : Fresh B G := ⟨(List.nodup_append.1 h.1).2.1, fun x hx => h.2 x (List.mem_append_right _ hx)⟩
theorem Fresh.left {B : Nat} {F G : List Nat} (h : Fresh B (F ++ G)) : Fresh B F := ⟨(List.nodup_append.1 h.1).1, fun x hx => h.2 x (List.mem_append_left _ hx)⟩
theorem Fresh.dis {B : Nat} {F G : List Nat} (h : Fresh B (F ++ G)) : ∀ g ∈ G, g ∉ F := fun g hg hf => (List.nodup_append.1 h.1).2.2 g hf g hg rfl
end Go.Proofs.Ytekcpadlmfaihaa
namespace Go.Proofs.Ytekcpadlmfaihaa
open Go.RowKit
/-- What the first statement leaves: a new box with the copies. -/
def cvR (v : Vec) (w W0 : World) (s3 : Value) (wx : World) : Prop := ∃ (g : Nat) (A1 : Option Addr) (n1 c1 : Nat) (A2 : Option Addr) (n2 c2 : Nat) (A3 : Option Addr) (n3 c3 : Nat) (A4 : Option Addr) (n4 c4 : Nat) (F1 F2 F3 F4 : List Nat), s3 = .pointer (some ⟨g, 0, none⟩) ∧ Blk wx g 34 [.int .i64 v.kind, .slice A1 n1 c1, .slice none 0 0, .slice A2 n2 c2, .slice A3 n3 c3, .slice A4 n4 c4, .int .i64 v.code, .int .i64 v.env] ∧
  own Try.prog wx (.sl (v.items.map Item.toD)) 31 F1 [.slice A1 n1 c1] ∧ own Try.prog wx (.sl (v.names.map .s)) 24 F2 [.slice A2 n2 c2] ∧ own Try.prog wx (.sl (v.cls.map .s)) 24 F3 [.slice A3 n3 c3] ∧ own Try.prog wx (.sl (v.levels.map .s)) 24 F4 [.slice A4 n4 c4] ∧ Fresh W0.heap.size (g :: (F1 ++ (F2 ++ (F3 ++ F4)))) ∧ Below W0.heap.size W0 wx
theorem tyVector : ElemTy Try.prog 32 34 8 144 := by
  obtain ⟨i0, hi, hz0, hz1, hz2⟩ := info_parts VectorInfo
  exact ⟨i0, _, Try.underlying32, hi, hz0, hz1, hz2, rfl, by omega⟩
/-- The loop over the parts. -/
def cvL (v : Vec) (W0 : World) (np g : Nat) (A1 : Option Addr) (n1 c1 : Nat) (A2 : Option Addr) (n2 c2 : Nat) (A3 : Option Addr) (n3 c3 : Nat) (A4 : Option Addr) (n4 c4 : Nat) (F1 F2 F3 F4 : List Nat) (i : Value) (wr : World) : Prop :=
  ∃ (k : Nat) (Ao : Option Addr) (co : Nat) (FP : List Nat), k ≤ np ∧ i = .int .i64 k ∧ Blk wr g 34 [.int .i64 v.kind, .slice A1 n1 c1, .slice Ao k co, .slice A2 n2 c2, .slice A3 n3 c3, .slice A4 n4 c4, .int .i64 v.code, .int .i64 v.env] ∧
  own Try.prog wr (.sl ((v.parts.take k).map Vec.toD)) 32 FP [.slice Ao k co] ∧
  own Try.prog wr (.sl (v.items.map Item.toD)) 31 F1 [.slice A1 n1 c1] ∧ own Try.prog wr (.sl (v.names.map .s)) 24 F2 [.slice A2 n2 c2] ∧ own Try.prog wr (.sl (v.cls.map .s)) 24 F3 [.slice A3 n3 c3] ∧ own Try.prog wr (.sl (v.levels.map .s)) 24 F4 [.slice A4 n4 c4] ∧ Fresh W0.heap.size (FP ++ (g :: (F1 ++ (F2 ++ (F3 ++ F4))))) ∧ Below W0.heap.size W0 wr
theorem own_nil {P : Program} {w : World} {t e : TypeId} (h : P.underlying t = some (.slice e)) : own P w (.sl []) t [] [.slice none 0 0] := by
  rw [own]
  exact ⟨e, none, 0, 0, P.cellsOf e, [], [], h, rfl, rfl, by unfold maxLen; omega, Own.nil_, rfl, by rw [List.map_nil, ownA]; exact ⟨rfl, rfl⟩⟩
theorem own_len {P : Program} {w : World} {xs : List D} {t : TypeId} {F : List Nat} {A : Option Addr} {n c : Nat} (h : own P w (.sl xs) t F [.slice A n c]) : xs.length = n := (rep_sl_len (own_rep _ _ _ _ h)).1
def cpP (v : Vec) : Prop := ∀ (cs : List Value) (w : World), rep w w.heap.size v.toD cs → szD v.toD ≤ 500000000000 → Calls Try.prog 85 #[.agg cs.toArray] w (NewSt v.toD 34 w)
set_option maxRecDepth 100000 in
set_option maxHeartbeats 8000000 in
theorem copyVector_of (v : Vec) (ih : ∀ y ∈ v.parts, cpP y) : cpP v := by
  intro cs w h hz
  obtain ⟨Ai, ni, ci, Ap, np, cp, An, nn, cn, Ac, nc, cc, Al, nl, cl, rfl, wk, ri, rp, rn, rc, rl, wc, we⟩ := Vector_open h
  have hvs := Vector_sz v
  simp only [szD, List.length_map] at hvs
  have q0 := ((Below.refl w.heap.size w).alloc (Nat.le_refl _) (.cells #[.int .i64 v.kind, .slice Ai ni ci, .slice Ap np cp, .slice An nn cn, .slice Ac nc cc, .slice Al nl cl, .int .i64 v.code, .int .i64 v.env] 34)).alloc (by simp only [wsize_alloc]; omega) (.cells #[.int .i64 0, .slice none 0 0, .slice none 0 0, .slice none 0 0, .slice none 0 0, .slice none 0 0, .int .i64 0, .int .i64 0] 34)
  have kA := Blk.new_ w 34 #[.int .i64 v.kind, .slice Ai ni ci, .slice Ap np cp, .slice An nn cn, .slice Ac nc cc, .slice Al nl cl, .int .i64 v.code, .int .i64 v.env]
  have kA := kA.next ((Below.refl _ _).alloc (Nat.le_refl _) (.cells #[.int .i64 0, .slice none 0 0, .slice none 0 0, .slice none 0 0, .slice none 0 0, .slice none 0 0, .int .i64 0, .int .i64 0] 34))
  have kR := Blk.new_ (w.alloc (.cells #[.int .i64 v.kind, .slice Ai ni ci, .slice Ap np cp, .slice An nn cn, .slice Ac nc cc, .slice Al nl cl, .int .i64 v.code, .int .i64 v.env] 34)) 34 #[.int .i64 0, .slice none 0 0, .slice none 0 0, .slice none 0 0, .slice none 0 0, .slice none 0 0, .int .i64 0, .int .i64 0]
  have s0 : ((w.alloc (.cells #[.int .i64 v.kind, .slice Ai ni ci, .slice Ap np cp, .slice An nn cn, .slice Ac nc cc, .slice Al nl cl, .int .i64 v.code, .int .i64 v.env] 34)).alloc (.cells #[.int .i64 0, .slice none 0 0, .slice none 0 0, .slice none 0 0, .slice none 0 0, .slice none 0 0, .int .i64 0, .int .i64 0] 34)).heap.size = w.heap.size + 1 + 1 := by simp only [wsize_alloc]
  simp only [wsize_alloc] at kR
  go_enter Try.func85, Try.ntmps85
  go_upto_region 1 with fail
  generalize (w.alloc (.cells #[.int .i64 v.kind, .slice Ai ni ci, .slice Ap np cp, .slice An nn cn, .slice Ac nc cc, .slice Al nl cl, .int .i64 v.code, .int .i64 v.env] 34)).alloc (.cells #[.int .i64 0, .slice none 0 0, .slice none 0 0, .slice none 0 0, .slice none 0 0, .slice none 0 0, .int .i64 0, .int .i64 0] 34) = W0 at q0 kA kR s0 ⊢
  have kA : Blk W0 w.heap.size 34 [.int .i64 v.kind, .slice Ai ni ci, .slice Ap np cp, .slice An nn cn, .slice Ac nc cc, .slice Al nl cl, .int .i64 v.code, .int .i64 v.env] := kA
  have hW0 : w.heap.size + 1 < W0.heap.size := by omega
  have S0 := Lib.hid s0
  clear s0
  have f1 := rep_in ri q0 q0.size
  have f2 := rep_in rn q0 q0.size
  have f3 := rep_in rc q0 q0.size
  have f4 := rep_in rl q0 q0.size
  go_cut [3] (fun s3 wx => cvR v w W0 s3 wx)
  case first =>
    go_region_held3 (fun W => W.cell? ⟨w.heap.size, 0, none⟩ = some (.int .i64 v.kind) ∧ W.cell? ⟨w.heap.size, 1, none⟩ = some (.slice Ai ni ci) ∧ W.cell? ⟨w.heap.size, 2, none⟩ = some (.slice Ap np cp) ∧ W.cell? ⟨w.heap.size, 3, none⟩ = some (.slice An nn cn) ∧ W.cell? ⟨w.heap.size, 4, none⟩ = some (.slice Ac nc cc) ∧ W.cell? ⟨w.heap.size, 5, none⟩ = some (.slice Al nl cl) ∧ W.cell? ⟨w.heap.size, 6, none⟩ = some (.int .i64 v.code) ∧ W.cell? ⟨w.heap.size, 7, none⟩ = some (.int .i64 v.env))
      (first | (refine Blk.c8 (t := 34) ?_; (repeat' (first | with_reducible assumption | with_reducible exact Blk.new' | with_reducible exact Blk.newd | with_reducible apply Blk.set8 | (with_reducible refine Blk.pk ?_ ?_; ((try simp only [wsize_drew, wsize_alloc, wsize_set]); omega)) | with_reducible refine Blk.dw ?_ | with_reducible refine Blk.al ?_ | with_reducible refine Blk.next ?_ (by with_reducible assumption))); done) | go_keep)
      (first | (go_at_call 103; refine (copyItems_any v.items _ _ _ _ (by (repeat' (first | with_reducible assumption | with_reducible refine rep_dw ?_ | with_reducible refine rep_al ?_ | with_reducible refine rep_next ?_ (by with_reducible assumption)))) (by omega)).mono ?_; rintro e w1 ⟨A1, n1, c1, G1, rfl, o1, fr1, b1⟩; obtain ⟨hc1, hf1⟩ := bcell b1; have z1 := b1.size; have l1 := own_lo o1; (try simp only [wsize_drew, wsize_alloc, wsize_set] at hc1 hf1 z1 fr1); (try (have y01 : W0.heap.size < w1.heap.size := by omega))) | (go_at_call_of 104 (Value.slice An nn cn); refine (copyTexts_any v.names _ _ _ _ (by (repeat' (first | with_reducible assumption | with_reducible refine rep_dw ?_ | with_reducible refine rep_al ?_ | with_reducible refine rep_next ?_ (by with_reducible assumption)))) (by omega)).mono ?_; rintro e w2 ⟨A2, n2, c2, G2, rfl, o2, fr2, b2⟩; obtain ⟨hc2, hf2⟩ := bcell b2; have z2 := b2.size; have l2 := own_lo o2; (try simp only [wsize_drew, wsize_alloc, wsize_set] at hc2 hf2 z2 fr2); (try (have y12 : w1.heap.size < w2.heap.size := by omega)); (try (have y02 : W0.heap.size < w2.heap.size := by omega))) | (go_at_call_of 104 (Value.slice Ac nc cc); refine (copyTexts_any v.cls _ _ _ _ (by (repeat' (first | with_reducible assumption | with_reducible refine rep_dw ?_ | with_reducible refine rep_al ?_ | with_reducible refine rep_next ?_ (by with_reducible assumption)))) (by omega)).mono ?_; rintro e w3 ⟨A3, n3, c3, G3, rfl, o3, fr3, b3⟩; obtain ⟨hc3, hf3⟩ := bcell b3; have z3 := b3.size; have l3 := own_lo o3; (try simp only [wsize_drew, wsize_alloc, wsize_set] at hc3 hf3 z3 fr3); (try (have y23 : w2.heap.size < w3.heap.size := by omega)); (try (have y13 : w1.heap.size < w3.heap.size := by omega)); (try (have y03 : W0.heap.size < w3.heap.size := by omega))) | (go_at_call_of 104 (Value.slice Al nl cl); refine (copyTexts_any v.levels _ _ _ _ (by (repeat' (first | with_reducible assumption | with_reducible refine rep_dw ?_ | with_reducible refine rep_al ?_ | with_reducible refine rep_next ?_ (by with_reducible assumption)))) (by omega)).mono ?_; rintro e w4 ⟨A4, n4, c4, G4, rfl, o4, fr4, b4⟩; obtain ⟨hc4, hf4⟩ := bcell b4; have z4 := b4.size; have l4 := own_lo o4; (try simp only [wsize_drew, wsize_alloc, wsize_set] at hc4 hf4 z4 fr4); (try (have y34 : w3.heap.size < w4.heap.size := by omega)); (try (have y24 : w2.heap.size < w4.heap.size := by omega)); (try (have y14 : w1.heap.size < w4.heap.size := by omega)); (try (have y04 : W0.heap.size < w4.heap.size := by omega))))
    all_goals (go_wp2_with fail; go_meet; first | refine ⟨w4.heap.size, A1, n1, c1, A2, n2, c2, A3, n3, c3, A4, n4, c4, G1, G2, G3, G4, rfl, ?_, ?_, ?_, ?_, ?_, ?_, ?_⟩ | refine ⟨w3.heap.size, A1, n1, c1, A2, n2, c2, A3, n3, c3, A4, n4, c4, G1, G2, G3, G4, rfl, ?_, ?_, ?_, ?_, ?_, ?_, ?_⟩ | refine ⟨w2.heap.size, A1, n1, c1, A2, n2, c2, A3, n3, c3, A4, n4, c4, G1, G2, G3, G4, rfl, ?_, ?_, ?_, ?_, ?_, ?_, ?_⟩ | refine ⟨w1.heap.size, A1, n1, c1, A2, n2, c2, A3, n3, c3, A4, n4, c4, G1, G2, G3, G4, rfl, ?_, ?_, ?_, ?_, ?_, ?_, ?_⟩ | refine ⟨W0.heap.size, A1, n1, c1, A2, n2, c2, A3, n3, c3, A4, n4, c4, G1, G2, G3, G4, rfl, ?_, ?_, ?_, ?_, ?_, ?_, ?_⟩)
    all_goals (first | ((repeat' (first | with_reducible exact Fresh.nil | with_reducible refine Fresh.cons ?_ ?_ ?_ | with_reducible refine Fresh.app2 (by with_reducible assumption) ?_ ?_ ?_ | with_reducible refine Fresh.mono (by with_reducible assumption) ?_ | with_reducible exact notin_nil | with_reducible refine notin_app ?_ ?_ | (with_reducible refine Fresh.notin (by with_reducible assumption) ?_; ((try simp only [wsize_drew, wsize_alloc, wsize_set]); omega)) | (with_reducible refine Lo.notin (by with_reducible assumption) ?_; ((try simp only [wsize_drew, wsize_alloc, wsize_set]); omega)) | ((try simp only [wsize_drew, wsize_alloc, wsize_set]); omega))); done) | ((repeat' (first | with_reducible assumption | with_reducible exact Blk.new' | with_reducible exact Blk.newd | with_reducible apply Blk.set8 | (with_reducible refine Blk.pk ?_ ?_; ((try simp only [wsize_drew, wsize_alloc, wsize_set]); omega)) | with_reducible refine Blk.dw ?_ | with_reducible refine Blk.al ?_ | with_reducible refine Blk.next ?_ (by with_reducible assumption))); done) | ((repeat' (first | with_reducible assumption | with_reducible refine own_dw ?_ | with_reducible refine own_al ?_ | with_reducible refine own_pk ?_ ?_ | with_reducible exact notin_nil | with_reducible refine notin_app ?_ ?_ | (with_reducible refine Fresh.notin (by with_reducible assumption) ?_; ((try simp only [wsize_drew, wsize_alloc, wsize_set]); omega)) | (with_reducible refine Lo.notin (by with_reducible assumption) ?_; ((try simp only [wsize_drew, wsize_alloc, wsize_set]); omega)) | with_reducible refine own_below ?_ (by with_reducible assumption))); done) | ((repeat' (first | with_reducible assumption | with_reducible exact Below.refl _ _ | with_reducible refine bel_dw ?_ | with_reducible refine bel_al ?_ ?_ | with_reducible refine bel_set ?_ ?_ | with_reducible refine bel_call ?_ (by with_reducible assumption) ?_ | ((try simp only [wsize_drew, wsize_alloc, wsize_set]); omega))); done))
  case rest =>
    obtain ⟨g, A1, n1, c1, A2, n2, c2, A3, n3, c3, A4, n4, c4, F1, F2, F3, F4, rfl, kg, o1, o2, o3, o4, fr, bb⟩ := hcut
    obtain ⟨W, hW⟩ : ∃ W : World, W = wc := ⟨_, rfl⟩
    subst hW
    have kA1 := (kA.below bb (by omega)).cell 2
    simp only [List.getElem?_cons_zero, List.getElem?_cons_succ] at kA1
    obtain ⟨hpl, hpc, hpm⟩ := rep_sl_len rp
    rw [List.length_map] at hpl
    have hpb : np ≤ 500000000000 := by rw [← hpl]; omega
    have HPL := Lib.hid hpl
    have HIH := Lib.hid ih
    have hgB := fr.2 g List.mem_cons_self
    clear f1 f2 f3 f4 ih hpl hvs
    go_wp2_with fail
    clear kA1
    go_loopw [28] (fun i wr => cvL v W0 np g A1 n1 c1 A2 n2 c2 A3 n3 c3 A4 n4 c4 F1 F2 F3 F4 i wr) (fun i _ => np - (intOf i).toNat)
    case atStart => exact ⟨0, none, 0, [], by omega, rfl, kg, by rw [List.take_zero]; exact own_nil Try.underlying32, o1, o2, o3, o4, fr, bb⟩
    case round =>
      clear kg o1 o2 o3 o4 fr bb
      obtain ⟨k, Ao, co, FP, hk, rfl, kg, oP, o1, o2, o3, o4, fr, bb⟩ := hrel
      have hb := bth q0 bb
      have z0 := bb.size
      have hgl := kg.lt
      by_cases hlt : k < np
      · obtain ⟨b, off, x, Bi, mi, di, Bp, mp, dp, Bn, mn, dn, Bc, mc, dc, Bl, ml, dl, rfl, hbl, hx, hrx, hx0, hx1, hx2, hx3, hx4, hx5, hx6, hx7⟩ := Vector_at (rep_below rp hb) hlt
        have HX := Lib.hid (take_snoc' hx)
        have HM := Lib.hid (List.mem_of_getElem? hx)
        have hsx : szD x.toD ≤ 500000000000 := by
          have := szDs_mem (List.mem_map_of_mem (f := Vec.toD) HM.out)
          have := Vector_sz v
          simp only [szD] at this
          omega
        clear hx
        have kx : Blk (wr.alloc (.cells #[.int .i64 x.kind, .slice Bi mi di, .slice Bp mp dp, .slice Bn mn dn, .slice Bc mc dc, .slice Bl ml dl, .int .i64 x.code, .int .i64 x.env] 34)) wr.heap.size 34 [.int .i64 x.kind, .slice Bi mi di, .slice Bp mp dp, .slice Bn mn dn, .slice Bc mc dc, .slice Bl ml dl, .int .i64 x.code, .int .i64 x.env] := Blk.new'
        have rx := rep_al (o := .cells #[.int .i64 x.kind, .slice Bi mi di, .slice Bp mp dp, .slice Bn mn dn, .slice Bc mc dc, .slice Bl ml dl, .int .i64 x.code, .int .i64 x.env] 34) (rep_more hrx hb.size)
        have kg1 := kg.al (o := .cells #[.int .i64 x.kind, .slice Bi mi di, .slice Bp mp dp, .slice Bn mn dn, .slice Bc mc dc, .slice Bl ml dl, .int .i64 x.code, .int .i64 x.env] 34)
        have zz : wr.heap.size < (wr.alloc (.cells #[.int .i64 x.kind, .slice Bi mi di, .slice Bp mp dp, .slice Bn mn dn, .slice Bc mc dc, .slice Bl ml dl, .int .i64 x.code, .int .i64 x.env] 34)).heap.size := by simp only [wsize_alloc]; omega
        have bb1 := bel_al (o := .cells #[.int .i64 x.kind, .slice Bi mi di, .slice Bp mp dp, .slice Bn mn dn, .slice Bc mc dc, .slice Bl ml dl, .int .i64 x.code, .int .i64 x.env] 34) bb z0
        have oP1 := own_al (o := .cells #[.int .i64 x.kind, .slice Bi mi di, .slice Bp mp dp, .slice Bn mn dn, .slice Bc mc dc, .slice Bl ml dl, .int .i64 x.code, .int .i64 x.env] 34) oP
        have o11 := own_al (o := .cells #[.int .i64 x.kind, .slice Bi mi di, .slice Bp mp dp, .slice Bn mn dn, .slice Bc mc dc, .slice Bl ml dl, .int .i64 x.code, .int .i64 x.env] 34) o1
        have o21 := own_al (o := .cells #[.int .i64 x.kind, .slice Bi mi di, .slice Bp mp dp, .slice Bn mn dn, .slice Bc mc dc, .slice Bl ml dl, .int .i64 x.code, .int .i64 x.env] 34) o2
        have o31 := own_al (o := .cells #[.int .i64 x.kind, .slice Bi mi di, .slice Bp mp dp, .slice Bn mn dn, .slice Bc mc dc, .slice Bl ml dl, .int .i64 x.code, .int .i64 x.env] 34) o3
        have o41 := own_al (o := .cells #[.int .i64 x.kind, .slice Bi mi di, .slice Bp mp dp, .slice Bn mn dn, .slice Bc mc dc, .slice Bl ml dl, .int .i64 x.code, .int .i64 x.env] 34) o4
        go_upto_region 5 with fail
        generalize wr.alloc (.cells #[.int .i64 x.kind, .slice Bi mi di, .slice Bp mp dp, .slice Bn mn dn, .slice Bc mc dc, .slice Bl ml dl, .int .i64 x.code, .int .i64 x.env] 34) = W1 at kx rx kg1 zz bb1 oP1 o11 o21 o31 o41 ⊢
        clear hx0 hx1 hx2 hx3 hx4 hx5 hx6 hx7 hrx kg oP o1 o2 o3 o4 bb hb
        obtain ⟨e0, e1, e2, e3, e4, e5, e6, e7⟩ := kx.c8
        have eg := kg1.cell 2
        simp only [List.getElem?_cons_zero, List.getElem?_cons_succ] at eg
        have zf := kg1.frozen 2
        have lP := own_lo oP1
        have zg : g < W1.heap.size := by omega
        have LL := Lib.hid (lP.app (Lo.cons zg ((own_lo o11).app ((own_lo o21).app ((own_lo o31).app (own_lo o41))))))
        have frP := fr.left
        have dg := fr.dis g List.mem_cons_self
        have ng1 := (List.nodup_cons.1 fr.right.1).1
        simp only [List.mem_append, not_or] at ng1
        obtain ⟨N1, N2, N3, N4⟩ := ng1
        have D1 := Lib.hid (fun y (hy : y ∈ F1) => fr.dis y (by simp [hy]))
        have D2 := Lib.hid (fun y (hy : y ∈ F2) => fr.dis y (by simp [hy]))
        have D3 := Lib.hid (fun y (hy : y ∈ F3) => fr.dis y (by simp [hy]))
        have D4 := Lib.hid (fun y (hy : y ∈ F4) => fr.dis y (by simp [hy]))
        go_region_law (first
          | (go_simp; go_at_call 85; refine (HIH.out x HM.out _ _ (by (repeat' (first | with_reducible assumption | with_reducible refine rep_dw ?_ | with_reducible refine rep_al ?_ | with_reducible refine rep_next ?_ (by with_reducible assumption)))) hsx).mono ?_; rintro e w1 ⟨cs1, G1, rfl, ho1, hG1, hb1⟩; obtain ⟨Ci, ki, ei, Cp, kp, ep, Cn, kn, en, Cc, kc, ec, Cl, kl, el, rfl, _⟩ := Vector_open (own_rep _ _ _ _ ho1); obtain ⟨hc1, hf1⟩ := bcell hb1; have z1 := hb1.size; (try simp only [wsize_drew, wsize_alloc, wsize_set] at hc1 hf1 z1 hG1); have yg : g < w1.heap.size := by omega)
          | (refine step_appD (A := Ao) (n := k) (c := co) (b := w1.heap.size) (m := 1) (xs := (v.parts.take k).map Vec.toD) (F := FP) (d := x.toD) (F' := G1) (te := 34) (cs := [.int .i64 x.kind, .slice Ci ki ei, .slice Cp kp ep, .slice Cn kn en, .slice Cc kc ec, .slice Cl kl el, .int .i64 x.code, .int .i64 x.env]) tyVector ?_ ?_ (.tmp 33) (.tmp 36) ?_ ?_ ?_ ?_ ?_ ?_ ?_ ?_ ?_ ?_ ?_; (kernel_rfl); (rfl); (rfl); (rfl); (focus (repeat' (first | with_reducible assumption | with_reducible refine own_dw ?_ | with_reducible refine own_al ?_ | with_reducible refine own_pk ?_ ?_ | with_reducible exact notin_nil | with_reducible refine notin_app ?_ ?_ | (with_reducible refine Fresh.notin (by with_reducible assumption) ?_; ((try simp only [wsize_drew, wsize_alloc, wsize_set]); omega)) | (with_reducible refine Lo.notin (by with_reducible assumption) ?_; ((try simp only [wsize_drew, wsize_alloc, wsize_set]); omega)) | with_reducible refine own_below ?_ (by with_reducible assumption)))); (rfl); (focus (repeat' (first | with_reducible assumption | with_reducible exact Blk.new' | with_reducible exact Blk.newd | with_reducible apply Blk.set8 | (with_reducible refine Blk.pk ?_ ?_; ((try simp only [wsize_drew, wsize_alloc, wsize_set]); omega)) | with_reducible refine Blk.dw ?_ | with_reducible refine Blk.al ?_ | with_reducible refine Blk.next ?_ (by with_reducible assumption)))); (focus (repeat' (first | with_reducible assumption | with_reducible refine own_dw ?_ | with_reducible refine own_al ?_ | with_reducible refine own_pk ?_ ?_ | with_reducible exact notin_nil | with_reducible refine notin_app ?_ ?_ | (with_reducible refine Fresh.notin (by with_reducible assumption) ?_; ((try simp only [wsize_drew, wsize_alloc, wsize_set]); omega)) | (with_reducible refine Lo.notin (by with_reducible assumption) ?_; ((try simp only [wsize_drew, wsize_alloc, wsize_set]); omega)) | with_reducible refine own_below ?_ (by with_reducible assumption)))); (rfl); (exact (Fresh.app2 lP frP hG1 (by omega)).1); (unfold maxLen; omega); (omega); intro gg cc w2 FP2 oP2 ap2 md2; have kg2 := Blk.mod (t := 34) (cs := [.int .i64 v.kind, .slice A1 n1 c1, .slice Ao k co, .slice A2 n2 c2, .slice A3 n3 c3, .slice A4 n4 c4, .int .i64 v.code, .int .i64 v.env]) (by (repeat' (first | with_reducible assumption | with_reducible exact Blk.new' | with_reducible exact Blk.newd | with_reducible apply Blk.set8 | (with_reducible refine Blk.pk ?_ ?_; ((try simp only [wsize_drew, wsize_alloc, wsize_set]); omega)) | with_reducible refine Blk.dw ?_ | with_reducible refine Blk.al ?_ | with_reducible refine Blk.next ?_ (by with_reducible assumption)))) md2 dg; have eg2 := kg2.cell 2; (simp only [List.getElem?_cons_zero, List.getElem?_cons_succ] at eg2); have zf2 := kg2.frozen 2))
        all_goals
          go_wp2_with fail
          go_roundw
          case rel =>
            have z2 := md2.size
            simp only [wsize_drew, wsize_alloc, wsize_set] at z2
            have ng : g ∉ FP2 := ap2.notin dg hG1.2 (by omega) (by ((try simp only [wsize_drew, wsize_alloc, wsize_set]); omega))
            refine ⟨k + 1, some ⟨gg, 0, none⟩, cc, FP2, by omega, by go_num, ?_, ?_, ?_, ?_, ?_, ?_, ?_, ?_⟩
            · exact kg2.set_ 2 _
            · rw [HX.out, List.map_append, List.map_cons, List.map_nil]
              (repeat' (first | with_reducible assumption | with_reducible refine own_dw ?_ | with_reducible refine own_al ?_ | with_reducible refine own_pk ?_ ?_ | with_reducible exact notin_nil | with_reducible refine notin_app ?_ ?_ | (with_reducible refine Fresh.notin (by with_reducible assumption) ?_; ((try simp only [wsize_drew, wsize_alloc, wsize_set]); omega)) | (with_reducible refine Lo.notin (by with_reducible assumption) ?_; ((try simp only [wsize_drew, wsize_alloc, wsize_set]); omega)) | with_reducible refine own_below ?_ (by with_reducible assumption)))
            · have o12 := own_mod (cs := [.slice A1 n1 c1]) (d := .sl (v.items.map Item.toD)) (t := 31) (P := Try.prog) (G := F1) (by (repeat' (first | with_reducible assumption | with_reducible refine own_dw ?_ | with_reducible refine own_al ?_ | with_reducible refine own_pk ?_ ?_ | with_reducible exact notin_nil | with_reducible refine notin_app ?_ ?_ | (with_reducible refine Fresh.notin (by with_reducible assumption) ?_; ((try simp only [wsize_drew, wsize_alloc, wsize_set]); omega)) | (with_reducible refine Lo.notin (by with_reducible assumption) ?_; ((try simp only [wsize_drew, wsize_alloc, wsize_set]); omega)) | with_reducible refine own_below ?_ (by with_reducible assumption)))) md2 D1.out
              (repeat' (first | with_reducible assumption | with_reducible refine own_dw ?_ | with_reducible refine own_al ?_ | with_reducible refine own_pk ?_ ?_ | with_reducible exact notin_nil | with_reducible refine notin_app ?_ ?_ | (with_reducible refine Fresh.notin (by with_reducible assumption) ?_; ((try simp only [wsize_drew, wsize_alloc, wsize_set]); omega)) | (with_reducible refine Lo.notin (by with_reducible assumption) ?_; ((try simp only [wsize_drew, wsize_alloc, wsize_set]); omega)) | with_reducible refine own_below ?_ (by with_reducible assumption)))
            · have o12 := own_mod (cs := [.slice A2 n2 c2]) (d := .sl (v.names.map .s)) (t := 24) (P := Try.prog) (G := F2) (by (repeat' (first | with_reducible assumption | with_reducible refine own_dw ?_ | with_reducible refine own_al ?_ | with_reducible refine own_pk ?_ ?_ | with_reducible exact notin_nil | with_reducible refine notin_app ?_ ?_ | (with_reducible refine Fresh.notin (by with_reducible assumption) ?_; ((try simp only [wsize_drew, wsize_alloc, wsize_set]); omega)) | (with_reducible refine Lo.notin (by with_reducible assumption) ?_; ((try simp only [wsize_drew, wsize_alloc, wsize_set]); omega)) | with_reducible refine own_below ?_ (by with_reducible assumption)))) md2 D2.out
              (repeat' (first | with_reducible assumption | with_reducible refine own_dw ?_ | with_reducible refine own_al ?_ | with_reducible refine own_pk ?_ ?_ | with_reducible exact notin_nil | with_reducible refine notin_app ?_ ?_ | (with_reducible refine Fresh.notin (by with_reducible assumption) ?_; ((try simp only [wsize_drew, wsize_alloc, wsize_set]); omega)) | (with_reducible refine Lo.notin (by with_reducible assumption) ?_; ((try simp only [wsize_drew, wsize_alloc, wsize_set]); omega)) | with_reducible refine own_below ?_ (by with_reducible assumption)))
            · have o12 := own_mod (cs := [.slice A3 n3 c3]) (d := .sl (v.cls.map .s)) (t := 24) (P := Try.prog) (G := F3) (by (repeat' (first | with_reducible assumption | with_reducible refine own_dw ?_ | with_reducible refine own_al ?_ | with_reducible refine own_pk ?_ ?_ | with_reducible exact notin_nil | with_reducible refine notin_app ?_ ?_ | (with_reducible refine Fresh.notin (by with_reducible assumption) ?_; ((try simp only [wsize_drew, wsize_alloc, wsize_set]); omega)) | (with_reducible refine Lo.notin (by with_reducible assumption) ?_; ((try simp only [wsize_drew, wsize_alloc, wsize_set]); omega)) | with_reducible refine own_below ?_ (by with_reducible assumption)))) md2 D3.out
              (repeat' (first | with_reducible assumption | with_reducible refine own_dw ?_ | with_reducible refine own_al ?_ | with_reducible refine own_pk ?_ ?_ | with_reducible exact notin_nil | with_reducible refine notin_app ?_ ?_ | (with_reducible refine Fresh.notin (by with_reducible assumption) ?_; ((try simp only [wsize_drew, wsize_alloc, wsize_set]); omega)) | (with_reducible refine Lo.notin (by with_reducible assumption) ?_; ((try simp only [wsize_drew, wsize_alloc, wsize_set]); omega)) | with_reducible refine own_below ?_ (by with_reducible assumption)))
            · have o12 := own_mod (cs := [.slice A4 n4 c4]) (d := .sl (v.levels.map .s)) (t := 24) (P := Try.prog) (G := F4) (by (repeat' (first | with_reducible assumption | with_reducible refine own_dw ?_ | with_reducible refine own_al ?_ | with_reducible refine own_pk ?_ ?_ | with_reducible exact notin_nil | with_reducible refine notin_app ?_ ?_ | (with_reducible refine Fresh.notin (by with_reducible assumption) ?_; ((try simp only [wsize_drew, wsize_alloc, wsize_set]); omega)) | (with_reducible refine Lo.notin (by with_reducible assumption) ?_; ((try simp only [wsize_drew, wsize_alloc, wsize_set]); omega)) | with_reducible refine own_below ?_ (by with_reducible assumption)))) md2 D4.out
              (repeat' (first | with_reducible assumption | with_reducible refine own_dw ?_ | with_reducible refine own_al ?_ | with_reducible refine own_pk ?_ ?_ | with_reducible exact notin_nil | with_reducible refine notin_app ?_ ?_ | (with_reducible refine Fresh.notin (by with_reducible assumption) ?_; ((try simp only [wsize_drew, wsize_alloc, wsize_set]); omega)) | (with_reducible refine Lo.notin (by with_reducible assumption) ?_; ((try simp only [wsize_drew, wsize_alloc, wsize_set]); omega)) | with_reducible refine own_below ?_ (by with_reducible assumption)))
            · exact Fresh.repl fr LL.out (by omega) hG1.2 (by ((try simp only [wsize_drew, wsize_alloc, wsize_set]); omega)) ap2
            · have B2 := bel_mod (B := W0.heap.size) (a := W0) (by (repeat' (first | with_reducible assumption | with_reducible exact Below.refl _ _ | with_reducible refine bel_dw ?_ | with_reducible refine bel_al ?_ ?_ | with_reducible refine bel_set ?_ ?_ | with_reducible refine bel_call ?_ (by with_reducible assumption) ?_ | ((try simp only [wsize_drew, wsize_alloc, wsize_set]); omega)))) md2 frP.2 (by ((try simp only [wsize_drew, wsize_alloc, wsize_set]); omega))
              (repeat' (first | with_reducible assumption | with_reducible exact Below.refl _ _ | with_reducible refine bel_dw ?_ | with_reducible refine bel_al ?_ ?_ | with_reducible refine bel_set ?_ ?_ | with_reducible refine bel_call ?_ (by with_reducible assumption) ?_ | ((try simp only [wsize_drew, wsize_alloc, wsize_set]); omega)))
          case measure => simp [intOf]; omega
      · have hkk : k = np := by omega
        subst hkk
        have kR : Blk W0 (w.heap.size + 1) 34 [.int .i64 0, .slice none 0 0, .slice none 0 0, .slice none 0 0, .slice none 0 0, .slice none 0 0, .int .i64 0, .int .i64 0] := kR
        have kR1 := kR.below bb (by omega)
        obtain ⟨r0, r1, r2, r3, r4, r5, r6, r7⟩ := kR1.c8
        have hR1 : w.heap.size + 1 < wr.heap.size := by omega
        obtain ⟨e0, e1, e2, e3, e4, e5, e6, e7⟩ := kg.c8
        have zr := fun i => kR1.frozen i
        have zr0 := zr 0; have zr1 := zr 1; have zr2 := zr 2; have zr3 := zr 3; have zr4 := zr 4; have zr5 := zr 5; have zr6 := zr 6; have zr7 := zr 7
        clear zr
        go_wp2_with fail
        have hl := own_len oP
        rw [List.length_map] at hl
        rw [List.take_of_length_le (by rw [HPL.out]; omega)] at oP
        have hgR : g ≠ w.heap.size + 1 := by omega
        refine bodyPost_ret (v := .agg #[.int .i64 v.kind, .slice A1 n1 c1, .slice Ao k co, .slice A2 n2 c2, .slice A3 n3 c3, .slice A4 n4 c4, .int .i64 v.code, .int .i64 v.env]) (by simp [results, Try.results85, go_sem, r0, r1, r2, r3, r4, r5, r6, r7, hR1]) rfl ⟨_, F1 ++ (FP ++ (F2 ++ (F3 ++ (F4 ++ [])))), rfl, ?_, ?_, ?_⟩
        · have q1 := fr.right.tail
          have qP := fr.left
          have q2 := q1.right
          have q3 := q2.right
          have f1 := q1.left
          have f2 := q2.left
          have f3 := q3.left
          have f4 := q3.right
          refine Vector_own wk ?_ ?_ ?_ ?_ ?_ wc we
          all_goals (repeat' (first | with_reducible assumption | with_reducible refine own_dw ?_ | with_reducible refine own_al ?_ | with_reducible refine own_pk ?_ ?_ | with_reducible exact notin_nil | with_reducible refine notin_app ?_ ?_ | (with_reducible refine Fresh.notin (by with_reducible assumption) ?_; ((try simp only [wsize_drew, wsize_alloc, wsize_set]); omega)) | (with_reducible refine Lo.notin (by with_reducible assumption) ?_; ((try simp only [wsize_drew, wsize_alloc, wsize_set]); omega)) | with_reducible refine own_below ?_ (by with_reducible assumption)))
        · have fr2 : Fresh w.heap.size (FP ++ (F1 ++ (F2 ++ (F3 ++ F4)))) := (fr.mono (by omega)).sub ((List.Sublist.refl _).append (List.sublist_cons_self _ _))
          exact fr2.perm (by simp [List.perm_iff_count]; omega)
        · (repeat' (first | with_reducible assumption | with_reducible exact Below.refl _ _ | with_reducible refine bel_dw ?_ | with_reducible refine bel_al ?_ ?_ | with_reducible refine bel_set ?_ ?_ | with_reducible refine bel_call ?_ (by with_reducible assumption) ?_ | ((try simp only [wsize_drew, wsize_alloc, wsize_set]); omega)))
theorem copyVector_any (v : Vec) : cpP v := Vector_ind copyVector_of v
end Go.Proofs.Ytekcpadlmfaihaa
