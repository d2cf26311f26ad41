/- Lists of texts and of numbers as owned data; the law's own to.. and eq.. over them. -/
import Derived.Test.YtekcpadlmfaihaaSz
namespace Go.Proofs.Ytekcpadlmfaihaa
open Go.RowKit
theorem row_flat {α : Type} {enc : α → List Value} {s : Nat} (henc : ∀ x, (enc x).length = s) (l : List α) : (l.map (fun x => (⟨enc x, henc x⟩ : Row s))).flatMap Row.v = l.flatMap enc := by
  induction l with
  | nil => rfl
  | cons a t ih => rw [List.map_cons, List.flatMap_cons, List.flatMap_cons, ih]
theorem ownA_mk {P : Program} {w : World} {α : Type} {f : α → D} {enc : α → List Value} {e : TypeId} : ∀ {l : List α}, (∀ x ∈ l, own P w (f x) e [] (enc x)) → ownA P w (l.map f) e [] (l.map enc)
  | [], _ => by rw [List.map_nil, ownA]; exact ⟨rfl, rfl⟩
  | x :: t, h => by rw [List.map_cons, List.map_cons, ownA]; exact ⟨[], [], _, _, rfl, rfl, h x List.mem_cons_self, ownA_mk fun y hy => h y (List.mem_cons_of_mem _ hy)⟩
theorem own_flat {P : Program} {w : World} {α : Type} {f : α → D} {enc : α → List Value} {s : Nat} {t e : TypeId} {base n c : Nat} {A : Option Addr} {l : List α} (henc : ∀ x, (enc x).length = s) (ht : P.underlying t = some (.slice e)) (hs : P.cellsOf e = s)
    (h : Own enc s e w base A n c l) (hc : c ≤ maxLen) (hf : ∀ x ∈ l, own P w (f x) e [] (enc x)) : own P w (.sl (l.map f)) t (ablk A) [.slice A n c] := by
  rw [own]
  refine ⟨e, A, n, c, s, l.map (fun x => ⟨enc x, henc x⟩), [], ht, hs, rfl, hc, ?_, by simp, ?_⟩
  · have h2 := h.mono (Nat.zero_le _)
    exact ⟨by simpa using h2.1, by rw [row_flat]; exact h2.2⟩
  · rw [List.map_map]
    exact ownA_mk hf
theorem ownA_of {P : Program} {w : World} {α : Type} {f : α → D} {enc : α → List Value} {e : TypeId} (hf : ∀ x F cs, own P w (f x) e F cs → F = [] ∧ cs = enc x) : ∀ {l : List α} {F : List Nat} {css : List (List Value)}, ownA P w (l.map f) e F css → F = [] ∧ css = l.map enc
  | [], F, css, h => by rw [List.map_nil, ownA] at h; exact h
  | x :: t, F, css, h => by
    rw [List.map_cons, ownA] at h
    obtain ⟨F1, F2, c1, c2, rfl, rfl, h1, h2⟩ := h
    obtain ⟨rfl, rfl⟩ := hf x F1 c1 h1
    obtain ⟨rfl, rfl⟩ := ownA_of hf h2
    exact ⟨rfl, rfl⟩
/-- An owned slice of flat data is a row of them. -/
theorem flat_own {P : Program} {w : World} {α : Type} {f : α → D} {enc : α → List Value} {s : Nat} {t e : TypeId} {n c : Nat} {A : Option Addr} {l : List α} {F : List Nat} (henc : ∀ x, (enc x).length = s) (ht : P.underlying t = some (.slice e)) (hs : P.cellsOf e = s)
    (hf : ∀ x F cs, own P w (f x) e F cs → F = [] ∧ cs = enc x) (h : own P w (.sl (l.map f)) t F [.slice A n c]) : F = ablk A ∧ Own enc s e w 0 A n c l ∧ c ≤ maxLen := by
  rw [own] at h
  obtain ⟨e', A', n', c', s', rows, F2, h1, h2, he, hm, h3, rfl, h4⟩ := h
  injection he with he; injection he with e1 e2 e3; subst e1 e2 e3
  rw [ht] at h1; injection h1 with h1; injection h1 with h1; subst h1
  rw [hs] at h2; subst h2
  obtain ⟨rfl, h5⟩ := ownA_of hf h4
  refine ⟨by simp, ⟨?_, ?_⟩, hm⟩
  · have := congrArg List.length h5; simp only [List.length_map] at this; rw [← this]; exact h3.1
  · have : rows.flatMap Row.v = l.flatMap enc := by rw [List.flatMap_def, h5, ← List.flatMap_def]
    rw [← this]; exact h3.2
theorem own_str {P : Program} {w : World} {e : TypeId} (x : Str) (F : List Nat) (cs : List Value) (h : own P w (.s x) e F cs) : F = [] ∧ cs = encS x := by rw [own] at h; exact ⟨h.1, h.2.1⟩
theorem own_int {P : Program} {w : World} {e : TypeId} (x : Int) (F : List Nat) (cs : List Value) (h : own P w (.i .i64 x) e F cs) : F = [] ∧ cs = encI x := by rw [own] at h; exact ⟨h.1, h.2.1⟩
theorem ownStr {w : World} {base n c : Nat} {A : Option Addr} {l : List Str} (h : OwnStr w base A n c l) (hc : c ≤ maxLen) (hl : ∀ x ∈ l, x.length ≤ maxLen) : own Try.prog w (.sl (l.map .s)) 24 (ablk A) [.slice A n c] :=
  own_flat encS_len Try.underlying24 (by kernel_rfl) h hc (fun x hx => by rw [own]; exact ⟨rfl, rfl, hl x hx⟩)
theorem strOwn {w : World} {n c : Nat} {A : Option Addr} {l : List Str} {F : List Nat} (h : own Try.prog w (.sl (l.map .s)) 24 F [.slice A n c]) : F = ablk A ∧ OwnStr w 0 A n c l ∧ c ≤ maxLen :=
  flat_own encS_len Try.underlying24 (by kernel_rfl) (fun x F cs h => own_str x F cs h) h
theorem ownInt {w : World} {base n c : Nat} {A : Option Addr} {l : List Int} (h : OwnInt w base A n c l) (hc : c ≤ maxLen) (hl : ∀ x ∈ l, (Lit.int .i64 x).wf = true) : own Try.prog w (.sl (l.map (.i .i64))) 41 (ablk A) [.slice A n c] :=
  own_flat encI_len Try.underlying41 (by kernel_rfl) h hc (fun x hx => by rw [own]; exact ⟨rfl, rfl, hl x hx⟩)
theorem intOwn {w : World} {n c : Nat} {A : Option Addr} {l : List Int} {F : List Nat} (h : own Try.prog w (.sl (l.map (.i .i64))) 41 F [.slice A n c]) : F = ablk A ∧ OwnInt w 0 A n c l ∧ c ≤ maxLen :=
  flat_own encI_len Try.underlying41 (by kernel_rfl) (fun x F cs h => own_int x F cs h) h
/-- What a function gives that makes a new slice. -/
def NewSl (xs : List D) (t : TypeId) (w : World) (e : Ending) (w' : World) : Prop :=
  ∃ (A : Option Addr) (n c : Nat) (F : List Nat), e = .returned (.slice A n c) ∧ own Try.prog w' (.sl xs) t F [.slice A n c] ∧ Fresh w.heap.size F ∧ Below w.heap.size w w'
def NewSt (d : D) (t : TypeId) (w : World) (e : Ending) (w' : World) : Prop :=
  ∃ (cs : List Value) (F : List Nat), e = .returned (.agg cs.toArray) ∧ own Try.prog w' d t F cs ∧ Fresh w.heap.size F ∧ Below w.heap.size w w'
theorem toStringS_r (l : List Str) (A : Option Addr) (len cap : Nat) (w : World) (h : rep w w.heap.size (.sl (l.map .s)) [.slice A len cap]) (hz : szD (.sl (l.map .s)) ≤ 1048576) :
    Calls Try.prog 43 #[.slice A len cap] w (NewSl (l.map .s) 24 w) := by
  obtain ⟨A', n', c', he, h2, h3, h4, h5⟩ := (repS _ _ _ _).1 h
  injection he with he; injection he with e1 e2 e3; subst e1 e2 e3
  rw [szD, List.length_map, h4.len] at hz
  refine (toStringS_any A len cap l w h4 (by omega)).mono fun e w' ⟨g, he, ho, hb⟩ => ⟨_, _, _, _, he, ownStr ho (by unfold maxLen; omega) h5, Fresh.one ?_, hb⟩
  intro x hx
  exact (ho.lt' x hx).1
theorem toIntS_r (l : List Int) (A : Option Addr) (len cap : Nat) (w : World) (h : rep w w.heap.size (.sl (l.map (.i .i64))) [.slice A len cap]) (hz : szD (.sl (l.map (.i .i64))) ≤ 1048576) :
    Calls Try.prog 44 #[.slice A len cap] w (NewSl (l.map (.i .i64)) 41 w) := by
  obtain ⟨A', n', c', he, h2, h3, h4, h5⟩ := (repI _ _ _ _).1 h
  injection he with he; injection he with e1 e2 e3; subst e1 e2 e3
  rw [szD, List.length_map, h4.len] at hz
  refine (toIntS_any A len cap l w h4 (by omega)).mono fun e w' ⟨g, he, ho, hb⟩ => ⟨_, _, _, _, he, ownInt ho (by unfold maxLen; omega) h5, Fresh.one ?_, hb⟩
  intro x hx
  exact (ho.lt' x hx).1
theorem eqStringS_r (l : List Str) (A A' : Option Addr) (n n' c c' : Nat) (w : World) (h : rep w w.heap.size (.sl (l.map .s)) [.slice A n c]) (h' : rep w w.heap.size (.sl (l.map .s)) [.slice A' n' c']) :
    Calls Try.prog 51 #[.slice A n c, .slice A' n' c'] w fun e w' => e = .returned (.bool true) ∧ Below w.heap.size w w' := by
  obtain ⟨A1, n1, c1, he, h2, h3, h4, h5⟩ := (repS _ _ _ _).1 h
  injection he with he; injection he with e1 e2 e3; subst e1 e2 e3
  obtain ⟨A1, n1, c1, he, k2, k3, k4, k5⟩ := (repS _ _ _ _).1 h'
  injection he with he; injection he with e1 e2 e3; subst e1 e2 e3
  have := eqStringS_any A A' n n' c c' l l w h4 k4 (by omega) (by omega)
  rwa [show (l == l) = true by simp] at this
theorem eqIntS_r (l : List Int) (A A' : Option Addr) (n n' c c' : Nat) (w : World) (h : rep w w.heap.size (.sl (l.map (.i .i64))) [.slice A n c]) (h' : rep w w.heap.size (.sl (l.map (.i .i64))) [.slice A' n' c']) :
    Calls Try.prog 52 #[.slice A n c, .slice A' n' c'] w fun e w' => e = .returned (.bool true) ∧ Below w.heap.size w w' := by
  obtain ⟨A1, n1, c1, he, h2, h3, h4, h5⟩ := (repI _ _ _ _).1 h
  injection he with he; injection he with e1 e2 e3; subst e1 e2 e3
  obtain ⟨A1, n1, c1, he, k2, k3, k4, k5⟩ := (repI _ _ _ _).1 h'
  injection he with he; injection he with e1 e2 e3; subst e1 e2 e3
  have := eqIntS_any A A' n n' c c' l l w h4 k4 (by omega) (by omega)
  rwa [show (l == l) = true by simp] at this
end Go.Proofs.Ytekcpadlmfaihaa
