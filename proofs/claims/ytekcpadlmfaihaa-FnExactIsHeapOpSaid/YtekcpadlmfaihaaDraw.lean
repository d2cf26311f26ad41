/- The cursor from which the laws draw their inputs: what each drawing function may return. -/
import Derived.Test.YtekcpadlmfaihaaBase
import Derived.Laws.BitsAllLaws
namespace Go.Proofs.Ytekcpadlmfaihaa
open Go.RowKit
theorem and255 (x : Int) : 0 ≤ bits .and .i64 x 255 ∧ bits .and .i64 x 255 ≤ 255 := by
  have h : (BitVec.ofInt 64 x &&& BitVec.ofInt 64 255).toNat ≤ 255 := by
    rw [BitVec.toNat_and]
    have : (BitVec.ofInt 64 255).toNat = 255 := by decide
    rw [this]; exact Nat.and_le_right
  show 0 ≤ IntKind.i64.wrap ((BitVec.ofInt 64 x &&& BitVec.ofInt 64 255).toNat : Int) ∧ IntKind.i64.wrap ((BitVec.ofInt 64 x &&& BitVec.ofInt 64 255).toNat : Int) ≤ 255
  generalize (BitVec.ofInt 64 x &&& BitVec.ofInt 64 255).toNat = m at h
  rw [IntKind.wrap_i64]
  omega
theorem only_drewN {a w : World} {row : Option Nat} (h : a.grownBy w row) (n : Nat) : a.grownBy (w.drewN n) row := ⟨h.os, h.tape, h.output, h.size, h.block⟩
def encB (b : UInt8) : List Value := [.int .u8 b.toNat]
theorem Reads.atB {w : World} {B n k : Nat} {A : Option Addr} {l : List UInt8} (h : Reads encB 1 w B A n l) (hk : k < n) :
    ∃ b off, ∃ x : UInt8, A = some ⟨b, off, none⟩ ∧ b < B ∧ w.cell? ⟨b, off + k, none⟩ = some (.int .u8 x.toNat) := by
  obtain ⟨b, off, x, e, hb, hx, hc⟩ := h.at_ hk
  have := hc 0 _ rfl
  rw [Nat.mul_one] at this
  exact ⟨b, off, x, e, hb, this⟩
def encS (s : Str) : List Value := [sv s]
def encI (i : Int) : List Value := [.int .i64 i]
theorem encS_len (s : Str) : (encS s).length = 1 := rfl
theorem encI_len (s : Int) : (encI s).length = 1 := rfl
theorem encS_one (e : Str) : ∀ u ∈ encS e, u.oneCell' = true := by simp [encS, Value.oneCell']
theorem encI_one (e : Int) : ∀ u ∈ encI e, u.oneCell' = true := by simp [encI, Value.oneCell']
theorem Reads.atS {w : World} {B n k : Nat} {A : Option Addr} {l : List Str} (h : Reads encS 1 w B A n l) (hk : k < n) :
    ∃ b off, ∃ x : Str, A = some ⟨b, off, none⟩ ∧ b < B ∧ l[k]? = some x ∧ w.cell? ⟨b, off + k, none⟩ = some (sv x) := by
  obtain ⟨b, off, x, e, hb, hx, hc⟩ := h.at_ hk
  have := hc 0 _ rfl
  rw [Nat.mul_one] at this
  exact ⟨b, off, x, e, hb, hx, this⟩
theorem Reads.atI {w : World} {B n k : Nat} {A : Option Addr} {l : List Int} (h : Reads encI 1 w B A n l) (hk : k < n) :
    ∃ b off, ∃ x : Int, A = some ⟨b, off, none⟩ ∧ b < B ∧ l[k]? = some x ∧ w.cell? ⟨b, off + k, none⟩ = some (.int .i64 x) := by
  obtain ⟨b, off, x, e, hb, hx, hc⟩ := h.at_ hk
  have := hc 0 _ rfl
  rw [Nat.mul_one] at this
  exact ⟨b, off, x, e, hb, hx, this⟩
end Go.Proofs.Ytekcpadlmfaihaa
