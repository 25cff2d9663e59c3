/- The low bits of a number. Conditions: those of each theorem, as typed. -/
import Derived.Test.YtlmeblhcipkgmaaRelG
namespace Go.Proofs.Ytlmeblhcipkgmaa
open Go.RowKit

theorem and_low (z : Int) (k : Nat) (hk : k ≤ 8) : bits .and .i64 z ((2 ^ k - 1 : Nat) : Int) = z % ((2 ^ k : Nat) : Int) := by
  have hp : 0 < 2 ^ k := Nat.pos_of_ne_zero (by simp)
  have hle : 2 ^ k ≤ 2 ^ 8 := Nat.pow_le_pow_right (by omega) hk
  have e1 : (BitVec.ofInt IntKind.i64.bits ((2 ^ k - 1 : Nat) : Int)).toNat = 2 ^ k - 1 := by
    rw [BitVec.toNat_ofInt]
    show (((2 ^ k - 1 : Nat) : Int) % ((2 ^ 64 : Nat) : Int)).toNat = _
    rw [Int.emod_eq_of_lt (by omega) (by omega)]
    omega
  have e2 : (BitVec.ofInt IntKind.i64.bits z).toNat = (z % ((2 ^ 64 : Nat) : Int)).toNat := BitVec.toNat_ofInt ..
  have e3 : ((BitVec.ofInt IntKind.i64.bits z) &&& (BitVec.ofInt IntKind.i64.bits ((2 ^ k - 1 : Nat) : Int))).toNat = (z % ((2 ^ 64 : Nat) : Int)).toNat % 2 ^ k := by
    rw [BitVec.toNat_and, e1, e2, Nat.and_two_pow_sub_one_eq_mod]
  unfold bits
  simp only [e3]
  have e4 : (((z % ((2 ^ 64 : Nat) : Int)).toNat % 2 ^ k : Nat) : Int) = z % ((2 ^ k : Nat) : Int) := by
    rw [Int.natCast_emod, Int.toNat_of_nonneg (Int.emod_nonneg _ (by omega))]
    refine Int.emod_emod_of_dvd _ ?_
    refine Int.natCast_dvd_natCast.2 (Nat.pow_dvd_pow 2 (by omega))
  rw [e4]
  have h5 := Int.emod_nonneg z (b := ((2 ^ k : Nat) : Int)) (by omega)
  have h6 := Int.emod_lt_of_pos z (b := ((2 ^ k : Nat) : Int)) (by omega)
  have h7 : z % ((2 ^ k : Nat) : Int) < 256 := by omega
  generalize z % ((2 ^ k : Nat) : Int) = y at *
  clear e1 e2 e3 e4 hp hle hk
  simp only [IntKind.wrap, IntKind.bits, IntKind.signed]
  simp
  omega
theorem and15 (z : Int) : bits .and .i64 z 15 = z % 16 := and_low z 4 (by omega)
theorem and7 (z : Int) : bits .and .i64 z 7 = z % 8 := and_low z 3 (by omega)

theorem dI_small {x : Int} (h0 : 0 ≤ x) (h1 : x ≤ 15) : dI x := by
  unfold dI Lit.wf
  simp [IntKind.min, IntKind.max, IntKind.bits, IntKind.signed]
  omega
def lowP (x : Pr) : Pr := (x.1 % 16, x.2 % 16)
theorem lowP_in (x : Pr) : (0 ≤ (lowP x).1 ∧ (lowP x).1 ≤ 15) ∧ 0 ≤ (lowP x).2 ∧ (lowP x).2 ≤ 15 := by
  unfold lowP
  simp only
  omega
theorem OwnF.keepObj {α : Type} {f : α → List Value} {e : TypeId} {sz : Nat} {w : World} {B : Nat} {v : Value} {l : List α} (h : OwnF f e sz w B v l) : ∀ k, v.ownBlock = some k → ∃ cs, w.heap[k]? = some (.cells cs e (0, 0)) := by
  intro k hk
  obtain ⟨-, h2⟩ := h
  rcases h2 with ⟨rfl, -⟩ | ⟨g, cap, cur, rfl, -, hh, -⟩
  · simp [Value.ownBlock] at hk
  · simp only [Value.ownBlock, Option.some.injEq] at hk
    subst hk
    exact ⟨cur, hh⟩
end Go.Proofs.Ytlmeblhcipkgmaa
