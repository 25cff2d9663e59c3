/- What the library does for Topo: IndexFunc with Topo's function, Delete. Conditions: those of each theorem, as typed. -/
import Derived.Test.YtlmeblhcipkgmaaGrX
import Derived.Test.YtlmeblhcipkgmaaGrT
import Derived.Test.YtlmeblhcipkgmaaLayD
import Derived.Sort.OwnSortedInts
namespace Go.Proofs.Ytlmeblhcipkgmaa
open Go.RowKit Go.Maps Go.Sort
set_option linter.unusedVariables false

theorem ownsRow_cut {w : World} {B g n cap : Nat} {e : TypeId} {xs : List Value} {z : Value} (h : w.ownsRow B e 1 (.slice (some ⟨g, 0, none⟩) (n + 1) cap) (n + 1) (xs ++ [z])) : w.ownsRow B e 1 (.slice (some ⟨g, 0, none⟩) n cap) n xs := by
  obtain ⟨h1, h2⟩ := h
  have hl : xs.length = n := by simp at h1; omega
  refine ⟨by omega, ?_⟩
  rcases h2 with ⟨h2, -⟩ | ⟨g', cap', cur, hv, hg, hh, hnc, hcm, hs, ht⟩
  · cases h2
  · simp only [Value.slice.injEq, Option.some.injEq, Addr.mk.injEq, and_true, true_and] at hv
    obtain ⟨rfl, rfl⟩ := hv
    refine .inr ⟨g, cap, cur, rfl, hg, hh, by omega, hcm, hs, ?_⟩
    have h3 := congrArg (List.take n) ht
    rw [List.take_take, Nat.min_eq_left (by omega), List.take_left' hl] at h3
    rw [Nat.mul_one]
    exact h3
theorem grow_nil (w : World) : grow w #[] = w := by
  cases w
  simp [grow]
theorem deleteI {w : World} {B g n cap : Nat} {l : List Int} (h : OwnI w B (.slice (some ⟨g, 0, none⟩) n cap) l) (hn : l.length = n) {i : Nat} (hi : i < n) :
    Calls Try.prog 90 #[.slice (some ⟨g, 0, none⟩) n cap, .int .i64 (i : Int), .int .i64 ((i : Int) + 1)] w fun e w' => e = .returned (.slice (some ⟨g, 0, none⟩) (n - 1) cap) ∧ OwnI w' B (.slice (some ⟨g, 0, none⟩) (n - 1) cap) (l.eraseIdx i) ∧ w.grownBy w' (some g) := by
  subst hn
  obtain ⟨-, h2⟩ := h
  rcases h2 with ⟨h2, -⟩ | ⟨g', cap', cur, hv, hg, hh, hnc, hcm, hs, ht⟩
  · cases h2
  · simp only [Value.slice.injEq, Option.some.injEq, Addr.mk.injEq, and_true, true_and] at hv
    obtain ⟨rfl, rfl⟩ := hv
    rw [flat_int, Nat.mul_one] at ht
    have hd := Any.slices_Delete_int del23 g 0 cap i (i + 1) l w (holds_of_blockI hh ht) hnc (by unfold maxLen at hcm; omega) (by omega) hi
    rw [show ((i + 1 : Nat) : Int) = (i : Int) + 1 from by omega] at hd
    refine hd.mono ?_
    rintro e w' ⟨rfl, q, rfl⟩
    rw [show i + 1 - i = 1 from by omega]
    have hts : (l.take i ++ l.drop (i + 1) ++ List.replicate 1 0).length = l.length := by simp; omega
    have h3 := ownsRow_sortedI (n := q) (os := #[]) hts hg hh hnc hcm hs
    have h4 := grownBy_sortedI (w := w) (g := g) (n := q) (os := #[]) (l.take i ++ l.drop (i + 1) ++ List.replicate 1 0).toArray
    rw [grow_nil] at h3 h4
    refine ⟨rfl, ?_, h4⟩
    obtain ⟨m, hm⟩ : ∃ m, l.length = m + 1 := ⟨l.length - 1, by omega⟩
    rw [hm] at h3 ⊢
    rw [List.map_append] at h3
    have h5 := ownsRow_cut (z := .int .i64 0) h3
    have he : (l.eraseIdx i).length = m := by rw [List.length_eraseIdx, if_pos hi]; omega
    show World.ownsRow _ B _ 1 _ (l.eraseIdx i).length _
    rw [he, flat_int, List.eraseIdx_eq_take_drop_succ]
    exact h5

theorem lookI {w : World} {f : Nat} {F : List (Int × Int)} (h : MapI w f F) (hd : KDom dI F) {a : Int} (ha : dI a) : (Instr.lookup 117 (.map (some f)) (.int .i64 a) false).run Try.prog w = .ok (.int .i64 ((fnd a F).getD 0)) w := by
  have := h.look keyI elem_int hd Try.underlying117 (zeroI w) ha
  rw [this]
  cases fnd a F <;> rfl
theorem topo_free1 {w : World} {f c : Nat} {F : List (Int × Int)} (h : MapI w f F) (hd : KDom dI F) (hc : w.cell? ⟨c, 0, none⟩ = some (.map (some f))) (x : Int) (hx : dI x) :
    Calls Try.prog 89 #[.int .i64 x, .pointer (some ⟨c, 0, none⟩)] w fun e w' => e = .returned (.bool ((fnd x F).getD 0 == 0)) ∧ w = w' := by
  have lk := lookI h hd hx
  have H := hid h
  clear h
  go_enter Try.func89, Try.ntmps89
  go_wp2
  go_ret
  exact ⟨rfl, rfl⟩
/-- The first place of those of which nothing is told but 0; -1: there is none. -/
def FirstZ (F : List (Int × Int)) (l : List Int) (r : Int) : Prop :=
  (r = -1 ∧ ∀ x ∈ l, (fnd x F).getD 0 ≠ 0) ∨ ∃ (i : Nat) (x : Int), r = i ∧ l[i]? = some x ∧ (fnd x F).getD 0 = 0 ∧ ∀ y ∈ l.take i, (fnd y F).getD 0 ≠ 0
theorem topo_index {w : World} {f c B n cap : Nat} {a : Option Addr} {F : List (Int × Int)} {l : List Int} (h : MapI w f F) (hd : KDom dI F) (hc : w.cell? ⟨c, 0, none⟩ = some (.map (some f))) (ho : OwnI w B (.slice a n cap) l) (hn : l.length = n) (hld : ∀ x ∈ l, dI x) :
    Calls Try.prog 88 #[.slice a n cap, .func (.func 89) #[] #[.pointer (some ⟨c, 0, none⟩)]] w fun e w' => ∃ r, e = .returned (.int .i64 r) ∧ FirstZ F l r ∧ w = w' := by
  obtain ⟨_, _, e, hnm⟩ := ho.sl.ex
  simp only [Value.slice.injEq] at e
  have hnm2 : n ≤ 9223372036854775807 := by omega
  have H := hid h
  have HO := hid ho
  have HN := hid hn
  have HD := hid hd
  have HLD := hid hld
  clear h ho hn hd hld e hnm
  go_enter Try.func88, Try.ntmps88
  go_wp2_with fail
  go_loop [8] (fun i => ∃ k : Nat, k ≤ n ∧ i = .int .i64 k ∧ ∀ y ∈ l.take k, (fnd y F).getD 0 ≠ 0) (fun i => n - (intOf i).toNat)
  case atStart => exact ⟨0, by omega, by go_num, fun y hy => by simp at hy⟩
  case round =>
    obtain ⟨k, hk, rfl, hM⟩ := hrel
    have HM := hid hM
    clear hM
    by_cases hlt : k < n
    · obtain ⟨g, x, rfl, -, hg, hx, hcx⟩ := OwnI.at HO.out HN.out hlt
      have hxd := HLD.out x (List.mem_of_getElem? hx)
      have HX := hid hx
      clear hx
      go_wp2_with fail
      refine (topo_free1 H.out HD.out hc x hxd).mono ?_
      rintro e w2 ⟨rfl, rfl⟩
      by_cases hz : (fnd x F).getD 0 = 0
      · have hz2 : ((fnd x F).getD 0 == 0) = true := by simpa using hz
        rw [hz2]
        have HZ := hid hz
        clear hz hz2
        go_wp2
        go_ret
        exact ⟨k, rfl, .inr ⟨k, x, rfl, HX.out, HZ.out, HM.out⟩, rfl⟩
      · have hz2 : ((fnd x F).getD 0 == 0) = false := by simpa using hz
        rw [hz2]
        have HZ := hid hz
        clear hz hz2
        go_wp2_with fail
        go_round
        case rel => exact ⟨k + 1, by omega, by go_num, fun y hy => by
          rcases (mem_take_step HX.out).1 hy with hy | rfl
          · exact HM.out y hy
          · exact HZ.out⟩
        case measure => simp [intOf]; omega
    · obtain rfl : k = n := by omega
      go_wp2
      go_ret
      exact ⟨-1, rfl, .inl ⟨rfl, fun x hx => HM.out x (by rw [← HN.out, List.take_length]; exact hx)⟩, rfl⟩
end Go.Proofs.Ytlmeblhcipkgmaa
