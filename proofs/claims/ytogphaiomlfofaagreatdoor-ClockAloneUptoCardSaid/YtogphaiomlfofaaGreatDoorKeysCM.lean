/- The keys of a map[int]int in their order, by the library's contracts. Conditions: those of each theorem, as typed. -/
import Derived.Test.YtogphaiomlfofaaGreatDoorKeysBM
set_option linter.unusedVariables false
set_option linter.unusedSimpArgs false
namespace Go.Proofs.YtogphaiomlfofaaGreatDoor
open Go.RowKit Go.Maps Go.Sort Go.Shelf

def keys105_ren : Go.Shelf.Ren := ⟨fun | 7 => 105 | 10 => 141 | n => n, fun | 23 => 160 | 26 => 3 | 3 => 3 | 28 => 174 | 0 => 0 | 27 => 173 | 33 => 52 | 4 => 4 | n => n, fun | n => n⟩
theorem keys105 : SlLaysZI.n7 Tryz.prog keys105_ren := {
  mixed := by kernel_rfl
  f7 := ⟨Tryz.f105.name, by decide, Tryz.func105.trans (congrArg some (by kernel_rfl))⟩
  f10 := ⟨Tryz.f141.name, by decide, Tryz.func141.trans (congrArg some (by kernel_rfl))⟩
  t0 := Tryz.underlying0
  a0 := Tryz.isAgg0
  z0 := Tryz.sizeOf0
  v0 := Tryz.zeroValue0
  t4 := Tryz.underlying4
  a4 := Tryz.isAgg4
  z4 := Tryz.sizeOf4
  v4 := Tryz.zeroValue4
  t23 := Tryz.underlying160
  a23 := Tryz.isAgg160
  z23 := Tryz.sizeOf160
  v23 := Tryz.zeroValue160
  t26 := Tryz.underlying3
  a26 := Tryz.isAgg3
  z26 := Tryz.sizeOf3
  v26 := Tryz.zeroValue3
  t27 := Tryz.underlying173
  a27 := Tryz.isAgg173
  z27 := Tryz.sizeOf173
  v27 := Tryz.zeroValue173
  t28 := Tryz.underlying174
  a28 := Tryz.isAgg174
  z28 := Tryz.sizeOf174
  v28 := Tryz.zeroValue174
  t33 := Tryz.underlying52
  a33 := Tryz.isAgg52
  z33 := Tryz.sizeOf52
  v33 := Tryz.zeroValue52 }

/-! ### map[int]int -/
theorem keysI (mb : Option Nat) (W : World) : Calls Tryz.prog 105 #[.map mb] W fun e w' => e = .returned (.func (.func 141) #[] #[.pointer (some ⟨W.heap.size, 0, none⟩)]) ∧ w' = W.alloc (.cells #[.map mb] 160) :=
  (callsIn_wide (n := 5)).1 (AnyZI.keys_in keys105 Fence.wide 5 trivial rfl mb W)
theorem sortedI {ε : Type} {R : RdU} {ed : ε → DU} {M : List (Int × ε)} {w : World} {b n : Nat} (h : IsMapK Tryz.prog 3 R (.int .i64) ed w b n M) (hs : KSrt M) (hn : n ≤ 1000000) :
    Calls Tryz.prog 96 #[.func (.func 141) #[] #[.pointer (some ⟨w.heap.size, 0, none⟩)]] (w.alloc (.cells #[.map (some b)] 160)) fun e w' => ∃ v, e = .returned v ∧ OwnI w' (w.heap.size + 1) v (M.map (·.1)) ∧
      Below (w.heap.size + 1) (w.alloc (.cells #[.map (some b)] 160)) w' := by
  have hlen := h.length_le
  have hbl := h.lt
  have hseq : SeqGives Fence.wide 2 Tryz.prog 141 #[.pointer (some ⟨w.heap.size, 0, none⟩)] encZ (fun ss => ss.Perm (intKeys (mapD (.int .i64) ed M))) (Maps.size (mapD (.int .i64) ed M)) (w.alloc (.cells #[.map (some b)] 160)) :=
    AnyZI.keys_gives (ρ := keys105_ren) { keys105 with } Fence.wide _ trivial rfl (by omega) w.heap.size b n _ _ (by simp) (by simp) (by
      obtain ⟨es, clock, hb, Ft, hs, hD⟩ := h
      exact ⟨es, clock, (Below.heap_alloc _ _ b hbl).trans hb, Ft, hs, hD⟩)
  refine ((callsIn_wide (n := 5)).1 (AnyZI.sorted_in sorted96 Fence.wide 5 trivial trivial trivial trivial rfl (by omega) (sorts96 _) (enters_of Tryz.func134 (by kernel_rfl) rfl) 141 #[.pointer (some ⟨w.heap.size, 0, none⟩)] trivial (enters_of Tryz.func141 (by kernel_rfl) rfl) _ _ (by rw [mapD_size]; unfold maxLen; omega) (by rw [mapD_size]; omega) _ hseq)).mono ?_
  rintro e w' ⟨v, ss, rfl, hp, hrow, -, hb⟩
  rw [intKeys_mapD] at hp
  have hm := mergeSort_srt hp hs.keys
  rw [show (ss.mergeSort fun x y => decide (x ≤ y)) = M.map (·.1) from hm] at hrow
  rw [World.size_alloc] at hrow hb
  exact ⟨v, rfl, own_of_row hrow (by have := hp.length_eq; simpa using this), hb⟩
theorem sortedI_nil (w : World) :
    Calls Tryz.prog 96 #[.func (.func 141) #[] #[.pointer (some ⟨w.heap.size, 0, none⟩)]] (w.alloc (.cells #[.map none] 160)) fun e w' => ∃ v, e = .returned v ∧ OwnI w' (w.heap.size + 1) v [] ∧
      Below (w.heap.size + 1) (w.alloc (.cells #[.map none] 160)) w' := by
  have hseq : SeqGives Fence.wide 2 Tryz.prog 141 #[.pointer (some ⟨w.heap.size, 0, none⟩)] encZ (fun ss : List Int => ss = []) 0 (w.alloc (.cells #[.map none] 160)) :=
    AnyZI.keys_gives_nil (ρ := keys105_ren) { keys105 with } Fence.wide _ trivial rfl w.heap.size _ (by simp) (by simp)
  refine ((callsIn_wide (n := 5)).1 (AnyZI.sorted_in sorted96 Fence.wide 5 trivial trivial trivial trivial rfl (by omega) (sorts96 _) (enters_of Tryz.func134 (by kernel_rfl) rfl) 141 #[.pointer (some ⟨w.heap.size, 0, none⟩)] trivial (enters_of Tryz.func141 (by kernel_rfl) rfl) _ 0 (Nat.zero_le _) (by omega) _ hseq)).mono ?_
  rintro e w' ⟨v, ss, rfl, rfl, hrow, -, hb⟩
  rw [World.size_alloc, List.mergeSort_nil] at hrow
  rw [World.size_alloc] at hb
  exact ⟨v, rfl, own_of_row hrow rfl, hb⟩

end Go.Proofs.YtogphaiomlfofaaGreatDoor
