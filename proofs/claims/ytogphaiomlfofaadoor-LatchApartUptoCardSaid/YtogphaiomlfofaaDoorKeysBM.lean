/- The keys of a map[int]bool in their order, by the library's contracts. Conditions: those of each theorem, as typed. -/
import Derived.Test.YtogphaiomlfofaaDoorLayBM
import Derived.Test.YtogphaiomlfofaaDoorQD10
import Derived.Test.YtogphaiomlfofaaDoorMapKM
set_option linter.unusedVariables false
set_option linter.unusedSimpArgs false
namespace Go.Proofs.YtogphaiomlfofaaDoor
open Go.RowKit Go.Maps Go.Sort Go.Shelf

theorem sorts96 (m : Nat) : AnyZI.SortsIn Tryd.prog sorted96_ren Fence.wide m :=
  ⟨fun blk off cap ss W hH hblk hsz => callsIn_wide.2 (AnyM.slices_Sort_int sort134 blk off cap ss W hH hblk hsz),
   fun p cap W => callsIn_wide.2 (AnyM.slices_Sort_int_none sort134 p cap W)⟩

def SrtI (l : List Int) : Prop := l.Pairwise fun a b => a < b
theorem srt_leI {l : List Int} (h : SrtI l) : l.Pairwise fun a b => leI a b = true := h.imp fun {a b} h => by simp [leI]; omega
theorem mergeSort_srt {l ss : List Int} (hp : ss.Perm l) (h : SrtI l) : ss.mergeSort leI = l := by
  rw [mergeSort_of_perm_i hp]
  exact List.mergeSort_of_pairwise (srt_leI h)
theorem intKeys_mapD {ε : Type} (ed : ε → DU) (M : List (Int × ε)) : intKeys (mapD (.int .i64) ed M) = M.map (·.1) := by
  simp [intKeys, mapD, Go.intOf]

theorem own_of_row {w : World} {B n : Nat} {v : Value} {l : List Int} (h : w.ownsRow B 3 1 v n (l.map (.int .i64))) (hn : n = l.length) : OwnI w B v l := by
  subst hn
  show w.ownsRow B _ 1 v l.length (l.flatMap intC)
  rw [flat_int]
  exact h
theorem KSrt.keys {ε : Type} {M : List (Int × ε)} (h : KSrt M) : SrtI (M.map (·.1)) := by
  unfold SrtI
  rw [List.pairwise_map]
  exact h

/-! ### map[int]bool -/
theorem keysB (mb : Option Nat) (W : World) : Calls Tryd.prog 35 #[.map mb] W fun e w' => e = .returned (.func (.func 44) #[] #[.pointer (some ⟨W.heap.size, 0, none⟩)]) ∧ w' = W.alloc (.cells #[.map mb] 86) :=
  (callsIn_wide (n := 5)).1 (AnyZI.keys_in keys97 Fence.wide 5 trivial rfl mb W)
theorem sortedB {ε : Type} {R : RdU} {ed : ε → DU} {M : List (Int × ε)} {w : World} {b n : Nat} (h : IsMapK Tryd.prog 3 R (.int .i64) ed w b n M) (hs : KSrt M) (hn : n ≤ 1000000) :
    Calls Tryd.prog 34 #[.func (.func 44) #[] #[.pointer (some ⟨w.heap.size, 0, none⟩)]] (w.alloc (.cells #[.map (some b)] 86)) fun e w' => ∃ v, e = .returned v ∧ OwnI w' (w.heap.size + 1) v (M.map (·.1)) ∧
      Below (w.heap.size + 1) (w.alloc (.cells #[.map (some b)] 86)) w' := by
  have hlen := h.length_le
  have hbl := h.lt
  have hseq : SeqGives Fence.wide 2 Tryd.prog 44 #[.pointer (some ⟨w.heap.size, 0, none⟩)] encZ (fun ss => ss.Perm (intKeys (mapD (.int .i64) ed M))) (Maps.size (mapD (.int .i64) ed M)) (w.alloc (.cells #[.map (some b)] 86)) :=
    AnyZI.keys_gives (ρ := keys97_ren) { keys97 with } Fence.wide _ trivial rfl (by omega) w.heap.size b n _ _ (by simp) (by simp) (by
      obtain ⟨es, clock, hb, Ft, hs, hD⟩ := h
      exact ⟨es, clock, (Below.heap_alloc _ _ b hbl).trans hb, Ft, hs, hD⟩)
  refine ((callsIn_wide (n := 5)).1 (AnyZI.sorted_in sorted96 Fence.wide 5 trivial trivial trivial trivial rfl (by omega) (sorts96 _) (enters_of Tryd.func43 (by kernel_rfl) rfl) 44 #[.pointer (some ⟨w.heap.size, 0, none⟩)] trivial (enters_of Tryd.func44 (by kernel_rfl) rfl) _ _ (by rw [mapD_size]; unfold maxLen; omega) (by rw [mapD_size]; omega) _ hseq)).mono ?_
  rintro e w' ⟨v, ss, rfl, hp, hrow, -, hb⟩
  rw [intKeys_mapD] at hp
  have hm := mergeSort_srt hp hs.keys
  rw [show (ss.mergeSort fun x y => decide (x ≤ y)) = M.map (·.1) from hm] at hrow
  rw [World.size_alloc] at hrow hb
  exact ⟨v, rfl, own_of_row hrow (by have := hp.length_eq; simpa using this), hb⟩
theorem sortedB_nil (w : World) :
    Calls Tryd.prog 34 #[.func (.func 44) #[] #[.pointer (some ⟨w.heap.size, 0, none⟩)]] (w.alloc (.cells #[.map none] 86)) fun e w' => ∃ v, e = .returned v ∧ OwnI w' (w.heap.size + 1) v [] ∧
      Below (w.heap.size + 1) (w.alloc (.cells #[.map none] 86)) w' := by
  have hseq : SeqGives Fence.wide 2 Tryd.prog 44 #[.pointer (some ⟨w.heap.size, 0, none⟩)] encZ (fun ss : List Int => ss = []) 0 (w.alloc (.cells #[.map none] 86)) :=
    AnyZI.keys_gives_nil (ρ := keys97_ren) { keys97 with } Fence.wide _ trivial rfl w.heap.size _ (by simp) (by simp)
  refine ((callsIn_wide (n := 5)).1 (AnyZI.sorted_in sorted96 Fence.wide 5 trivial trivial trivial trivial rfl (by omega) (sorts96 _) (enters_of Tryd.func43 (by kernel_rfl) rfl) 44 #[.pointer (some ⟨w.heap.size, 0, none⟩)] trivial (enters_of Tryd.func44 (by kernel_rfl) rfl) _ 0 (Nat.zero_le _) (by omega) _ hseq)).mono ?_
  rintro e w' ⟨v, ss, rfl, rfl, hrow, -, hb⟩
  rw [World.size_alloc, List.mergeSort_nil] at hrow
  rw [World.size_alloc] at hb
  exact ⟨v, rfl, own_of_row hrow rfl, hb⟩

end Go.Proofs.YtogphaiomlfofaaDoor
