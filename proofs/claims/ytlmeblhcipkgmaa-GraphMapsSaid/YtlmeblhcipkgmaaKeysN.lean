/- The keys of a map in their order, by the library's contracts: keys that are names. Conditions: those of each theorem, as typed. -/
import Derived.Test.YtlmeblhcipkgmaaNames
namespace Go.Proofs.Ytlmeblhcipkgmaa
open Go.RowKit Go.Maps Go.Sort Go.Shelf

theorem keysNB (mb : Option Nat) (W : World) : Calls Try.prog 104 #[.map mb] W fun e w' => e = .returned (.func (.func 115) #[] #[.pointer (some ⟨W.heap.size, 0, none⟩)]) ∧ w' = W.alloc (.cells #[.map mb] 104) :=
  (callsIn_wide (n := 5)).1 (AnyZ.keys_in keys104 Fence.wide 5 trivial rfl mb W)
theorem sortedNB {ε : Type} {R : RdU} {ed : ε → DU} {M : List (Int × ε)} {w : World} {b n : Nat} (h : IsMapK Try.prog 9 R nmL ed w b n M) (hs : KSrt M) (hd : KDom dS M) (hn : n ≤ 1000000) :
    Calls Try.prog 80 #[.func (.func 115) #[] #[.pointer (some ⟨w.heap.size, 0, none⟩)]] (w.alloc (.cells #[.map (some b)] 104)) fun e w' => ∃ v, e = .returned v ∧ OwnN w' (w.heap.size + 1) v (M.map (·.1)) ∧
      Below (w.heap.size + 1) (w.alloc (.cells #[.map (some b)] 104)) w' := by
  have hlen := h.length_le
  have hbl := h.lt
  have hseq : SeqGives Fence.wide 2 Try.prog 115 #[.pointer (some ⟨w.heap.size, 0, none⟩)] encStr (fun ss => ss.Perm (strKeys (mapD nmL ed M))) (Maps.size (mapD nmL ed M)) (w.alloc (.cells #[.map (some b)] 104)) :=
    AnyZ.keys_gives (ρ := keys104_ren) { keys104 with } Fence.wide _ trivial rfl (by omega) w.heap.size b n _ _ (by simp) (by simp) (by
      obtain ⟨es, clock, hb, Ft, hs, hD⟩ := h
      exact ⟨es, clock, (Below.heap_alloc _ _ b hbl).trans hb, Ft, hs, hD⟩)
  refine ((callsIn_wide (n := 5)).1 (AnyZ.sorted_in sorted80 Fence.wide 5 trivial trivial trivial trivial rfl (by omega) (sorts80 _) (enters_of Try.func106 (by kernel_rfl) rfl) 115 #[.pointer (some ⟨w.heap.size, 0, none⟩)] trivial (enters_of Try.func115 (by kernel_rfl) rfl) _ _ (by rw [mapD_size]; unfold maxLen; omega) (by rw [mapD_size]; omega) _ hseq)).mono ?_
  rintro e w' ⟨v, ss, rfl, hp, hrow, -, hb⟩
  rw [strKeys_mapD] at hp
  have hm := mergeSort_nm hp hs.keys (fun x hx => by obtain ⟨q, hq, rfl⟩ := List.mem_map.1 hx; exact hd q hq)
  rw [show (ss.mergeSort fun x y => decide (x ≤ y)) = (M.map (·.1)).map nm from hm] at hrow
  rw [World.size_alloc] at hrow hb
  exact ⟨v, rfl, ownN_of_row hrow (by have := hp.length_eq; simpa using this), hb⟩
theorem sortedNB_nil (w : World) :
    Calls Try.prog 80 #[.func (.func 115) #[] #[.pointer (some ⟨w.heap.size, 0, none⟩)]] (w.alloc (.cells #[.map none] 104)) fun e w' => ∃ v, e = .returned v ∧ OwnN w' (w.heap.size + 1) v [] ∧
      Below (w.heap.size + 1) (w.alloc (.cells #[.map none] 104)) w' := by
  have hseq : SeqGives Fence.wide 2 Try.prog 115 #[.pointer (some ⟨w.heap.size, 0, none⟩)] encStr (fun ss : List (List UInt8) => ss = []) 0 (w.alloc (.cells #[.map none] 104)) :=
    AnyZ.keys_gives_nil (ρ := keys104_ren) { keys104 with } Fence.wide _ trivial rfl w.heap.size _ (by simp) (by simp)
  refine ((callsIn_wide (n := 5)).1 (AnyZ.sorted_in sorted80 Fence.wide 5 trivial trivial trivial trivial rfl (by omega) (sorts80 _) (enters_of Try.func106 (by kernel_rfl) rfl) 115 #[.pointer (some ⟨w.heap.size, 0, none⟩)] trivial (enters_of Try.func115 (by kernel_rfl) rfl) _ 0 (Nat.zero_le _) (by omega) _ hseq)).mono ?_
  rintro e w' ⟨v, ss, rfl, rfl, hrow, -, hb⟩
  rw [World.size_alloc, List.mergeSort_nil] at hrow
  rw [World.size_alloc] at hb
  exact ⟨v, rfl, ownN_of_row (l := []) hrow rfl, hb⟩

theorem keysNM (mb : Option Nat) (W : World) : Calls Try.prog 81 #[.map mb] W fun e w' => e = .returned (.func (.func 107) #[] #[.pointer (some ⟨W.heap.size, 0, none⟩)]) ∧ w' = W.alloc (.cells #[.map mb] 101) :=
  (callsIn_wide (n := 5)).1 (AnyZ.keys_in keys81 Fence.wide 5 trivial rfl mb W)
theorem sortedNM {ε : Type} {R : RdU} {ed : ε → DU} {M : List (Int × ε)} {w : World} {b n : Nat} (h : IsMapK Try.prog 9 R nmL ed w b n M) (hs : KSrt M) (hd : KDom dS M) (hn : n ≤ 1000000) :
    Calls Try.prog 80 #[.func (.func 107) #[] #[.pointer (some ⟨w.heap.size, 0, none⟩)]] (w.alloc (.cells #[.map (some b)] 101)) fun e w' => ∃ v, e = .returned v ∧ OwnN w' (w.heap.size + 1) v (M.map (·.1)) ∧
      Below (w.heap.size + 1) (w.alloc (.cells #[.map (some b)] 101)) w' := by
  have hlen := h.length_le
  have hbl := h.lt
  have hseq : SeqGives Fence.wide 2 Try.prog 107 #[.pointer (some ⟨w.heap.size, 0, none⟩)] encStr (fun ss => ss.Perm (strKeys (mapD nmL ed M))) (Maps.size (mapD nmL ed M)) (w.alloc (.cells #[.map (some b)] 101)) :=
    AnyZ.keys_gives (ρ := keys81_ren) { keys81 with } Fence.wide _ trivial rfl (by omega) w.heap.size b n _ _ (by simp) (by simp) (by
      obtain ⟨es, clock, hb, Ft, hs, hD⟩ := h
      exact ⟨es, clock, (Below.heap_alloc _ _ b hbl).trans hb, Ft, hs, hD⟩)
  refine ((callsIn_wide (n := 5)).1 (AnyZ.sorted_in sorted80 Fence.wide 5 trivial trivial trivial trivial rfl (by omega) (sorts80 _) (enters_of Try.func106 (by kernel_rfl) rfl) 107 #[.pointer (some ⟨w.heap.size, 0, none⟩)] trivial (enters_of Try.func107 (by kernel_rfl) rfl) _ _ (by rw [mapD_size]; unfold maxLen; omega) (by rw [mapD_size]; omega) _ hseq)).mono ?_
  rintro e w' ⟨v, ss, rfl, hp, hrow, -, hb⟩
  rw [strKeys_mapD] at hp
  have hm := mergeSort_nm hp hs.keys (fun x hx => by obtain ⟨q, hq, rfl⟩ := List.mem_map.1 hx; exact hd q hq)
  rw [show (ss.mergeSort fun x y => decide (x ≤ y)) = (M.map (·.1)).map nm from hm] at hrow
  rw [World.size_alloc] at hrow hb
  exact ⟨v, rfl, ownN_of_row hrow (by have := hp.length_eq; simpa using this), hb⟩
theorem sortedNM_nil (w : World) :
    Calls Try.prog 80 #[.func (.func 107) #[] #[.pointer (some ⟨w.heap.size, 0, none⟩)]] (w.alloc (.cells #[.map none] 101)) fun e w' => ∃ v, e = .returned v ∧ OwnN w' (w.heap.size + 1) v [] ∧
      Below (w.heap.size + 1) (w.alloc (.cells #[.map none] 101)) w' := by
  have hseq : SeqGives Fence.wide 2 Try.prog 107 #[.pointer (some ⟨w.heap.size, 0, none⟩)] encStr (fun ss : List (List UInt8) => ss = []) 0 (w.alloc (.cells #[.map none] 101)) :=
    AnyZ.keys_gives_nil (ρ := keys81_ren) { keys81 with } Fence.wide _ trivial rfl w.heap.size _ (by simp) (by simp)
  refine ((callsIn_wide (n := 5)).1 (AnyZ.sorted_in sorted80 Fence.wide 5 trivial trivial trivial trivial rfl (by omega) (sorts80 _) (enters_of Try.func106 (by kernel_rfl) rfl) 107 #[.pointer (some ⟨w.heap.size, 0, none⟩)] trivial (enters_of Try.func107 (by kernel_rfl) rfl) _ 0 (Nat.zero_le _) (by omega) _ hseq)).mono ?_
  rintro e w' ⟨v, ss, rfl, rfl, hrow, -, hb⟩
  rw [World.size_alloc, List.mergeSort_nil] at hrow
  rw [World.size_alloc] at hb
  exact ⟨v, rfl, ownN_of_row (l := []) hrow rfl, hb⟩

theorem keysNG (mb : Option Nat) (W : World) : Calls Try.prog 103 #[.map mb] W fun e w' => e = .returned (.func (.func 114) #[] #[.pointer (some ⟨W.heap.size, 0, none⟩)]) ∧ w' = W.alloc (.cells #[.map mb] 135) :=
  (callsIn_wide (n := 5)).1 (AnyZ.keys_in keys103 Fence.wide 5 trivial rfl mb W)
theorem sortedNG {ε : Type} {R : RdU} {ed : ε → DU} {M : List (Int × ε)} {w : World} {b n : Nat} (h : IsMapK Try.prog 9 R nmL ed w b n M) (hs : KSrt M) (hd : KDom dS M) (hn : n ≤ 1000000) :
    Calls Try.prog 80 #[.func (.func 114) #[] #[.pointer (some ⟨w.heap.size, 0, none⟩)]] (w.alloc (.cells #[.map (some b)] 135)) fun e w' => ∃ v, e = .returned v ∧ OwnN w' (w.heap.size + 1) v (M.map (·.1)) ∧
      Below (w.heap.size + 1) (w.alloc (.cells #[.map (some b)] 135)) w' := by
  have hlen := h.length_le
  have hbl := h.lt
  have hseq : SeqGives Fence.wide 2 Try.prog 114 #[.pointer (some ⟨w.heap.size, 0, none⟩)] encStr (fun ss => ss.Perm (strKeys (mapD nmL ed M))) (Maps.size (mapD nmL ed M)) (w.alloc (.cells #[.map (some b)] 135)) :=
    AnyZ.keys_gives (ρ := keys103_ren) { keys103 with } Fence.wide _ trivial rfl (by omega) w.heap.size b n _ _ (by simp) (by simp) (by
      obtain ⟨es, clock, hb, Ft, hs, hD⟩ := h
      exact ⟨es, clock, (Below.heap_alloc _ _ b hbl).trans hb, Ft, hs, hD⟩)
  refine ((callsIn_wide (n := 5)).1 (AnyZ.sorted_in sorted80 Fence.wide 5 trivial trivial trivial trivial rfl (by omega) (sorts80 _) (enters_of Try.func106 (by kernel_rfl) rfl) 114 #[.pointer (some ⟨w.heap.size, 0, none⟩)] trivial (enters_of Try.func114 (by kernel_rfl) rfl) _ _ (by rw [mapD_size]; unfold maxLen; omega) (by rw [mapD_size]; omega) _ hseq)).mono ?_
  rintro e w' ⟨v, ss, rfl, hp, hrow, -, hb⟩
  rw [strKeys_mapD] at hp
  have hm := mergeSort_nm hp hs.keys (fun x hx => by obtain ⟨q, hq, rfl⟩ := List.mem_map.1 hx; exact hd q hq)
  rw [show (ss.mergeSort fun x y => decide (x ≤ y)) = (M.map (·.1)).map nm from hm] at hrow
  rw [World.size_alloc] at hrow hb
  exact ⟨v, rfl, ownN_of_row hrow (by have := hp.length_eq; simpa using this), hb⟩
theorem sortedNG_nil (w : World) :
    Calls Try.prog 80 #[.func (.func 114) #[] #[.pointer (some ⟨w.heap.size, 0, none⟩)]] (w.alloc (.cells #[.map none] 135)) fun e w' => ∃ v, e = .returned v ∧ OwnN w' (w.heap.size + 1) v [] ∧
      Below (w.heap.size + 1) (w.alloc (.cells #[.map none] 135)) w' := by
  have hseq : SeqGives Fence.wide 2 Try.prog 114 #[.pointer (some ⟨w.heap.size, 0, none⟩)] encStr (fun ss : List (List UInt8) => ss = []) 0 (w.alloc (.cells #[.map none] 135)) :=
    AnyZ.keys_gives_nil (ρ := keys103_ren) { keys103 with } Fence.wide _ trivial rfl w.heap.size _ (by simp) (by simp)
  refine ((callsIn_wide (n := 5)).1 (AnyZ.sorted_in sorted80 Fence.wide 5 trivial trivial trivial trivial rfl (by omega) (sorts80 _) (enters_of Try.func106 (by kernel_rfl) rfl) 114 #[.pointer (some ⟨w.heap.size, 0, none⟩)] trivial (enters_of Try.func114 (by kernel_rfl) rfl) _ 0 (Nat.zero_le _) (by omega) _ hseq)).mono ?_
  rintro e w' ⟨v, ss, rfl, rfl, hrow, -, hb⟩
  rw [World.size_alloc, List.mergeSort_nil] at hrow
  rw [World.size_alloc] at hb
  exact ⟨v, rfl, ownN_of_row (l := []) hrow rfl, hb⟩
end Go.Proofs.Ytlmeblhcipkgmaa
