/- What the program's relations of whole numbers do: Ahead, Circle (out of Closure's contract), Fits. Conditions: those of each theorem, as typed. -/
import Derived.Test.YtlmeblhcipkgmaaRelG
import Derived.Sort.OwnSortedInts
namespace Go.Proofs.Ytlmeblhcipkgmaa
open Go.RowKit Go.Maps Go.Sort

/-- slices.Sort on a list of the call's own. -/
theorem sortI {w : World} {B : Nat} {v : Value} {l : List Int} (h : OwnI w B v l) (hl : l.length ≤ 1000000) : Calls Try.prog 85 #[v] w fun e w' => e = .returned (.tuple #[]) ∧ OwnI w' B v (l.mergeSort leI) ∧ Grw w w' v v := by
  rcases h.form with ⟨rfl, rfl⟩ | ⟨g, cap, rfl, -, hg⟩
  · refine (AnyM.slices_Sort_int_none sort85 none 0 w).mono ?_
    rintro e w' ⟨rfl, rfl⟩
    exact ⟨rfl, by rw [List.mergeSort_nil]; exact h, Grw.refl _ _⟩
  · obtain ⟨h1, h2⟩ := h
    rcases h2 with ⟨h2, -⟩ | ⟨g', cap', cur, hv, hB, hh, hnc, hcm, hs, ht⟩
    · cases h2
    · simp only [Value.slice.injEq, Option.some.injEq, Addr.mk.injEq, and_true, true_and] at hv
      obtain ⟨rfl, rfl⟩ := hv
      rw [flat_int, Nat.mul_one] at ht
      refine (AnyM.slices_Sort_int sort85 g 0 cap l w (holds_of_blockI hh ht) hg (by omega)).mono ?_
      rintro e w' ⟨rfl, n, os, rfl⟩
      have hlen : (l.mergeSort leI).length = l.length := List.length_mergeSort l
      refine ⟨rfl, ?_, grownBy_sortedI _, fun k hk => .inl hk⟩
      have := ownsRow_sortedI (w := w) (n := n) (os := os) hlen hB hh hnc hcm hs
      show World.ownsRow _ B _ 1 _ (l.mergeSort leI).length _
      rw [flat_int, hlen]
      exact this

theorem perm_of_mem {l m : List Int} (h1 : l.Nodup) (h2 : m.Nodup) (h : ∀ x, x ∈ l ↔ x ∈ m) : l.Perm m := (List.perm_ext_iff_of_nodup h1 h2).2 h

section
variable {w : World} {lo hi p : Nat} {L : List Pr}
set_option maxHeartbeats 400000 in
theorem rel_ahead (h : RelAt w lo hi p L) (hhi : hi ≤ w.heap.size) (hL : L.length ≤ 1000000) (c : Int) (hc : dI c) : Calls Try.prog 40 #[.pointer (some ⟨p, 0, none⟩), .int .i64 c] w fun e w' => ∃ v, e = .returned v ∧ OwnI w' w.heap.size v (col L c) ∧ Below w.heap.size w w' := by
  obtain ⟨b, M, h⟩ := h
  have hp := row_cell h.ptr 0
  have H := hid h
  have hML := h.len
  clear h
  go_enter Try.func40, Try.ntmps40
  go_wp2_with (at_range; refine Stop.halt ?_)
  refine Stop.go ?_
  refine H.out.out.wpList_range keyI H.out.domM H.out.srtM Try.underlying98 rfl rfl (by rfl) ?_
  intro w1 hr1 hg1 hz1
  have hB1 := hid (below_ranged (Below.refl w.heap.size w) hg1 (Nat.le_refl _))
  have HR := hid hr1
  clear hr1 hg1
  go_wp2_with fail
  go_frame
  go_loopw [5] (fun v wr => ∃ S cnt xs, RngO wr b w.heap.size M S cnt ∧ OwnI wr (w.heap.size + 1) v xs ∧ xs.Nodup ∧ (∀ x, x ∈ xs ↔ S x = false ∧ (x, c) ∈ L) ∧ Below w.heap.size w wr ∧ w.heap.size + 1 ≤ wr.heap.size) (fun _ wr => wr.rangeLeft b w.heap.size)
  case atStart => exact ⟨_, _, [], HR.out, OwnF.nil _ _, List.nodup_nil, fun x => by simp, hB1.out, by omega⟩
  case round =>
    obtain ⟨S, cnt, xs, hrg, hO, hnd, hmx, hB, hsz⟩ := hrel
    obtain ⟨ao, co, rfl, -⟩ := hO.sl.ex
    have hxl : xs.length ≤ L.length := by
      have h1 := nodup_le (l := xs) (m := L.map (·.1)) hnd fun x hx => List.mem_map.2 ⟨_, ((hmx x).1 hx).2, rfl⟩
      simpa using h1
    have HG := hid hrg
    have HB := hid hB
    have HO := hid hO
    have HD := hid hnd
    have HX := hid hmx
    clear hrg hB HR hB1 hz1 hO hnd hmx
    go_wp2_with (at_next; refine Stop.halt ?_)
    refine Stop.go ?_
    refine HG.out.wpList_next keyI elem_map H.out.domM H.out.srtM rfl rfl (by rfl) ?_ ?_
    · intro hd
      have hperm : Hid (xs.mergeSort leI = col L c) := hid (mergeSort_srt (perm_of_mem HD.out (SrtI.nodup (srt_col H.out.srt c)) fun x => by
        rw [HX.out x, mem_col]
        constructor
        · exact And.right
        · intro hx
          refine ⟨?_, hx⟩
          have : x ∈ M.map (·.1) := by rw [H.out.keys]; exact mem_heads.2 ⟨c, hx⟩
          obtain ⟨q, hq, hq2⟩ := List.mem_map.1 this
          rw [← hq2]; exact hd q hq) (srt_col H.out.srt c))
      clear hd
      go_wp2_with fail
      refine (sortI HO.out (by omega)).mono ?_
      rintro e w2 ⟨rfl, h2, g2⟩
      rw [hperm.out] at h2
      have H2 := hid h2
      have B2 := hid (HB.out.trans (g2.below HB.out.size fun q h => by have := (HO.out.lt q h).1; omega))
      clear h2 g2
      go_wp2
      go_ret
      exact ⟨_, rfl, H2.out.base (by omega), B2.out⟩
    · intro x u w2 cnt2 hm hS hrg2 hlt2 hg2 hz2 hen
      have B2 := hid (below_next HB.out hg2 HB.out.size (Nat.le_refl _))
      have hR2 := H.out.below B2.out hhi
      have hl2 := look_bool (hR2.inn x u hm).2 (fun x hx => (H.out.dom _ (mem_row.1 hx)).2) hc
      have e : decide (c ∈ row L x) = decide ((x, c) ∈ L) := by simp only [mem_row]
      rw [e] at hl2
      have HO2 := hid (HO.out.kept hg2 (by
        cases e : (Value.slice ao xs.length co).ownBlock with
        | none => exact .inl rfl
        | some q => exact .inr (by have := (HO.out.lt q e).1; intro e2; cases e2; omega)))
      have HG2 := hid hrg2
      have HS := hid hS
      have hz3 : w.heap.size + 1 ≤ w2.heap.size := by omega
      clear hrg2 hg2 hS hm hR2 e hz2
      by_cases hin : (x, c) ∈ L
      · have hd : decide ((x, c) ∈ L) = true := by simpa using hin
        rw [hd] at hl2
        clear hd
        have HI := hid hin
        clear hin
        go_wp2_with (at_builtin; refine wpList_appF rfl _ _ _ rfl _ 8 Try.underlying23 infoI rfl HO2.out x (by first | omega | (simp <;> omega)) (by rfl) (by rfl) (by first | rfl | simp) rfl (in_one _) (by first | omega | (simp only [List.length_append, List.length_cons, List.length_nil, List.length_replicate]; omega)) (by first | omega | (simp only [List.length_append, List.length_cons, List.length_nil, List.length_replicate]; omega)) ?_; refine Stop.halt ?_)
        refine Stop.go ?_
        intro gn cn wn hn Gn
        have hnr : (Value.slice ao xs.length co).ownBlock ≠ some w.heap.size := fun h => by have := (HO2.out.lt _ h).1; omega
        have hnb : (Value.slice ao xs.length co).ownBlock ≠ some b := fun h => by have := (HO2.out.lt _ h).1; have := H.out.hb; omega
        have HG3 := hid (HG2.out.obj (Gn.grown.block b HG2.out.owns.lt (fun e => hnb e.symm)) (Gn.grown.block _ HG2.out.lt (fun e => hnr e.symm)))
        have HB3 := hid (B2.out.trans (Gn.below B2.out.size fun q h => by have := (HO2.out.lt q h).1; omega))
        have HO3 := hid hn
        have hz4 : w.heap.size + 1 ≤ wn.heap.size := by have := Gn.size; omega
        clear hn Gn hnr hnb hl2
        go_wp2_with fail
        go_roundw
        case rel =>
          refine ⟨_, _, _, HG3.out, HO3.out, ?_, fun z => ?_, HB3.out, hz4⟩
          · rw [List.nodup_append]
            exact ⟨HD.out, by simp, fun z hz y hy e => by simp only [List.mem_singleton] at hy; subst e; subst hy; have := ((HX.out z).1 hz).1; rw [HS.out] at this; cases this⟩
          · rw [List.mem_append, HX.out z, List.mem_singleton]
            constructor
            · rintro (⟨h1, h2⟩ | rfl)
              · exact ⟨by rw [h1]; rfl, h2⟩
              · exact ⟨by simp, HI.out⟩
            · rintro ⟨h1, h2⟩
              cases hz : S z
              · exact .inl ⟨rfl, h2⟩
              · rw [hz] at h1; simp at h1; exact .inr h1
        case measure => rw [HG3.out.left_eq, HG.out.left_eq]; omega
      · have hd : decide ((x, c) ∈ L) = false := by simpa using hin
        rw [hd] at hl2
        clear hd
        have HI := hid hin
        clear hin
        go_wp2_with fail
        go_roundw
        case rel =>
          refine ⟨_, _, xs, HG2.out, HO2.out, HD.out, fun z => ?_, B2.out, by omega⟩
          rw [HX.out z]
          constructor
          · rintro ⟨h1, h2⟩
            exact ⟨by rw [h1]; rfl, h2⟩
          · rintro ⟨h1, h2⟩
            cases hz : S z
            · exact ⟨rfl, h2⟩
            · rw [hz] at h1; simp at h1; rw [h1] at h2; exact absurd h2 HI.out
        case measure => rw [HG2.out.left_eq, HG.out.left_eq]; omega
end
end Go.Proofs.Ytlmeblhcipkgmaa
