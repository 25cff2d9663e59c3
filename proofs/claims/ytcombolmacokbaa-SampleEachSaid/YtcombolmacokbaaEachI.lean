/- The iterator of the program's samples: what it hands to each round. Conditions: those of each theorem, as typed. -/
import Derived.Test.YtcombolmacokbaaFirst
import Derived.Test.YtcombolmacokbaaShape
import Derived.Test.YtcombolmacokbaaRange
namespace Go.Proofs.Ytcombolmacokbaa
open Go.RowKit

attribute [local go_sem] Oper.semAt_some

def nameAt (i : Nat) : ByteArray := nameL.getD i ⟨#[]⟩
def osAt (i : Nat) : List Ob := (histOf (nameAt i).toList).1
def esAt (i : Nat) : List Ev := (histOf (nameAt i).toList).2.1

theorem cell_heap {A B : World} {g j : Nat} (h : B.heap[g]? = A.heap[g]?) : B.cell? ⟨g, j, none⟩ = A.cell? ⟨g, j, none⟩ := by
  simp only [World.cell?, h]

/-- What the i-th round is handed: the i-th name; its history, in memory from hb on. -/
def Handed (i : Nat) (w : World) (hb : Nat) (args : Array Value) : Prop := ∃ ao co ae ce, args = #[.string (nameAt i), .agg #[.slice ao (osAt i).length co, .slice ae (esAt i).length ce]] ∧
  OwnO w hb (.slice ao (osAt i).length co) (osAt i) ∧ OwnE w hb (.slice ae (esAt i).length ce) (esAt i)

set_option maxRecDepth 100000 in
set_option maxHeartbeats 2000000 in
theorem p_each (m : Nat) : Iter Try.prog 42 m Handed 4 := by
  intro l J Jx W hJ hY h0
  have hm : m + 1 - 1 = m := rfl
  refine callsIn_of_wp Try.func42 rfl trivial ?_ rfl
  simp only [Try.ntmps42, List.size_toArray, List.length_cons, List.length_nil, Nat.reduceAdd, Nat.reduceSub, Array.replicate_succ, Array.replicate_zero, List.push_toArray, List.append_toArray, List.nil_append, List.cons_append]
  gi_wp2_with fail
  refine ⟨trivial, (callsIn_wide.2 (p_names _)).mono ?_⟩
  intro e w1 h
  obtain ⟨g, c, rfl, N1, hg, hc, b1⟩ := h.parts (by decide)
  clear h
  have hc' : ∀ k : Nat, k < 4 → w1.cell? ⟨g, k, none⟩ = some (.string (nameAt k)) := fun k hk => hc k _ (by
    rw [show nameAt k = nameL.getD k ⟨#[]⟩ from rfl, List.getD_eq_getElem?_getD]
    have : nameL[k]? = some (nameL[k]'(by show k < 4; exact hk)) := List.getElem?_eq_getElem _
    rw [this]; rfl)
  have hgb : W.heap.size ≤ g := (N1.lt g rfl).1
  rw [show nameL.length = 4 from rfl]
  have hJ1 : J 0 w1 := hJ 0 _ _ h0 (Nat.le_refl _) b1
  have s1 := b1.size
  clear hc N1 b1 h0
  have HY := hid hY
  have HJ := hid hJ
  clear hY hJ
  gi_wp2_with fail
  gi_loopw [8] (fun p wr => ∃ i : Nat, i ≤ 4 ∧ p = .int .i64 i ∧ J i wr ∧ W.heap.size ≤ wr.heap.size ∧ g < wr.heap.size ∧ ∀ k : Nat, k < 4 → wr.cell? ⟨g, k, none⟩ = some (.string (nameAt k)))
    (fun p _ => 4 - (intOf p).toNat)
  case atStart => exact ⟨0, by omega, by go_num, hJ1, s1, hg, hc'⟩
  case round =>
    obtain ⟨i, hi, rfl, hJi, hs, hgr, hcr⟩ := hrel
    clear hc' hg hJ1 s1
    by_cases hlt : i < 4
    · have hci := hcr i hlt
      gi_wp2_with fail
      refine ⟨trivial, (callsIn_wide.2 (p_get _ _)).mono ?_⟩
      rw [show histOf (nameAt i).toList = (osAt i, esAt i, (histOf (nameAt i).toList).2.2) from rfl]
      generalize (histOf (nameAt i).toList).2.2 = bb
      intro e w2 h
      obtain ⟨a2, c2, a2', c2', rfl, o2, e2, b2⟩ := h.ex
      clear h
      have hsz2 := b2.size
      obtain ⟨fn, tmps, assign, body, hy, hR⟩ := HY.out i (w2.alloc (.cells #[.slice a2 (osAt i).length c2, .slice a2' (esAt i).length c2'] 28)) wr.heap.size _ hlt
        (HJ.out i _ _ hJi hs (b2.alloc hsz2 _)) hs (by simp; omega) ⟨a2, c2, a2', c2', rfl, o2.alloc _, e2.alloc _⟩
      have b3 := b2.alloc hsz2 (.cells #[.slice a2 (osAt i).length c2, .slice a2' (esAt i).length c2'] 28)
      clear o2 e2
      gi_wp2_with fail
      refine hR.mono ?_
      rintro e W3 (⟨rfl, hJ3, hk3⟩ | ⟨rfl, hJx3⟩)
      · gi_wp2_with fail
        go_roundw
        case rel =>
          refine ⟨i + 1, by omega, by go_num, hJ3, ?_, ?_, fun k hk => ?_⟩
          · have := hk3.size; simp at this; omega
          · have := hk3.size; simp at this; omega
          · rw [cell_heap (hk3.block g hgb hgr)]
            exact cell_below b3 hgr (hcr k hk)
        case measure => simp [intOf]; omega
      · gi_wp2_with fail
        refine bodyPost_ret (results_none rfl _ _ _) rfl ?_
        exact ⟨⟨_, rfl⟩, .inr ⟨i + 1, by omega, by omega, hJx3⟩⟩
    · obtain rfl : i = 4 := by omega
      gi_wp2_with fail
      go_end0
      exact ⟨⟨_, rfl⟩, .inl hJi⟩
end Go.Proofs.Ytcombolmacokbaa
