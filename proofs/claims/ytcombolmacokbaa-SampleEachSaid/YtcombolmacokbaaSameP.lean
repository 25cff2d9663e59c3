/- Two programs of the engines that are the same: the document's equality answers true, and turns nothing that was there. Conditions: those of each theorem, as typed. -/
import Derived.Test.YtcombolmacokbaaSame
namespace Go.Proofs.Ytcombolmacokbaa
open Go.RowKit

def IsActs (w : World) (B : Nat) (v : Value) (l : List Ac) : Prop := Sl w B 3 v l.length (l.flatMap Ac.cells)
def IsTxs (w : World) (B : Nat) (v : Value) (l : List (List Ac)) : Prop := IsL IsActs w B v l
def IsThr (w : World) (B : Nat) (v : Value) (l : List (List (List Ac))) : Prop := IsL IsTxs w B v l
theorem IsTxs.below {w w' : World} {B : Nat} {v : Value} {l : List (List Ac)} (h : IsTxs w B v l) (hb : Below B w w') : IsTxs w' B v l := IsL.below (fun _ _ h => h.below hb) h hb
theorem IsThr.below {w w' : World} {B : Nat} {v : Value} {l : List (List (List Ac))} (h : IsThr w B v l) (hb : Below B w w') : IsThr w' B v l := IsL.below (fun _ _ h => h.below hb) h hb
theorem IsTxs.more {w : World} {B B' : Nat} {v : Value} {l : List (List Ac)} (h : IsTxs w B v l) (hb : B ≤ B') : IsTxs w B' v l := IsL.more (fun _ _ h => h.more hb) h hb
theorem IsThr.more {w : World} {B B' : Nat} {v : Value} {l : List (List (List Ac))} (h : IsThr w B v l) (hb : B ≤ B') : IsThr w B' v l := IsL.more (fun _ _ h => h.more hb) h hb

set_option maxHeartbeats 1000000 in
theorem sameProgram_eq (c1 t1 c2 t2 : Value) (cs : List Int) (ts : List (List (List Ac))) (w : World)
    (h1 : Sl w w.heap.size 1 c1 cs.length (cs.map (.int .i64))) (h2 : Sl w w.heap.size 1 c2 cs.length (cs.map (.int .i64))) (h3 : IsThr w w.heap.size t1 ts) (h4 : IsThr w w.heap.size t2 ts) :
    Calls Try.prog 15 #[.agg #[c1, t1], .agg #[c2, t2]] w fun e w' => e = .returned (.bool true) ∧ Below w.heap.size w w' := by
  obtain ⟨a1, k1, rfl, -⟩ := h1.ex
  obtain ⟨a2, k2, rfl, -⟩ := h2.ex
  obtain ⟨a3, k3, rfl, m3⟩ := h3.ex
  obtain ⟨a4, k4, rfl, -⟩ := h4.ex
  have H1 := hid h1
  have H2 := hid h2
  have H3 := hid h3
  have H4 := hid h4
  clear h1 h2 h3 h4
  obtain ⟨n, hn⟩ : ∃ n, n = ts.length := ⟨_, rfl⟩
  rw [← hn] at m3 ⊢
  have HN := hid hn
  clear hn
  have hb : ((n : Int) != (n : Int)) = false := by simp
  go_enter Try.func15, Try.ntmps15
  go_wp2_with fail
  have hB0 : Below w.heap.size w ((w.alloc (.cells #[.slice a1 cs.length k1, .slice a3 n k3] 35)).alloc (.cells #[.slice a2 cs.length k2, .slice a4 n k4] 35)) := ((Below.refl _ _).alloc (Nat.le_refl _) _).alloc (by simp) _
  refine (sameInts_eq _ _ cs cs.length _ ((H1.out.below hB0).more hB0.size) ((H2.out.below hB0).more hB0.size)).mono ?_
  rintro e w1 ⟨rfl, hb1⟩
  have g0 : w1.cell? ⟨w.heap.size, 1, none⟩ = some (.slice a3 n k3) := cell_below hb1 (by simp; omega) (cell_old' (by simp) (cell_new' rfl rfl))
  have g1 : w1.cell? ⟨w.heap.size + 1, 1, none⟩ = some (.slice a4 n k4) := cell_below hb1 (by simp) (cell_new' (by simp) rfl)
  have hB1 := hB0.trans (hb1.mono hB0.size)
  have hz : w.heap.size + 2 ≤ w1.heap.size := by have := hb1.size; simp at this; omega
  have HB1 := hid hB1
  clear hB0 hB1 hb1
  go_wp2
  go_loopw [6] (fun i wr => ∃ k : Nat, k ≤ n ∧ i = .int .i64 k ∧ Below w1.heap.size w1 wr) (fun i _ => n - (intOf i).toNat)
  case atStart => exact ⟨0, by omega, rfl, Below.refl _ _⟩
  case round =>
    obtain ⟨k, hk, rfl, hB⟩ := hrel
    have g2 : wr.cell? ⟨w.heap.size, 1, none⟩ = some (.slice a3 n k3) := cell_below hB (by omega) g0
    have g3 : wr.cell? ⟨w.heap.size + 1, 1, none⟩ = some (.slice a4 n k4) := cell_below hB (by omega) g1
    have hBw := HB1.out.trans (hB.mono HB1.out.size)
    have HBw := hid hBw
    have HB := hid hB
    clear hBw hB
    by_cases hlt : k < n
    · obtain ⟨b3, o3, u3, x3, rfl, hb3, gx, hc3, r3⟩ := (H3.out.below HBw.out).at (n := n) (by rw [HN.out]) hlt
      obtain ⟨b4, o4, u4, x4, rfl, hb4, gy, hc4, r4⟩ := (H4.out.below HBw.out).at (n := n) (by rw [HN.out]) hlt
      obtain rfl : x3 = x4 := by rw [gx] at gy; exact Option.some.inj gy
      obtain ⟨a5, k5, rfl, m5⟩ := r3.ex
      obtain ⟨a6, k6, rfl, -⟩ := r4.ex
      obtain ⟨m, hm⟩ : ∃ m, m = x3.length := ⟨_, rfl⟩
      rw [← hm] at m5 hc3 hc4 r3 r4
      have R3 := hid r3
      have R4 := hid r4
      clear gx gy r3 r4
      have HM := hid hm
      clear hm
      have hb' : ((m : Int) != (m : Int)) = false := by simp
      go_wp2
      refine wp_region_x [0, 1, 0, 0, 1, 0, 0, 1, 0, 0, 1, 0, 0] [0, 1, 2, 3, 4, 5, 6, 7, 8, 9, 10, 11, 12] (by kernel_rfl) (by kernel_rfl) rfl (by kernel_rfl) ?_
      simp only [selX, guardAt, List.getElem?_cons_zero, List.getElem?_cons_succ, List.getD_cons_zero, List.getD_cons_succ]
      repeat (first
        | (refine wpL_p (fun K hK => ?_); go_simp; refine hK _ _ ?_; clear hK K)
        | (refine wpL_r (fun K hK => ?_); apply Exists.intro; refine ⟨fun w2 hw2 => ?_, hK _ _ ?_⟩; (have hk1 := hw2.cell; have hk3 := hw2.heap; clear hw2; go_simp; with_reducible rfl); clear hK K; simp only [Act.put, List.setIfInBounds_toArray, List.set_cons_zero, List.set_cons_succ])
        | (refine wpL_yes rfl rfl ?_)
        | (refine wpL_no rfl rfl (fun K hK => ?_); simp only [Act.put, List.setIfInBounds_toArray, List.set_cons_zero, List.set_cons_succ]; refine hK _ _ ?_; clear hK K)
        | (refine wpL_nil ?_))
      go_wp2
      obtain ⟨wo, hwo⟩ : ∃ wo : World, wo = wr.drew := ⟨_, rfl⟩
      rw [← hwo]
      have g4 : wo.cell? ⟨w.heap.size, 1, none⟩ = some (.slice (some ⟨b3, o3, none⟩) n k3) := by rw [hwo]; exact g2
      have g5 : wo.cell? ⟨w.heap.size + 1, 1, none⟩ = some (.slice (some ⟨b4, o4, none⟩) n k4) := by rw [hwo]; exact g3
      have e3 : wo.cell? ⟨b3, o3 + k, none⟩ = some (.slice a5 m k5) := by rw [hwo]; exact hc3
      have e4 : wo.cell? ⟨b4, o4 + k, none⟩ = some (.slice a6 m k6) := by rw [hwo]; exact hc4
      have hBo : Below w.heap.size w wo := by rw [hwo]; exact HBw.out.drew
      have hB2 : Below w1.heap.size w1 wo := by rw [hwo]; exact HB.out.drew
      have hzo : w.heap.size + 2 ≤ wo.heap.size := by have := hB2.size; omega
      have R5 : Hid (IsTxs wo w.heap.size (.slice a5 m k5) x3) := hid (by rw [hwo]; exact R3.out)
      have R6 : Hid (IsTxs wo w.heap.size (.slice a6 m k6) x3) := hid (by rw [hwo]; exact R4.out)
      clear R3 R4 hwo g2 g3 hc3 hc4 HBw HB
      have HBo := hid hBo
      have HB2 := hid hB2
      clear hBo hB2
      go_loopw [7] (fun i wr => ∃ k' : Nat, k' ≤ m ∧ i = .int .i64 k' ∧ Below wo.heap.size wo wr) (fun i _ => m - (intOf i).toNat)
      case atStart => exact ⟨0, by omega, rfl, Below.refl _ _⟩
      case round =>
        obtain ⟨k', hk', rfl, hB'⟩ := hrel
        have q2 := cell_below hB' (by omega) g4
        have q3 := cell_below hB' (by omega) g5
        have q4 := cell_below hB' (by have := HBo.out.size; omega) e3
        have q5 := cell_below hB' (by have := HBo.out.size; omega) e4
        have hBw' := HBo.out.trans (hB'.mono HBo.out.size)
        have HBw' := hid hBw'
        have HB' := hid hB'
        clear hBw' hB'
        by_cases hlt' : k' < m
        · obtain ⟨b5, o5, u5, x5, rfl, hb5, gx, hc5, r5⟩ := (R5.out.below (HB'.out.mono HBo.out.size)).at (n := m) rfl hlt'
          obtain ⟨b6, o6, u6, x6, rfl, hb6, gy, hc6, r6⟩ := (R6.out.below (HB'.out.mono HBo.out.size)).at (n := m) rfl hlt'
          obtain rfl : x5 = x6 := by rw [gx] at gy; exact Option.some.inj gy
          have R7 := hid r5
          have R8 := hid r6
          clear gx gy r5 r6
          go_wp2
          refine wp_region_x [0, 1, 0, 0, 1, 0, 0, 1, 0, 1, 0, 0, 1, 0, 0, 1, 2, 0] [0, 1, 2, 3, 4, 5, 6, 7, 8, 9, 10, 11, 12, 13, 14, 15, 16, 17] (by kernel_rfl) (by kernel_rfl) rfl (by kernel_rfl) ?_
          simp only [selX, guardAt, List.getElem?_cons_zero, List.getElem?_cons_succ, List.getD_cons_zero, List.getD_cons_succ]
          repeat (first
            | (refine wpL_p (fun K hK => ?_); go_simp; refine hK _ _ ?_; clear hK K)
            | (refine wpL_r (fun K hK => ?_); apply Exists.intro; refine ⟨fun w2 hw2 => ?_, hK _ _ ?_⟩; (have hk1 := hw2.cell; have hk3 := hw2.heap; clear hw2; go_simp; with_reducible rfl); clear hK K; simp only [Act.put, List.setIfInBounds_toArray, List.set_cons_zero, List.set_cons_succ])
            | (refine wpL_yes rfl rfl ?_)
            | (refine wpL_no rfl rfl (fun K hK => ?_); simp only [Act.put, List.setIfInBounds_toArray, List.set_cons_zero, List.set_cons_succ]; refine hK _ _ ?_; clear hK K)
            | (refine wpL_nil ?_))
          refine wpL_e (fun K hK => ?_)
          go_simp
          refine (sameActs_eq _ _ x5 _ wr.drew rfl (Sl.more (Sl.drew R7.out) HBw'.out.size) (Sl.more (Sl.drew R8.out) HBw'.out.size)).mono ?_
          rintro e w2 ⟨rfl, hb2⟩
          refine hK _ _ ?_
          clear hK K
          repeat (first
            | (refine wpL_p (fun K hK => ?_); go_simp; refine hK _ _ ?_; clear hK K)
            | (refine wpL_r (fun K hK => ?_); apply Exists.intro; refine ⟨fun w2 hw2 => ?_, hK _ _ ?_⟩; (have hk1 := hw2.cell; have hk3 := hw2.heap; clear hw2; go_simp; with_reducible rfl); clear hK K; simp only [Act.put, List.setIfInBounds_toArray, List.set_cons_zero, List.set_cons_succ])
            | (refine wpL_yes rfl rfl ?_)
            | (refine wpL_no rfl rfl (fun K hK => ?_); simp only [Act.put, List.setIfInBounds_toArray, List.set_cons_zero, List.set_cons_succ]; refine hK _ _ ?_; clear hK K)
            | (refine wpL_nil ?_))
          go_wp2
          go_roundw
          case rel => exact ⟨k' + 1, by omega, by go_num, HB'.out.drew.trans (hb2.mono HB'.out.size)⟩
          case measure => simp [intOf]; omega
        · go_wp2
          go_roundw
          case rel => exact ⟨k + 1, by omega, by go_num, HB2.out.trans (HB'.out.mono HB2.out.size)⟩
          case measure => simp [intOf]; omega
    · go_wp2
      go_ret
      exact ⟨rfl, HBw.out⟩
end Go.Proofs.Ytcombolmacokbaa
