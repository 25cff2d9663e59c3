/- What the program's relations of whole numbers do: Closure. Conditions: those of each theorem, as typed. -/
import Derived.Test.YtlmeblhcipkgmaaRelH
import Derived.Test.YtlmeblhcipkgmaaRelQ
import Derived.Test.YtlmeblhcipkgmaaQueue
import Derived.Deep.LoopGhost
namespace Go.Proofs.Ytlmeblhcipkgmaa
open Go.RowKit Go.Maps

theorem Rng.keep {w w' : World} {b r : Nat} {M : List (Int × Nat)} {S : Int → Bool} {cnt : Nat} (h : RngO w b r M S cnt) (hk : Keep w w') (hb : w'.heap[b]? = w.heap[b]?) : RngO w' b r M S cnt := by
  obtain ⟨s, n, c, hr⟩ := h.iter
  exact Rng.obj h hb ((hk.obj _ _ hr fun _ _ e => by cases e).trans hr.symm)
theorem OwnQ.keepC {enc : Int → Value} {e : TypeId} {w w' : World} {B : Nat} {v : Value} {l : List Int} (h : OwnQ enc e w B v l) (hk : Keep w w') : OwnQ enc e w' B v l := h.keep fun _ _ _ hh => hk.cells hh

section
variable {w : World} {lo hi p : Nat} {L : List Pr}
set_option maxHeartbeats 1000000 in
theorem rel_closure (h : RelAt w lo hi p L) (hhi : hi ≤ w.heap.size) (hA : area L ≤ 1000000) : Calls Try.prog 17 #[.pointer (some ⟨p, 0, none⟩)] w fun e w' =>
    ∃ p' C, e = .returned (.pointer (some ⟨p', 0, none⟩)) ∧ RelAt w' w.heap.size w'.heap.size p' C ∧ IsClo L C ∧ Below w.heap.size w w' := by
  have HR := hid h
  obtain ⟨b, M, h⟩ := h
  have hL : L.length ≤ 1000000 := Nat.le_trans (length_le_area h.srt) hA
  have H := hid h
  have hbw : b < w.heap.size := Nat.lt_of_lt_of_le h.hb.2 hhi
  have hpw : p < w.heap.size := Nat.lt_of_lt_of_le h.hp.2 hhi
  clear h
  go_enter Try.func17, Try.ntmps17
  go_wp2_with fail
  refine (rel_new w).mono ?_
  rintro e w1 ⟨p2, rfl, r1, b1⟩
  have R1 := hid r1
  have B1 := hid b1
  have hp2 := r1.lt
  clear r1 b1
  have hp1 := row_cell (row_below H.out.ptr B1.out hpw) 0
  have z1 := B1.out.size
  go_wp2_with (at_range; refine Stop.halt ?_)
  refine Stop.go ?_
  refine ((H.out.below B1.out hhi).out).wpList_range keyI H.out.domM H.out.srtM Try.underlying98 rfl rfl (by rfl) ?_
  intro w2 hr2 hg2 hz2
  have HB2 := hid (below_ranged B1.out hg2 z1)
  have R2 := hid ((R1.out.below (below_ranged (Below.refl w1.heap.size w1) hg2 (Nat.le_refl _)) (Nat.le_refl _)).raise (hi' := w2.heap.size) (by omega))
  have HG := hid hr2
  have hz2' : w1.heap.size + 1 ≤ w2.heap.size := by omega
  clear hr2 hg2 hz2 R1 hp1
  go_wp2_with fail
  go_frame
  go_loopg [5] M.length (fun k _ wr => ∃ S C, RngO wr b w1.heap.size M S k ∧ RelAt wr w.heap.size wr.heap.size p2 C ∧ (∀ x z, (x, z) ∈ C ↔ S x = false ∧ Tc L x z) ∧ Below w.heap.size w wr ∧ w1.heap.size + 1 ≤ wr.heap.size)
  case atStart => exact ⟨_, _, HG.out, R2.out, fun x z => by simp, HB2.out, hz2'⟩
  case round =>
    obtain ⟨S, C, hrg, hC, hm, hB, hz⟩ := hrel
    have HG := hid hrg
    have HC := hid hC
    have HM := hid hm
    have HB := hid hB
    clear hrg hC hm hB R2 HB2 hz2'
    go_wp2_with (at_next; refine Stop.halt ?_)
    refine Stop.go ?_
    refine HG.out.wpList_next keyI elem_map H.out.domM H.out.srtM rfl rfl (by rfl) ?_ ?_
    · intro hd
      have hclo : Hid (IsClo L C) := hid ⟨HC.out.srt, fun x z => by
        rw [HM.out x z]
        constructor
        · exact And.right
        · intro ht
          refine ⟨?_, ht⟩
          have : x ∈ M.map (·.1) := by rw [H.out.keys]; exact ht.ends.1
          obtain ⟨q, hq, hq2⟩ := List.mem_map.1 this
          rw [← hq2]; exact hd q hq⟩
      clear hd
      go_wp2
      go_ret
      exact ⟨p2, C, rfl, HC.out, hclo.out, HB.out⟩
    · intro x u w3 k3 hxm hS hrg3 hlt3 hg3 hz3 hen
      have HB3 := hid (below_next HB.out hg3 HB.out.size (Nat.le_of_lt_succ (by omega)))
      have HC3 := hid ((HC.out.grow hg3 fun k e => by
        cases e
        obtain ⟨s1, s2, s3, hi⟩ := HG.out.iter
        exact ⟨by omega, _, hi, fun _ _ e => by cases e⟩).raise (hi' := w3.heap.size) (by omega))
      have HG3 := hid hrg3
      have HS := hid hS
      have hxd : dI x := H.out.domM _ hxm
      have hz4 : w1.heap.size + 1 ≤ w3.heap.size := by omega
      clear hrg3 hg3 hS hxm hz3
      go_wp2_with fail
      refine (rel_behind (HR.out.below HB3.out hhi) hL x hxd).mono ?_
      rintro e w4 ⟨v4, rfl, h4, b4⟩
      have hT : (tails L).length ≤ 1000000 := Nat.le_trans (nodup_le (m := L.map (·.2)) (srt_tails L).nodup fun z hz => by
        obtain ⟨y, hy⟩ := mem_tails.1 hz
        exact List.mem_map.2 ⟨_, hy, rfl⟩) (by simpa using hL)
      have hno : ∀ z, (x, z) ∉ C := fun z hz => by have := ((HM.out x z).1 hz).1; rw [HS.out] at this; cases this
      have hrow0 : row C x = [] := by
        rw [List.eq_nil_iff_forall_not_mem]
        exact fun z hz => hno z (mem_row.1 hz)
      have q0 : QInv L C x C (row L x) := QInv.start HC.out.srt (fun a z hz => ((HM.out a z).1 hz).2) hno
      have hrl := row_tails (m := L) H.out.srt x fun z hz => mem_tails.2 ⟨x, hz⟩
      have Q4 := hid (OwnQ.of_own (fun _ => rfl) h4)
      have C4 := hid ((HC3.out.below b4 (Nat.le_refl _)).raise b4.size)
      have G4 := hid (HG3.out.below b4 HG3.out.owns.lt HG3.out.lt)
      have B4 := hid (HB3.out.trans (b4.mono HB3.out.size))
      have I4 := hid q0
      have z4 := b4.size
      have hmeas : ((tails L).length - (row C x).length) * ((tails L).length + 1) + (row L x).length ≤ ((tails L).length - (row C x).length) * ((tails L).length + 1) + (row L x).length := Nat.le_refl _
      have hq0 : (row L x).length ≤ (1 + (row C x).length) * (tails L).length := by rw [hrow0]; simpa using hrl
      have HMS := hid hmeas
      have HQ0 := hid hq0
      clear h4 b4 hno hrow0 q0 hrl hmeas hq0
      go_wp2_with fail
      go_loopg [5] (((tails L).length - (row C x).length) * ((tails L).length + 1) + (row L x).length) (fun k v wq => ∃ Cq t, OwnQ (.int .i64) 3 wq w3.heap.size v t ∧ RelAt wq w.heap.size wq.heap.size p2 Cq ∧ QInv L C x Cq t ∧ RngO wq b w1.heap.size M (fun z => S z && !(z == x)) k3 ∧
        Below w.heap.size w wq ∧ t.length ≤ (1 + (row Cq x).length) * (tails L).length ∧ ((tails L).length - (row Cq x).length) * ((tails L).length + 1) + t.length ≤ k ∧ w3.heap.size ≤ wq.heap.size)
      case atStart => exact ⟨C, row L x, Q4.out, C4.out, I4.out, G4.out, B4.out, HQ0.out, HMS.out, z4⟩
      case round =>
        obtain ⟨Cq, t, hq, hC, hI, hrg, hB, hlt, hk, hz⟩ := hrel
        have HC5 := hid hC
        have HI := hid hI
        have HG5 := hid hrg
        have HB5 := hid hB
        have HLT := hid hlt
        have HK := hid hk
        clear hC hI hrg hB hlt hk Q4 C4 I4 G4 B4 HQ0 HMS
        cases t with
        | nil =>
          obtain ⟨at', ct, rfl, -⟩ := hq.ex
          clear hq
          go_wp2_with fail
          go_roundg k3
          case measure => exact hlt3
          case rel =>
            refine ⟨_, Cq, HG5.out, HC5.out, fun a z => ?_, HB5.out, by omega⟩
            rw [HI.out.done a z]
            by_cases hax : a = x
            · subst hax; simp
            · rw [HM.out a z]
              simp [hax]
        | cons y t =>
          obtain ⟨at', ct, rfl, -⟩ := hq.ex
          obtain ⟨g, off, rfl, hn, hc1, hcm, hg0, hg1, hcell, hp3, hp4⟩ := hq.pop
          obtain ⟨y0, hy0⟩ := (HI.out.queue y (by simp)).last
          have hyd : dI y := (H.out.dom _ hy0).2
          have hCl : Cq.length ≤ 1000000 := Nat.le_trans (length_area HI.out.srt fun a z hz => (HI.out.tc a z hz).ends) hA
          have hRl := row_tails (m := L) HI.out.srt x fun z hz => (HI.out.tc x z hz).ends.2
          have hyl := row_tails (m := L) H.out.srt y fun z hz => mem_tails.2 ⟨y, hz⟩
          have HRl := hid hRl
          have HYl := hid hyl
          have hcm2 : ct ≤ 9223372036854775807 := by unfold maxLen at hcm; omega
          have HP3 := hid hp3
          have HP4 := hid hp4
          simp only [List.length_cons] at HLT HK ⊢
          clear hq hn hy0 hp3 hp4 hcm hRl hyl
          rcases (show ct = 1 ∨ 1 < ct by omega) with rfl | hlc
          · have Q5 := hid (HP4.out rfl)
            clear HP3 HP4
            go_wp2_with fail
            refine (rel_add HC5.out (Nat.le_refl _) hCl x y hxd hyd).mono ?_
            rintro e w5 ⟨rfl, r5, k5, b5⟩
            have C6 := hid r5
            have Q6 := hid (Q5.out.keepC k5)
            have B6 := hid (HB5.out.trans b5)
            have G6 := hid (Rng.keep HG5.out k5 (b5.block b hbw))
            have z6 : wr.heap.size ≤ w5.heap.size := k5.size
            clear r5 k5 b5 HC5 Q5 HB5 HG5 hcell
            by_cases hin : (x, y) ∈ Cq
            · have hd : decide ((x, y) ∉ Cq) = false := by simpa using hin
              rw [insP_of_mem HI.out.srt hin] at C6
              have HI2 := hid (HI.out.seen hin)
              rw [hd]
              clear hd hin HI
              go_wp2_with fail
              go_roundg (gk - 1)
              case measure => have := HK.out; omega
              case rel => exact ⟨Cq, t, Q6.out, C6.out, HI2.out, G6.out, B6.out, by have := HLT.out; omega, by have := HK.out; omega, by omega⟩
            · have hd : decide ((x, y) ∉ Cq) = true := by simpa using hin
              have HI2 := hid HI.out.fresh
              have hr1 : (row (insP (x, y) Cq) x).length = (row Cq x).length + 1 := by
                rw [row_insP_same HI.out.srt]
                exact length_insI_new fun h => hin (mem_row.1 h)
              have hr2 : (row Cq x).length + 1 ≤ (tails L).length := by
                rw [← hr1]
                exact row_tails HI2.out.srt x fun z hz => (HI2.out.tc x z hz).ends.2
              have e1 : (1 + ((row Cq x).length + 1)) * (tails L).length = (1 + (row Cq x).length) * (tails L).length + (tails L).length := by rw [show 1 + ((row Cq x).length + 1) = (1 + (row Cq x).length) + 1 from by omega, Nat.add_mul, Nat.one_mul]
              have e2 : ((tails L).length - (row Cq x).length) * ((tails L).length + 1) = ((tails L).length - ((row Cq x).length + 1)) * ((tails L).length + 1) + ((tails L).length + 1) := by
                rw [show (tails L).length - (row Cq x).length = ((tails L).length - ((row Cq x).length + 1)) + 1 from by omega, Nat.add_mul, Nat.one_mul]
              have hbig : (1 + (row Cq x).length) * (tails L).length ≤ 1000000 * 1000000 := Nat.mul_le_mul (by omega) hT
              have n1 : t.length + (row L y).length ≤ (1 + ((row Cq x).length + 1)) * (tails L).length := by
                have h1 := HLT.out
                have h2 := HYl.out
                rw [e1]
                omega
              have n2 : ((tails L).length - ((row Cq x).length + 1)) * ((tails L).length + 1) + (t.length + (row L y).length) < gk := by
                have h1 := HK.out
                have h2 := HYl.out
                rw [e2] at h1
                omega
              have n3 : t.length + (row L y).length ≤ 1000001000000 := by
                have h1 := HLT.out
                have h2 := HYl.out
                omega
              rw [← hr1] at n1 n2
              have N1 := hid n1
              have N2 := hid n2
              rw [hd]
              clear hd hin HI hr1 hr2 e1 e2 hbig n1 n2
              go_wp2_with fail
              refine (rel_behind (HR.out.below B6.out hhi) hL y hyd).mono ?_
              rintro e w6 ⟨v6, rfl, h6, b6⟩
              have R6 := hid h6
              have Q7 := hid (Q6.out.below b6)
              have C7 := hid ((C6.out.below b6 (Nat.le_refl _)).raise b6.size)
              have G7 := hid (G6.out.below b6 G6.out.owns.lt G6.out.lt)
              have B7 := hid (B6.out.trans (b6.mono B6.out.size))
              have z7 := b6.size
              clear h6 b6 Q6 C6 G6 B6
              go_wp2_with (at_builtin; (refine wpList_appQ rfl _ _ _ rfl _ 8 Try.underlying23 infoI rfl (fun _ => rfl) Q7.out (by omega) (f := intC) (fun _ => rfl) R6.out (by rfl) (by rfl) (by omega) (by omega) ?_); refine Stop.halt ?_)
              refine Stop.go ?_
              intro an cn wn hn Gn
              have hqb : ∀ k, (Value.slice (some ⟨g, off, none⟩) t.length 0).ownBlock = some k → k ≠ p2 ∧ ∃ o, w6.heap[k]? = some o ∧ ∀ es c, o ≠ .map es c := fun k hk => by
                obtain ⟨cs, hcs⟩ := Q7.out.obj k hk
                have := Q7.out.lt k hk
                exact ⟨by omega, _, hcs, fun _ _ e => by cases e⟩
              have C8 := hid ((C7.out.grow Gn.grown hqb).raise Gn.size)
              have G8 := hid (Rng.obj G7.out (Gn.grown.block b G7.out.owns.lt fun e => by have := Q7.out.lt b e.symm; omega) (Gn.grown.block _ G7.out.lt fun e => by
                obtain ⟨s1, s2, s3, hi⟩ := G7.out.iter
                obtain ⟨cs, hcs⟩ := Q7.out.obj _ e.symm
                rw [hi] at hcs
                cases hcs))
              have B8 := hid (B7.out.trans (Gn.below B7.out.size fun k hk => by have := (Q7.out.lt k hk).1; have := HB3.out.size; omega))
              have Q8 := hid hn
              have z8 := Gn.size
              clear hn Gn hqb Q7 C7 G7 B7 R6
              go_wp2_with fail
              go_roundg (((tails L).length - (row (insP (x, y) Cq) x).length) * ((tails L).length + 1) + (t.length + (row L y).length))
              case measure => exact N2.out
              case rel => exact ⟨_, _, Q8.out, C8.out, HI2.out, G8.out, B8.out, by rw [List.length_append]; exact N1.out, by rw [List.length_append]; exact Nat.le_refl _, by omega⟩
          · have Q5 := hid (HP3.out hlc)
            clear HP3 HP4
            go_wp2_with fail
            refine (rel_add HC5.out (Nat.le_refl _) hCl x y hxd hyd).mono ?_
            rintro e w5 ⟨rfl, r5, k5, b5⟩
            have C6 := hid r5
            have Q6 := hid (Q5.out.keepC k5)
            have B6 := hid (HB5.out.trans b5)
            have G6 := hid (Rng.keep HG5.out k5 (b5.block b hbw))
            have z6 : wr.heap.size ≤ w5.heap.size := k5.size
            clear r5 k5 b5 HC5 Q5 HB5 HG5 hcell
            by_cases hin : (x, y) ∈ Cq
            · have hd : decide ((x, y) ∉ Cq) = false := by simpa using hin
              rw [insP_of_mem HI.out.srt hin] at C6
              have HI2 := hid (HI.out.seen hin)
              rw [hd]
              clear hd hin HI
              go_wp2_with fail
              go_roundg (gk - 1)
              case measure => have := HK.out; omega
              case rel => exact ⟨Cq, t, Q6.out, C6.out, HI2.out, G6.out, B6.out, by have := HLT.out; omega, by have := HK.out; omega, by omega⟩
            · have hd : decide ((x, y) ∉ Cq) = true := by simpa using hin
              have HI2 := hid HI.out.fresh
              have hr1 : (row (insP (x, y) Cq) x).length = (row Cq x).length + 1 := by
                rw [row_insP_same HI.out.srt]
                exact length_insI_new fun h => hin (mem_row.1 h)
              have hr2 : (row Cq x).length + 1 ≤ (tails L).length := by
                rw [← hr1]
                exact row_tails HI2.out.srt x fun z hz => (HI2.out.tc x z hz).ends.2
              have e1 : (1 + ((row Cq x).length + 1)) * (tails L).length = (1 + (row Cq x).length) * (tails L).length + (tails L).length := by rw [show 1 + ((row Cq x).length + 1) = (1 + (row Cq x).length) + 1 from by omega, Nat.add_mul, Nat.one_mul]
              have e2 : ((tails L).length - (row Cq x).length) * ((tails L).length + 1) = ((tails L).length - ((row Cq x).length + 1)) * ((tails L).length + 1) + ((tails L).length + 1) := by
                rw [show (tails L).length - (row Cq x).length = ((tails L).length - ((row Cq x).length + 1)) + 1 from by omega, Nat.add_mul, Nat.one_mul]
              have hbig : (1 + (row Cq x).length) * (tails L).length ≤ 1000000 * 1000000 := Nat.mul_le_mul (by omega) hT
              have n1 : t.length + (row L y).length ≤ (1 + ((row Cq x).length + 1)) * (tails L).length := by
                have h1 := HLT.out
                have h2 := HYl.out
                rw [e1]
                omega
              have n2 : ((tails L).length - ((row Cq x).length + 1)) * ((tails L).length + 1) + (t.length + (row L y).length) < gk := by
                have h1 := HK.out
                have h2 := HYl.out
                rw [e2] at h1
                omega
              have n3 : t.length + (row L y).length ≤ 1000001000000 := by
                have h1 := HLT.out
                have h2 := HYl.out
                omega
              rw [← hr1] at n1 n2
              have N1 := hid n1
              have N2 := hid n2
              rw [hd]
              clear hd hin HI hr1 hr2 e1 e2 hbig n1 n2
              go_wp2_with fail
              refine (rel_behind (HR.out.below B6.out hhi) hL y hyd).mono ?_
              rintro e w6 ⟨v6, rfl, h6, b6⟩
              have R6 := hid h6
              have Q7 := hid (Q6.out.below b6)
              have C7 := hid ((C6.out.below b6 (Nat.le_refl _)).raise b6.size)
              have G7 := hid (G6.out.below b6 G6.out.owns.lt G6.out.lt)
              have B7 := hid (B6.out.trans (b6.mono B6.out.size))
              have z7 := b6.size
              clear h6 b6 Q6 C6 G6 B6
              go_wp2_with (at_builtin; (refine wpList_appQ rfl _ _ _ rfl _ 8 Try.underlying23 infoI rfl (fun _ => rfl) Q7.out (by omega) (f := intC) (fun _ => rfl) R6.out (by rfl) (by rfl) (by omega) (by omega) ?_); refine Stop.halt ?_)
              refine Stop.go ?_
              intro an cn wn hn Gn
              have hqb : ∀ k, (Value.slice (some ⟨g, off + 1, none⟩) t.length (ct - 1)).ownBlock = some k → k ≠ p2 ∧ ∃ o, w6.heap[k]? = some o ∧ ∀ es c, o ≠ .map es c := fun k hk => by
                obtain ⟨cs, hcs⟩ := Q7.out.obj k hk
                have := Q7.out.lt k hk
                exact ⟨by omega, _, hcs, fun _ _ e => by cases e⟩
              have C8 := hid ((C7.out.grow Gn.grown hqb).raise Gn.size)
              have G8 := hid (Rng.obj G7.out (Gn.grown.block b G7.out.owns.lt fun e => by have := Q7.out.lt b e.symm; omega) (Gn.grown.block _ G7.out.lt fun e => by
                obtain ⟨s1, s2, s3, hi⟩ := G7.out.iter
                obtain ⟨cs, hcs⟩ := Q7.out.obj _ e.symm
                rw [hi] at hcs
                cases hcs))
              have B8 := hid (B7.out.trans (Gn.below B7.out.size fun k hk => by have := (Q7.out.lt k hk).1; have := HB3.out.size; omega))
              have Q8 := hid hn
              have z8 := Gn.size
              clear hn Gn hqb Q7 C7 G7 B7 R6
              go_wp2_with fail
              go_roundg (((tails L).length - (row (insP (x, y) Cq) x).length) * ((tails L).length + 1) + (t.length + (row L y).length))
              case measure => exact N2.out
              case rel => exact ⟨_, _, Q8.out, C8.out, HI2.out, G8.out, B8.out, by rw [List.length_append]; exact N1.out, by rw [List.length_append]; exact Nat.le_refl _, by omega⟩
end
end Go.Proofs.Ytlmeblhcipkgmaa
