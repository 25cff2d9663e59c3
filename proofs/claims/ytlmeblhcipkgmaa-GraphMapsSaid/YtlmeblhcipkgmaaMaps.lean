/- The law that maps graphs. Conditions: those of each theorem, as typed. -/
import Derived.Test.YtlmeblhcipkgmaaGrJ
import Derived.Test.YtlmeblhcipkgmaaGsC
import Derived.Test.YtlmeblhcipkgmaaGsN
import Derived.Test.YtlmeblhcipkgmaaGmF
namespace Go.Proofs.Ytlmeblhcipkgmaa
open Go.RowKit Go.Maps
set_option linter.unusedVariables false
set_option linter.unusedSimpArgs false
attribute [local irreducible] wpL

theorem Sl.otherB {w : World} {B sz n g j : Nat} {v u : Value} {xs : List Value} (h : Sl w B sz v n xs) (hne : v.ownBlock ≠ some g) : Sl (w.setCell ⟨g, j, none⟩ u) B sz v n xs := by
  obtain ⟨a, cap, rfl, h1, h2, h3⟩ := h
  refine ⟨a, cap, rfl, h1, h2, fun h0 => ?_⟩
  obtain ⟨b, off, rfl, hb, hc⟩ := h3 h0
  refine ⟨b, off, rfl, hb, fun i x hx => ?_⟩
  have := hc i x hx
  rw [← this]
  have hb2 : (w.setCell ⟨g, j, none⟩ u).heap[b]? = w.heap[b]? := Below.heap_setCell w ⟨g, j, none⟩ u b fun e => hne (by rw [show b = g from e]; rfl)
  simp only [World.cell?, hb2]
/-- A block of one cell holds no triples. -/
theorem LT.one {w : World} {v x : Value} {l : List Tr} {k : Nat} {t : TypeId} (h : LT w v l) (hk : w.heap[k]? = some (.cells #[x] t (0, 0))) (u : Value) : LT (w.setCell ⟨k, 0, none⟩ u) v l := by
  obtain ⟨a, cap, rfl, h1, h2, h3⟩ := id h
  by_cases h0 : l.length = 0
  · unfold LT
    rw [World.size_setCell]
    exact ⟨a, cap, rfl, h1, h2, fun h => absurd h (by omega)⟩
  · obtain ⟨b, off, rfl, hb, hc⟩ := h3 (by omega)
    have hbk : b ≠ k := by
      rintro rfl
      cases l with
      | nil => simp at h0
      | cons e l =>
        have := hc 1 (.int .i64 e.2.1) (by simp [trC])
        rw [row_cell hk] at this
        have := (Array.getElem?_eq_some_iff.1 this).1
        simp at this
    unfold LT
    rw [World.size_setCell]
    exact Sl.otherB h fun e => hbk (by simpa [Value.ownBlock] using e)
theorem RG.by {w : World} {vn ve x : Value} {N : List Int} {E : List Tr} {k B : Nat} {t : TypeId} (h : RG w vn ve N E) (hk : w.heap[k]? = some (.cells #[x] t (0, 0))) (hf : Frs B vn) (hB : k < B) (u : Value) : RG (w.setCell ⟨k, 0, none⟩ u) vn ve N E := by
  refine ⟨?_, LT.one h.e hk u⟩
  unfold LI
  rw [World.size_setCell]
  exact Sl.otherB h.n fun e => by have := hf k e; omega
/-- A graph of the document's, below a block. -/
structure RK (w : World) (K : Nat) (vn ve : Value) (N : List Int) (E : List Tr) : Prop where
  n : Sl w K 1 vn N.length (N.flatMap intC)
  e : Sl w K 3 ve E.length (E.flatMap trC)
theorem RK.of {w : World} {vn ve : Value} {N : List Int} {E : List Tr} (h : RG w vn ve N E) : RK w w.heap.size vn ve N E := ⟨h.n, h.e⟩
theorem RK.below {w w' : World} {K K' : Nat} {vn ve : Value} {N : List Int} {E : List Tr} (h : RK w K vn ve N E) (hb : Below K' w w') (hK : K ≤ K') : RK w' K vn ve N E := ⟨h.n.below (hb.mono hK), h.e.below (hb.mono hK)⟩
theorem RK.rg {w : World} {K : Nat} {vn ve : Value} {N : List Int} {E : List Tr} (h : RK w K vn ve N E) (hK : K ≤ w.heap.size) : RG w vn ve N E := ⟨h.n.more hK, h.e.more hK⟩
theorem ba_loopM (s : ByteArray) : ∀ (n i : Nat) (r : List UInt8), s.size - i = n → ByteArray.toList.loop s i r = r.reverse ++ s.data.toList.drop i
  | 0, i, r, h => by
    unfold ByteArray.toList.loop
    have h1 : s.size = s.data.size := rfl
    rw [if_neg (by omega), List.drop_eq_nil_of_le (by simp; omega)]
    simp
  | n + 1, i, r, h => by
    unfold ByteArray.toList.loop
    have h1 : s.size = s.data.size := rfl
    rw [if_pos (by omega), ba_loopM s n (i + 1) _ (by omega)]
    have hi : i < s.data.toList.length := by simp; omega
    rw [List.drop_eq_getElem_cons hi]
    have : s.get! i = s.data.toList[i] := by
      show s.data[i]! = _
      rw [getElem!_pos s.data i (by simpa using hi)]
      simp
    simp [this]
theorem ba_toListM (s : ByteArray) : s.toList = s.data.toList := by
  unfold ByteArray.toList
  rw [ba_loopM s _ 0 [] rfl]
  simp

theorem letters_less : ∀ i j : Fin 8, Op.bytesLess (nm ((i.val : Int) - 8)) (nm ((j.val : Int) - 8)) = decide (i.val < j.val) := by decide +kernel
theorem geq_letters {x y : Int} (h : letter y < letter x) (w : World) : (binOp .geq 9 (nmV (letter y)) (nmV (letter x))).run Try.prog w = .ok (.bool false) w := by
  have hi : ∀ z : Int, ∃ i : Fin 8, letter z = (i.val : Int) - 8 := fun z => ⟨⟨(z % 8).toNat, by omega⟩, by unfold letter; simp only; omega⟩
  obtain ⟨i, ei⟩ := hi y
  obtain ⟨j, ej⟩ := hi x
  have hl : Op.bytesLess (nmB (letter y)).toList (nmB (letter x)).toList = true := by
    rw [ba_toListM, ba_toListM]
    unfold nmB
    simp only
    rw [ei, ej, letters_less]
    simp
    omega
  unfold nmV binOp Op.stringOp
  simp only
  rw [hl]
  rfl
theorem letter_one (x : Int) : (nmB (letter x)).size = 1 := by
  have h8 : letter x < 0 := by unfold letter; omega
  unfold nmB nm
  rw [if_pos h8]
  rfl
/-- The nodes of a graph of letters are letters. -/
theorem gM_mem {q : Int → Int} {N : List Int} {E : List Tr} {x : Int} (h : x ∈ (gM q N E).1) : ∃ y, x = q y := by
  have h1 : ∀ (l : List Int) (M : List Int), (∀ x ∈ M, ∃ y, x = q y) → ∀ x ∈ gN M (l.map q), ∃ y, x = q y := by
    intro l
    induction l with
    | nil => exact fun M h => h
    | cons a l ih =>
      intro M hM x hx
      refine ih (insI (q a) M) (fun z hz => ?_) x hx
      rcases mem_insI.1 hz with rfl | hz
      · exact ⟨a, rfl⟩
      · exact hM z hz
  have h2 : ∀ (l : List Tr) (g : List Int × List Tr), (∀ x ∈ g.1, ∃ y, x = q y) → ∀ x ∈ (l.foldl (gMs q) g).1, ∃ y, x = q y := by
    intro l
    induction l with
    | nil => exact fun g h => h
    | cons e l ih =>
      intro g hg x hx
      refine ih (gMs q g e) (fun z hz => ?_) x hx
      unfold gMs at hz
      rcases mem_insI.1 hz with rfl | hz
      · exact ⟨_, rfl⟩
      · rcases mem_insI.1 hz with rfl | hz
        · exact ⟨_, rfl⟩
        · exact hg z hz
  exact h2 E _ (h1 N [] (by simp)) x h

section
variable {w : World} {vd vi : Value}
set_option maxRecDepth 100000 in
set_option maxHeartbeats 4000000 in
theorem law_maps {l : List Tr} {nd : List Int} {n m B : Nat} (h : Sl w B 3 vd n (l.flatMap trC)) (hn : l.length = n) (hB : B ≤ w.heap.size) (hi : Sl w B 1 vi m (nd.flatMap intC)) (hm : nd.length = m) (hd : ∀ x ∈ l, dI x.1 ∧ dI x.2.1 ∧ dI x.2.2) (hdi : ∀ x ∈ nd, dI x) (c : Int) (hc : dI c) :
    Calls Try.prog 13 #[vd, vi, .int .i64 c] w fun e w' => e = .returned (.bool true) ∧ Below w.heap.size w w' := by
  obtain ⟨al, cl, rfl, hal⟩ := h.ex
  obtain ⟨ai, ci, rfl, hai⟩ := hi.ex
  have H := hid h
  have HI := hid hi
  have HN := hid hn
  have HM := hid hm
  have HD := hid hd
  have HDI := hid hdi
  have HB := hid hB
  clear h hi hn hm hd hdi
  go_enter Try.func13, Try.ntmps13
  go_wp2_with fail
  refine (gr_first _).mono ?_
  rintro e w0 ⟨rfl, b0⟩
  have ba := (Below.refl w.heap.size w).alloc (Nat.le_refl _) (.cells #[.int .i64 c] 3)
  have B0 := hid (ba.trans (b0.mono (by simp)))
  have C0 := hid (row_below (row_new w (.cells #[.int .i64 c] 3)) b0 (by simp))
  have z0 : w.heap.size + 1 ≤ w0.heap.size := by have := b0.size; rw [World.size_alloc] at this; exact this
  have hB0 : B ≤ w0.heap.size := by omega
  clear b0 ba
  by_cases hn1 : n ≤ 40
  · by_cases hm1 : m ≤ 40
    · go_wp2_with fail
      refine (gr_madeF (H.out.below (B0.out.mono HB.out)) HN.out hB0 (HI.out.below (B0.out.mono HB.out)) HM.out HD.out HDI.out (by omega) (by omega)).mono ?_
      rintro e w1 ⟨p, vn, ve, rfl, g1, q1, fr1, b1⟩
      have HOK := hid (gN_ok nd (gE_ok l))
      have hL1 := gE_len l
      have hL2 := gN_len (gE l).1 nd
      rw [HN.out] at hL1
      rw [HM.out] at hL2
      obtain ⟨an, cn, rfl, -⟩ := Sl.ex q1.n
      obtain ⟨ae, ce, rfl, -⟩ := Sl.ex q1.e
      generalize gN (gE l).1 nd = N at *
      generalize (gE l).2 = E at *
      have hN9 : N.length ≤ 200 := by omega
      have hE9 : E.length ≤ 40 := by omega
      have z1 : w0.heap.size ≤ w1.heap.size := b1.size
      have B1 := hid (B0.out.trans (b1.mono (by omega)))
      have G1 := hid g1
      have HDN := hid g1.domN
      have Q1 := hid q1
      have C1 := hid (row_below C0.out b1 (by omega))
      have FR := hid fr1
      clear g1 q1 b1 hL1 hL2 B0 fr1 C0
      generalize hnl : N.length = nl at *
      generalize hel : E.length = el at *
      have HNL := hid hnl
      have HEL := hid hel
      clear hnl hel
      have ck : w1.cell? ⟨w.heap.size, 0, none⟩ = some (.int .i64 c) := row_cell C1.out 0
      have cf : w1.frozen? ⟨w.heap.size, 0, none⟩ = false := row_free C1.out 0
      have ckl : w.heap.size < w1.heap.size := by omega
      obtain ⟨r, hr⟩ : ∃ r, r = c % 8 := ⟨_, rfl⟩
      have h7 : bits .and .i64 c 7 = r := by rw [hr]; exact and7 c
      have hr0 : 0 ≤ r ∧ r ≤ 7 := by omega
      obtain ⟨d, hd⟩ : ∃ d, d = r + 1 := ⟨_, rfl⟩
      have hrw : wrap64 (r + 1) = d := by rw [hd]; exact IntWalk.wrap64_in _ (by omega)
      have hd8 : 1 ≤ d ∧ d ≤ 8 := by omega
      clear hr hd hr0
      go_wp2_with fail
      obtain ⟨WS, hWS⟩ : ∃ WS, WS = w1.setCell ⟨w.heap.size, 0, none⟩ (.int .i64 d) := ⟨_, rfl⟩
      have zS : WS.heap.size = w1.heap.size := by rw [hWS]; exact World.size_setCell ..
      have gS : GrAt WS w0.heap.size w1.heap.size p N E := G1.out.from2 fun i h1 h2 => by rw [hWS]; exact Below.heap_setCell w1 ⟨w.heap.size, 0, none⟩ _ i (by show i ≠ w.heap.size; omega)
      have qS : RG WS (.slice an nl cn) (.slice ae el ce) N E := by rw [hWS]; exact Q1.out.by C1.out FR.out (by omega) _
      have cS : WS.heap[w.heap.size]? = some (.cells #[.int .i64 d] 3 (0, 0)) := by rw [hWS]; exact row_set C1.out 0 _
      have bS : Below w.heap.size w WS := by rw [hWS]; exact B1.out.setCell (p := ⟨w.heap.size, 0, none⟩) (Nat.le_refl _) _
      rw [← hWS]
      have e2 : Below WS.heap.size WS (WS.alloc (.cells #[.slice an nl cn, .slice ae el ce] 63)) := (Below.refl WS.heap.size WS).alloc (Nat.le_refl _) _
      have e4 : Below WS.heap.size WS ((WS.alloc (.cells #[.slice an nl cn, .slice ae el ce] 63)).alloc (.cells #[.slice none 0 0] 23)) := e2.alloc (by simp) _
      have rH := row_old (o := .cells #[.slice none 0 0] 23) (row_new' (w := WS) (o := .cells #[.slice an nl cn, .slice ae el ce] 63) (g := w1.heap.size) zS.symm)
      have rA := row_new' (w := WS.alloc (.cells #[.slice an nl cn, .slice ae el ce] 63)) (o := .cells #[.slice none 0 0] 23) (g := w1.heap.size + 1) (by simp [zS])
      obtain ⟨w4, hw4⟩ : ∃ w4, w4 = (WS.alloc (.cells #[.slice an nl cn, .slice ae el ce] 63)).alloc (.cells #[.slice none 0 0] 23) := ⟨_, rfl⟩
      have z4 : w1.heap.size + 2 = w4.heap.size := by rw [hw4, World.size_alloc, World.size_alloc, zS]
      have z4' : w1.heap.size + 2 ≤ w4.heap.size := Nat.le_of_eq z4
      rw [← hw4] at e4 rH rA ⊢
      have G4 := hid ((gS.below e4 (by omega)).raise (hi' := w1.heap.size + 1) (by omega))
      have Q4 := hid ((RK.of qS).below e4 (Nat.le_refl _))
      rw [zS] at Q4
      have RH4 := hid rH
      have AK4 := hid (show Ask w4 (w1.heap.size + 1) w.heap.size w4.heap.size d (.slice none 0 0) [] from ⟨OwnF.nil _ _, rA, row_below cS e4 (by omega)⟩)
      have B4 := hid (bS.trans (e4.mono (by omega)))
      clear hWS zS gS qS cS bS e2 e4 rH rA hw4 G1 Q1 C1 B1 FR ck cf
      refine (gr_mapF G4.out (Nat.le_refl _) (by rw [HNL.out]; omega) (by rw [HEL.out]; omega) (by omega) (by omega) hd8 AK4.out).mono ?_
      rintro e w5 ⟨p5, v5, rfl, g5, ak5, b5⟩
      have hqd : ∀ x, dI x → dI (x.tdiv d) := fun x hx => (tdiv_dom hx hd8).1
      have hqw : ∀ x, dI x → IntKind.i64.wrap (x.tdiv d) = x.tdiv d := fun x hx => (IntWalk.i64_left _).trans (tdiv_dom hx hd8).2
      have HQD := hid hqd
      have HQW := hid hqw
      have hd0 : d ≠ 0 := by omega
      have hd0' : (d == 0) = false := by simpa using hd0
      have M5 := hid g5
      have AK5 := hid ak5
      have G5 := hid (G4.out.below b5 (Nat.le_refl _))
      have Q5 := hid (Q4.out.below b5 (by omega))
      have RH5 := hid (row_below RH4.out b5 (by omega))
      have B5 := hid (B4.out.trans (b5.mono (by omega)))
      have z5 : w4.heap.size ≤ w5.heap.size := b5.size
      have z51 : w1.heap.size + 2 ≤ w5.heap.size := by omega
      clear hqd hqw g5 ak5 b5 G4 Q4 RH4 AK4 B4
      go_wp2_with fail
      have PW := hid (RG.nil (w5.alloc (.cells #[.slice none 0 0, .slice none 0 0] 63)))
      have RW := hid (row_new w5 (.cells #[.slice none 0 0, .slice none 0 0] 63))
      have BW := hid ((Below.refl w5.heap.size w5).alloc (Nat.le_refl _) (.cells #[.slice none 0 0, .slice none 0 0] 63))
      go_loopw [13] (fun i wr => ∃ (j : Nat) (vn ve : Value), j ≤ nl ∧ i = .int .i64 j ∧ wr.heap[w5.heap.size]? = some (.cells #[vn, ve] 63 (0, 0)) ∧ RG wr vn ve (gN [] ((N.take j).map fun x => x.tdiv d)) [] ∧ Below w5.heap.size w5 wr) (fun i _ => nl - (intOf i).toNat)
      case atStart => exact ⟨0, _, _, by omega, by go_num, RW.out, PW.out, BW.out⟩
      case round =>
        obtain ⟨j, vn, ve, hj, rfl, hrw', hP, hB'⟩ := hrel
        have RW := hid hrw'
        have PW := hid hP
        have BW := hid hB'
        have zr := hB'.size
        have hwl := row_lt hrw'
        obtain ⟨avn, cvn, hvn, -⟩ := Sl.ex hP.n
        obtain ⟨ave, cve, hve, -⟩ := Sl.ex hP.e
        subst hvn hve
        have hL := gN_len [] ((N.take j).map fun x => x.tdiv d)
        rw [List.length_map, List.length_take, HNL.out] at hL
        simp only [List.length_nil] at hL
        have hL9 : (gN [] ((N.take j).map fun x => x.tdiv d)).length ≤ 1000 := by omega
        have HSN := hid (gN_snoc [] ((N.take j).map fun x => x.tdiv d))
        have HOKW := hid (gN_ok ((N.take j).map fun x => x.tdiv d) GrOk.nil)
        have ra := row_cell (row_below RH5.out hB' (by omega))
        have d0 : wr.cell? ⟨w1.heap.size, 0, none⟩ = some (.slice an nl cn) := ra 0
        have d1 : wr.cell? ⟨w1.heap.size, 1, none⟩ = some (.slice ae el ce) := ra 1
        have dk : wr.cell? ⟨w.heap.size, 0, none⟩ = some (.int .i64 d) := row_cell (row_below AK5.out.rb hB' (by omega)) 0
        have k0 : wr.cell? ⟨w5.heap.size, 0, none⟩ = some (.slice avn (gN [] ((N.take j).map fun x => x.tdiv d)).length cvn) := row_cell hrw' 0
        have k1 : wr.cell? ⟨w5.heap.size, 1, none⟩ = some (.slice ave ([] : List Tr).length cve) := row_cell hrw' 1
        clear hrw' hP hB' hL ra
        by_cases hlt : j < nl
        · obtain ⟨b, off, x, rfl, hb, hx, c1⟩ := (show Sl wr w1.heap.size 1 (.slice an nl cn) nl (N.flatMap intC) by have h := (Q5.out.below BW.out (by omega)).n; rw [HNL.out] at h; exact h).ints hlt HNL.out
          have hxd := HDN.out x (List.mem_of_getElem? hx)
          have hxw := HQW.out x hxd
          have HT := hid (mapq_step (q := fun x => x.tdiv d) (take_step hx))
          clear hx
          generalize gN [] ((N.take j).map fun x => x.tdiv d) = NW at *
          go_wp2
          refine wp_region_x [1, 0, 1, 0, 0, 1, 1, 0, 2, 2] [0, 1, 2, 3, 4, 5, 6, 7, 8, 9] (by kernel_rfl) (by kernel_rfl) rfl (by kernel_rfl) ?_
          simp only [selX, guardAt, List.getElem?_cons_zero, List.getElem?_cons_succ, List.getD_cons_zero, List.getD_cons_succ]
          repeat (first
            | (refine wpL_p (fun K hK => ?_); go_simp; refine hK _ _ ?_; clear hK K)
            | (refine wpL_r (fun K hK => ?_); apply Exists.intro; refine ⟨fun w2 hw2 => ?_, hK _ _ ?_⟩; (have hk1 := hw2.cell; have hk3 := hw2.heap; clear hw2; go_simp; with_reducible rfl); clear hK K; simp only [Act.put, List.setIfInBounds_toArray, List.set_cons_zero, List.set_cons_succ])
            | (refine wpL_yes rfl rfl ?_)
            | (refine wpL_no rfl rfl (fun K hK => ?_); simp only [Act.put, List.setIfInBounds_toArray, List.set_cons_zero, List.set_cons_succ]; refine hK _ _ ?_; clear hK K)
            | (refine wpL_nil ?_))
          refine wpL_e (fun K hK => ?_)
          go_simp
          refine (rg_node (vn := .slice avn NW.length cvn) (ve := .slice ave 0 cve) (show RG wr.drew _ _ NW [] from ⟨PW.out.n, PW.out.e⟩) HOKW.out.srtN (by omega) (x.tdiv d)).mono ?_
          rintro e w7 ⟨vn7, rfl, g7, b7⟩
          refine hK _ _ ?_
          clear hK K
          obtain ⟨a7, c7, rfl, hm7⟩ := Sl.ex g7.n
          have r7 := row_below (show wr.drew.heap[w5.heap.size]? = _ from RW.out) b7 (by show _ < wr.heap.size; omega)
          have e0 : w7.cell? ⟨w5.heap.size, 0, none⟩ = some (.slice avn NW.length cvn) := row_cell r7 0
          have e1 : w7.cell? ⟨w5.heap.size, 1, none⟩ = some (.slice ave 0 cve) := row_cell r7 1
          have f1 : ∀ j, w7.frozen? ⟨w5.heap.size, j, none⟩ = false := fun j => row_free r7 j
          have e1' : (w7.setCell ⟨w5.heap.size, 0, none⟩ (.slice a7 (insI (x.tdiv d) NW).length c7)).cell? ⟨w5.heap.size, 1, none⟩ = some (.slice ave 0 cve) := (World.cell?_setCell_other _ _ _ _ (by simp)).trans e1
          have P7 := hid ((g7.set e0 (.slice a7 (insI (x.tdiv d) NW).length c7)).set e1' (.slice ave 0 cve))
          have R7 := hid (row_set (row_set r7 0 (.slice a7 (insI (x.tdiv d) NW).length c7)) 1 (.slice ave 0 cve))
          have B7 := hid (((BW.out.drew.trans (b7.mono (by show _ ≤ wr.heap.size; omega))).setCell (p := ⟨w5.heap.size, 0, none⟩) (Nat.le_refl _) (.slice a7 (insI (x.tdiv d) NW).length c7)).setCell (p := ⟨w5.heap.size, 1, none⟩) (Nat.le_refl _) (.slice ave 0 cve))
          clear g7 b7 r7 e1' PW RW BW
          repeat (first
            | (refine wpL_p (fun K hK => ?_); go_simp; refine hK _ _ ?_; clear hK K)
            | (refine wpL_r (fun K hK => ?_); apply Exists.intro; refine ⟨fun w2 hw2 => ?_, hK _ _ ?_⟩; (have hk1 := hw2.cell; have hk3 := hw2.heap; clear hw2; go_simp; with_reducible rfl); clear hK K; simp only [Act.put, List.setIfInBounds_toArray, List.set_cons_zero, List.set_cons_succ])
            | (refine wpL_yes rfl rfl ?_)
            | (refine wpL_no rfl rfl (fun K hK => ?_); simp only [Act.put, List.setIfInBounds_toArray, List.set_cons_zero, List.set_cons_succ]; refine hK _ _ ?_; clear hK K)
            | (refine wpL_nil ?_))
          refine wpL_e (fun K hK => ?_)
          go_simp
          refine hK _ _ ?_
          clear hK K e0 e1 f1
          repeat (first
            | (refine wpL_p (fun K hK => ?_); go_simp; refine hK _ _ ?_; clear hK K)
            | (refine wpL_r (fun K hK => ?_); apply Exists.intro; refine ⟨fun w2 hw2 => ?_, hK _ _ ?_⟩; (have hk1 := hw2.cell; have hk3 := hw2.heap; clear hw2; go_simp; with_reducible rfl); clear hK K; simp only [Act.put, List.setIfInBounds_toArray, List.set_cons_zero, List.set_cons_succ])
            | (refine wpL_yes rfl rfl ?_)
            | (refine wpL_no rfl rfl (fun K hK => ?_); simp only [Act.put, List.setIfInBounds_toArray, List.set_cons_zero, List.set_cons_succ]; refine hK _ _ ?_; clear hK K)
            | (refine wpL_nil ?_))
          go_wp2_with fail
          go_roundw
          case rel => exact ⟨j + 1, _, _, by omega, by go_num, R7.out, by rw [HT.out, HSN.out]; exact P7.out, B7.out⟩
          case measure => simp [intOf]; omega
        · obtain rfl : j = nl := by omega
          have HTA := hid (show N.take j = N by rw [← HNL.out, List.take_length])
          rw [HTA.out] at RW PW k0
          have PW := hid (show RG wr (.slice avn (gN [] (N.map fun x => x.tdiv d)).length cvn) (.slice ave 0 cve) (gM (fun x => x.tdiv d) N (E.take 0)).1 (gM (fun x => x.tdiv d) N (E.take 0)).2 from PW.out)
          obtain ⟨W6, rfl⟩ : ∃ W6, W6 = wr := ⟨_, rfl⟩
          clear HSN HOKW HTA hL9 k0 k1 dk
          go_wp2_with fail
          clear d0 d1
          go_loopw [14] (fun i wr => ∃ (u : Nat) (vn ve : Value), u ≤ el ∧ i = .int .i64 u ∧ wr.heap[w5.heap.size]? = some (.cells #[vn, ve] 63 (0, 0)) ∧ RG wr vn ve (gM (fun x => x.tdiv d) N (E.take u)).1 (gM (fun x => x.tdiv d) N (E.take u)).2 ∧ Below w5.heap.size w5 wr) (fun i _ => el - (intOf i).toNat)
          case atStart => exact ⟨0, _, _, by omega, by go_num, RW.out, PW.out, BW.out⟩
          case round =>
            clear RW PW BW zr hwl
            obtain ⟨u, vn, ve, hu, rfl, hrw', hP, hB'⟩ := hrel
            have RW := hid hrw'
            have PW := hid hP
            have BW := hid hB'
            have zr := hB'.size
            have hwl := row_lt hrw'
            obtain ⟨avn, cvn, hvn, -⟩ := Sl.ex hP.n
            obtain ⟨ave, cve, hve, -⟩ := Sl.ex hP.e
            subst hvn hve
            have hL := gM_len (fun x => x.tdiv d) N (E.take u)
            rw [List.length_take, HEL.out, HNL.out] at hL
            have HSN := hid (gM_snoc (fun x => x.tdiv d) N (E.take u))
            have HOKW := hid (gM_ok (fun x => x.tdiv d) N (E.take u))
            have hTA : u = el → E.take u = E := fun e => by rw [e, ← HEL.out, List.take_length]
            have HTA := hid hTA
            have HGG : Hid (gM (fun x => x.tdiv d) N (E.take u) = gM (fun x => x.tdiv d) N (E.take u)) := hid rfl
            generalize hGG : gM (fun x => x.tdiv d) N (E.take u) = GG at *
            obtain ⟨NW, EW⟩ := GG
            have HGM := hid hGG
            simp only at hL
            have hN10 : NW.length ≤ 1000 := by omega
            have hE10 : EW.length ≤ 1000 := by omega
            have ra := row_cell (row_below RH5.out hB' (by omega))
            have d0 : wr.cell? ⟨w1.heap.size, 0, none⟩ = some (.slice an j cn) := ra 0
            have d1 : wr.cell? ⟨w1.heap.size, 1, none⟩ = some (.slice ae el ce) := ra 1
            have dk : wr.cell? ⟨w.heap.size, 0, none⟩ = some (.int .i64 d) := row_cell (row_below AK5.out.rb hB' (by omega)) 0
            have k0 : wr.cell? ⟨w5.heap.size, 0, none⟩ = some (.slice avn NW.length cvn) := row_cell hrw' 0
            have k1 : wr.cell? ⟨w5.heap.size, 1, none⟩ = some (.slice ave EW.length cve) := row_cell hrw' 1
            clear hrw' hP hB' hL ra hGG HGG hTA
            by_cases hlt : u < el
            · obtain ⟨b, off, x, rfl, hb, hx, c1, c2, c3⟩ := (show Sl wr w1.heap.size 3 (.slice ae el ce) el (E.flatMap trC) by have h := (Q5.out.below BW.out (by omega)).e; rw [HEL.out] at h; exact h).trs hlt HEL.out
              have hxE := List.mem_of_getElem? hx
              have hxd1 := HDN.out x.1 (HOK.out.sub x hxE).1
              have hxd2 := HDN.out x.2.1 (HOK.out.sub x hxE).2
              have hxw1 := HQW.out x.1 hxd1
              have hxw2 := HQW.out x.2.1 hxd2
              have HT := hid (take_step hx)
              clear hx hxE
              go_wp2
              refine wp_region_x [1, 0, 1, 0, 0, 0, 1, 1, 0, 0, 1, 0, 0, 0, 1, 1, 0, 0, 1, 0, 0, 0, 1, 2, 2] [0, 1, 2, 3, 4, 5, 6, 7, 8, 9, 10, 11, 12, 13, 14, 15, 16, 17, 18, 19, 20, 21, 22, 23, 24] (by kernel_rfl) (by kernel_rfl) rfl (by kernel_rfl) ?_
              simp only [selX, guardAt, List.getElem?_cons_zero, List.getElem?_cons_succ, List.getD_cons_zero, List.getD_cons_succ]
              repeat (first
                | (refine wpL_p (fun K hK => ?_); go_simp; refine hK _ _ ?_; clear hK K)
                | (refine wpL_r (fun K hK => ?_); apply Exists.intro; refine ⟨fun w2 hw2 => ?_, hK _ _ ?_⟩; (have hk1 := hw2.cell; have hk3 := hw2.heap; clear hw2; go_simp; with_reducible rfl); clear hK K; simp only [Act.put, List.setIfInBounds_toArray, List.set_cons_zero, List.set_cons_succ])
                | (refine wpL_yes rfl rfl ?_)
                | (refine wpL_no rfl rfl (fun K hK => ?_); simp only [Act.put, List.setIfInBounds_toArray, List.set_cons_zero, List.set_cons_succ]; refine hK _ _ ?_; clear hK K)
                | (refine wpL_nil ?_))
              refine wpL_e (fun K hK => ?_)
              go_simp
              refine (rg_edge (vn := .slice avn NW.length cvn) (ve := .slice ave EW.length cve) (show RG wr.drew _ _ NW EW from ⟨PW.out.n, PW.out.e⟩) HOKW.out (by omega) (by omega) (x.1.tdiv d) (x.2.1.tdiv d) x.2.2).mono ?_
              rintro e w7 ⟨vn7, ve7, rfl, g7, b7⟩
              refine hK _ _ ?_
              clear hK K
              obtain ⟨a7, c7, rfl, hm7⟩ := Sl.ex g7.n
              obtain ⟨a8, c8, rfl, hm8⟩ := Sl.ex g7.e
              have r7 := row_below (show wr.drew.heap[w5.heap.size]? = _ from RW.out) b7 (by show _ < wr.heap.size; omega)
              have e0 : w7.cell? ⟨w5.heap.size, 0, none⟩ = some (.slice avn NW.length cvn) := row_cell r7 0
              have e1 : w7.cell? ⟨w5.heap.size, 1, none⟩ = some (.slice ave EW.length cve) := row_cell r7 1
              have f1 : ∀ j, w7.frozen? ⟨w5.heap.size, j, none⟩ = false := fun j => row_free r7 j
              have HGS := hid (show gMs (fun x => x.tdiv d) (NW, EW) x = (insI (x.2.1.tdiv d) (insI (x.1.tdiv d) NW), insT (x.1.tdiv d, x.2.1.tdiv d, x.2.2) EW) from rfl)
              generalize insI (x.2.1.tdiv d) (insI (x.1.tdiv d) NW) = NX at *
              generalize insT (x.1.tdiv d, x.2.1.tdiv d, x.2.2) EW = EX at *
              have e1' : (w7.setCell ⟨w5.heap.size, 0, none⟩ (.slice a7 NX.length c7)).cell? ⟨w5.heap.size, 1, none⟩ = some (.slice ave EW.length cve) := (World.cell?_setCell_other _ _ _ _ (by simp)).trans e1
              have P7 := hid ((g7.set e0 (.slice a7 NX.length c7)).set e1' (.slice a8 EX.length c8))
              have R7 := hid (row_set (row_set r7 0 (.slice a7 NX.length c7)) 1 (.slice a8 EX.length c8))
              have B7 := hid (((BW.out.drew.trans (b7.mono (by show _ ≤ wr.heap.size; omega))).setCell (p := ⟨w5.heap.size, 0, none⟩) (Nat.le_refl _) (.slice a7 NX.length c7)).setCell (p := ⟨w5.heap.size, 1, none⟩) (Nat.le_refl _) (.slice a8 EX.length c8))
              clear g7 b7 r7 e1' PW RW BW
              repeat (first
                | (refine wpL_p (fun K hK => ?_); go_simp; refine hK _ _ ?_; clear hK K)
                | (refine wpL_r (fun K hK => ?_); apply Exists.intro; refine ⟨fun w2 hw2 => ?_, hK _ _ ?_⟩; (have hk1 := hw2.cell; have hk3 := hw2.heap; clear hw2; go_simp; with_reducible rfl); clear hK K; simp only [Act.put, List.setIfInBounds_toArray, List.set_cons_zero, List.set_cons_succ])
                | (refine wpL_yes rfl rfl ?_)
                | (refine wpL_no rfl rfl (fun K hK => ?_); simp only [Act.put, List.setIfInBounds_toArray, List.set_cons_zero, List.set_cons_succ]; refine hK _ _ ?_; clear hK K)
                | (refine wpL_nil ?_))
              refine wpL_e (fun K hK => ?_)
              go_simp
              refine hK _ _ ?_
              clear hK K e0 e1 f1
              repeat (first
                | (refine wpL_p (fun K hK => ?_); go_simp; refine hK _ _ ?_; clear hK K)
                | (refine wpL_r (fun K hK => ?_); apply Exists.intro; refine ⟨fun w2 hw2 => ?_, hK _ _ ?_⟩; (have hk1 := hw2.cell; have hk3 := hw2.heap; clear hw2; go_simp; with_reducible rfl); clear hK K; simp only [Act.put, List.setIfInBounds_toArray, List.set_cons_zero, List.set_cons_succ])
                | (refine wpL_yes rfl rfl ?_)
                | (refine wpL_no rfl rfl (fun K hK => ?_); simp only [Act.put, List.setIfInBounds_toArray, List.set_cons_zero, List.set_cons_succ]; refine hK _ _ ?_; clear hK K)
                | (refine wpL_nil ?_))
              go_wp2_with fail
              go_roundw
              case rel => exact ⟨u + 1, _, _, by omega, by go_num, R7.out, by rw [HT.out, HSN.out, HGS.out]; exact P7.out, B7.out⟩
              case measure => simp [intOf]; omega
            · obtain rfl : u = el := by omega
              have HGM2 : Hid (gM (fun x => x.tdiv d) N E = (NW, EW)) := hid (by rw [← HTA.out rfl]; exact HGM.out)
              clear HSN HOKW HTA HGM k0 k1 dk
              go_wp2_with fail
              refine (gr_mapS (G5.out.below BW.out (by omega)) (by omega) (by rw [HNL.out]; omega) (by rw [HEL.out]; omega)).mono ?_
              rintro e w8 ⟨p8, rfl, g8, b8⟩
              have hl8 := gM_len letter N E
              rw [HEL.out, HNL.out] at hl8
              have G8 := hid g8
              have HS8 := hid g8.ok.srtN
              have HD8 := hid g8.domN
              have HM8 := hid (fun x (hx : x ∈ (gM letter N E).1) => gM_mem hx)
              have RW8 := hid (row_below RW.out b8 hwl)
              have PW8 := hid (PW.out.below b8)
              have B8 := hid (BW.out.trans (b8.mono zr))
              have z8 : w5.heap.size ≤ w8.heap.size := B8.out.size
              have hwl8 := row_lt RW8.out
              generalize (gM letter N E).1 = NS at *
              generalize (gM letter N E).2 = ES at *
              have hNS : NS.length ≤ 1000 := by omega
              clear g8 b8 hl8 RW PW BW d0 d1
              go_wp2_with fail
              refine (Gx.gr_nodes G8.out (by omega)).mono ?_
              rintro e w9 ⟨v9, rfl, h9, b9⟩
              obtain ⟨a9, c9, rfl, hm9⟩ := h9.sl.ex
              have O9 := hid h9
              have RW9 := hid (row_below RW8.out b9 hwl8)
              have PW9 := hid (PW8.out.below b9)
              have B9 := hid (B8.out.trans (b9.mono z8))
              have z9 : w5.heap.size ≤ w9.heap.size := B9.out.size
              have hwl9 := row_lt RW9.out
              clear h9 b9 RW8 PW8 B8 G8
              generalize hns : NS.length = ns at *
              have HNS := hid hns
              clear hns
              have S9 := hid (show Sl w9 w9.heap.size 1 (.slice a9 ns c9) ns (NS.flatMap nmC) by have h := O9.out.sl; rw [HNS.out] at h; exact h)
              go_wp2_with fail
              go_loopw [17] (fun i wr => ∃ t : Nat, t ≤ ns ∧ i = .int .i64 t ∧ Below w9.heap.size w9 wr) (fun i _ => ns - (intOf i).toNat)
              case atStart => exact ⟨0, by omega, by go_num, Below.refl _ _⟩
              case round =>
                obtain ⟨t, ht, rfl, hB'⟩ := hrel
                have BA := hid hB'
                have zA := hB'.size
                clear hB'
                by_cases htn : t < ns
                · obtain ⟨b, off, x, rfl, hb, hx, hcc⟩ := Sl.atF nmC_len (S9.out.below BA.out) HNS.out htn
                  have c0 : wr.cell? ⟨b, off + t, none⟩ = some (nmV x) := by have := hcc 0 (by decide); simpa [nmC] using this
                  obtain ⟨x', rfl⟩ := HM8.out x (List.mem_of_getElem? hx)
                  have hl1 := letter_one x'
                  have q1 : (((nmB (letter x')).size : Int) != 1) = false := by rw [hl1]; rfl
                  have HX := hid hx
                  clear hx hcc
                  by_cases ht0 : t = 0
                  · have q2 : decide ((t : Int) > 0) = false := by simp; omega
                    have q2' : decide (0 < (t : Int)) = false := by simp; omega
                    have q2n : decide (0 < t) = false := by simp; omega
                    clear ht0
                    go_wp2
                    refine wp_region_x [0, 0, 0, 1, 0, 0, 0, 0, 0, 0, 0, 0, 0, 0, 1, 0, 0, 0, 1, 0, 0, 0] [0, 1, 2, 3, 4, 5, 6, 7, 8, 9, 10, 11, 12, 13, 14, 15, 16, 17, 18, 19, 20, 21] (by kernel_rfl) (by kernel_rfl) rfl (by kernel_rfl) ?_
                    simp only [selX, guardAt, List.getElem?_cons_zero, List.getElem?_cons_succ, List.getD_cons_zero, List.getD_cons_succ, Option.bind_some]
                    repeat (first
                      | (refine wpL_p (fun K hK => ?_); go_simp; refine hK _ _ ?_; clear hK K)
                      | (refine wpL_r (fun K hK => ?_); apply Exists.intro; refine ⟨fun w2 hw2 => ?_, hK _ _ ?_⟩; (have hk1 := hw2.cell; have hk3 := hw2.heap; clear hw2; go_simp; with_reducible rfl); clear hK K; simp only [Act.put, List.setIfInBounds_toArray, List.set_cons_zero, List.set_cons_succ])
                      | (refine wpL_yes rfl rfl ?_)
                      | (refine wpL_no rfl rfl (fun K hK => ?_); simp only [Act.put, List.setIfInBounds_toArray, List.set_cons_zero, List.set_cons_succ]; refine hK _ _ ?_; clear hK K)
                      | (refine wpL_nil ?_))
                    go_wp2_with fail
                    go_roundw
                    case rel => exact ⟨t + 1, by omega, by go_num, BA.out.drew⟩
                    case measure => simp [intOf]; omega
                  · obtain ⟨k, hk⟩ : ∃ k : Nat, t = k + 1 := ⟨t - 1, by omega⟩
                    have hkz : (t : Int) - 1 = (k : Int) := by omega
                    have hkn : k < ns := by omega
                    have hkw : IntKind.i64.wrap ((t : Int) - 1) = (k : Int) := by rw [IntWalk.i64_left, IntWalk.wrap64_in _ (by omega), hkz]
                    have hkk : IntKind.i64.wrap (k : Int) = (k : Int) := by rw [IntWalk.i64_left, IntWalk.wrap64_in _ (by omega)]
                    obtain ⟨b2, off2, y, e2, hb2, hy, hcc⟩ := Sl.atF nmC_len (S9.out.below BA.out) HNS.out hkn
                    simp only [Option.some.injEq, Addr.mk.injEq, and_true] at e2
                    obtain ⟨rfl, rfl⟩ := e2
                    have c1 : wr.cell? ⟨b, off + k, none⟩ = some (nmV y) := by have := hcc 0 (by decide); simpa [nmC] using this
                    have hyx : y < letter x' := by
                      obtain ⟨g1, g2⟩ := List.getElem?_eq_some_iff.1 hy
                      obtain ⟨g3, g4⟩ := List.getElem?_eq_some_iff.1 HX.out
                      have := List.pairwise_iff_getElem.1 HS8.out k t g1 g3 (by omega)
                      rw [g2, g4] at this
                      exact this
                    have q2 : decide ((t : Int) > 0) = true := by simp; omega
                    have q2' : decide (0 < (t : Int)) = true := by simp; omega
                    have q2n : decide (0 < t) = true := by simp; omega
                    clear hk
                    obtain ⟨y', rfl⟩ := HM8.out y (List.mem_of_getElem? hy)
                    have hge := geq_letters hyx
                    clear hcc hy
                    go_wp2
                    refine wp_region_x [0, 0, 0, 1, 0, 0, 0, 0, 0, 0, 0, 0, 0, 0, 1, 0, 0, 0, 1, 0, 0, 0] [0, 1, 2, 3, 4, 5, 6, 7, 8, 9, 10, 11, 12, 13, 14, 15, 16, 17, 18, 19, 20, 21] (by kernel_rfl) (by kernel_rfl) rfl (by kernel_rfl) ?_
                    simp only [selX, guardAt, List.getElem?_cons_zero, List.getElem?_cons_succ, List.getD_cons_zero, List.getD_cons_succ, Option.bind_some]
                    repeat (first
                      | (refine wpL_p (fun K hK => ?_); go_simp; refine hK _ _ ?_; clear hK K)
                      | (refine wpL_r (fun K hK => ?_); apply Exists.intro; refine ⟨fun w2 hw2 => ?_, hK _ _ ?_⟩; (have hk1 := hw2.cell; have hk3 := hw2.heap; clear hw2; go_simp; with_reducible rfl); clear hK K; simp only [Act.put, List.setIfInBounds_toArray, List.set_cons_zero, List.set_cons_succ])
                      | (refine wpL_yes rfl rfl ?_)
                      | (refine wpL_no rfl rfl (fun K hK => ?_); simp only [Act.put, List.setIfInBounds_toArray, List.set_cons_zero, List.set_cons_succ]; refine hK _ _ ?_; clear hK K)
                      | (refine wpL_nil ?_))
                    go_wp2_with fail
                    go_roundw
                    case rel => exact ⟨t + 1, by omega, by go_num, BA.out.drew⟩
                    case measure => simp [intOf]; omega
                · obtain rfl : t = ns := by omega
                  have BB := hid (B9.out.trans (BA.out.mono z9))
                  have GB := hid ((G5.out.below BB.out (by omega)).raise (hi' := wr.heap.size) (by omega))
                  have MB := hid ((M5.out.below BB.out (Nat.le_refl _)).raise (hi' := wr.heap.size) (by omega))
                  have QB := hid ((Q5.out.below BB.out (by omega)).rg (by omega))
                  have PB := hid (PW9.out.below BA.out)
                  have RWB := hid (row_below RW9.out BA.out hwl9)
                  have RHB := hid (row_below RH5.out BB.out (by omega))
                  have AKB := hid (AK5.out.keep (Keep.of_below BB.out))
                  have BF := hid (B5.out.trans (BB.out.mono B5.out.size))
                  clear RW9 PW9 BA B9 S9 O9 G5 M5 Q5 RH5 AK5 B5
                  obtain ⟨av, cv, rfl, hmv⟩ := AKB.out.own.sl.ex
                  have hNlen := HNL.out
                  rw [hNlen] at hmv AKB
                  rw [HGM2.out] at MB
                  have d0 : wr.cell? ⟨w1.heap.size, 0, none⟩ = some (.slice an j cn) := row_cell RHB.out 0
                  have d1 : wr.cell? ⟨w1.heap.size, 1, none⟩ = some (.slice ae u ce) := row_cell RHB.out 1
                  have da : wr.cell? ⟨w1.heap.size + 1, 0, none⟩ = some (.slice av j cv) := row_cell AKB.out.ra 0
                  have LA := hid (show LI wr (.slice av j cv) N from LI.ofN hNlen (by have h := AKB.out.own.sl; rw [hNlen] at h; exact h) (Nat.le_refl _))
                  have LH := hid (show LI wr (.slice an j cn) N from QB.out.n)
                  clear hNlen
                  go_wp2_with fail
                  refine (same_ints LA.out LH.out).mono ?_
                  rintro e wB ⟨rfl, bB⟩
                  have GC := hid ((GB.out.below bB (Nat.le_refl _)).raise (hi' := wB.heap.size) bB.size)
                  have MC := hid ((MB.out.below bB (Nat.le_refl _)).raise (hi' := wB.heap.size) bB.size)
                  have QC := hid (QB.out.below bB)
                  have PC := hid (PB.out.below bB)
                  have RWC := hid (row_below RWB.out bB (row_lt RWB.out))
                  have RHC := hid (row_below RHB.out bB (row_lt RHB.out))
                  have BC := hid (BF.out.trans (bB.mono BF.out.size))
                  have d2 : wB.cell? ⟨w5.heap.size, 0, none⟩ = some (.slice avn NW.length cvn) := row_cell RWC.out 0
                  have d3 : wB.cell? ⟨w5.heap.size, 1, none⟩ = some (.slice ave EW.length cve) := row_cell RWC.out 1
                  clear bB GB MB QB PB RWB RHB BF AKB LA LH d0 d1 da
                  go_wp2_with fail
                  refine (gr_is MC.out (Nat.le_refl _) (by omega) (by omega) PC.out).mono ?_
                  rintro e wC ⟨rfl, bC⟩
                  have GD := hid ((GC.out.below bC (Nat.le_refl _)).raise (hi' := wC.heap.size) bC.size)
                  have QD := hid (QC.out.below bC)
                  have RHD := hid (row_below RHC.out bC (row_lt RHC.out))
                  have BD := hid (BC.out.trans (bC.mono BC.out.size))
                  have d0 : wC.cell? ⟨w1.heap.size, 0, none⟩ = some (.slice an j cn) := row_cell RHD.out 0
                  have d1 : wC.cell? ⟨w1.heap.size, 1, none⟩ = some (.slice ae u ce) := row_cell RHD.out 1
                  clear bC GC MC QC PC RWC RHC BC d2 d3
                  go_wp2_with fail
                  refine (gr_is GD.out (Nat.le_refl _) (by rw [HNL.out]; omega) (by rw [HEL.out]; omega) QD.out).mono ?_
                  rintro e wE ⟨rfl, bE⟩
                  have BE := hid (BD.out.trans (bE.mono BD.out.size))
                  clear bE d0 d1
                  go_wp2
                  go_ret
                  exact ⟨rfl, BE.out⟩
    · go_wp2
      go_ret
      exact ⟨rfl, B0.out⟩
  · go_wp2
    go_ret
    exact ⟨rfl, B0.out⟩
end
end Go.Proofs.Ytlmeblhcipkgmaa
