/- ClockAlone: what it calls: Ints, Place, Cells, alone. Conditions: those of each theorem, as typed. -/
import Derived.Test.YtogphaiomlfofaaGreatDoorCaQM
import Derived.Test.YtogphaiomlfofaaGreatDoorCmJM
set_option linter.unusedVariables false
set_option linter.unusedSimpArgs false
namespace Go.Proofs.YtogphaiomlfofaaGreatDoor
open Go.RowKit Go.Maps
set_option linter.unusedVariables false
set_option linter.unusedSimpArgs false
attribute [local irreducible] wpL RN.wpL

theorem place_x (x : Int) (h1 : 1 ≤ x) (h2 : x ≤ 12) (w : World) : Calls Tryz.prog 38 #[.int .i64 x] w fun e w' => e = .returned (.tuple #[.int .i64 ((x - 1) / 3), .int .i64 ((x - 1) % 3), .bool true]) ∧ w = w' := by
  have q1 : decide (x < 1) = false := by simp; omega
  have q2 : decide (x > 12) = false := by simp; omega
  have q3 : decide (12 < x) = false := by simp; omega
  have e3 : (x - 1).tdiv 3 = (x - 1) / 3 := Int.tdiv_eq_ediv_of_nonneg (by omega)
  have e4 : (x - 1).tmod 3 = (x - 1) % 3 := Int.tmod_eq_emod_of_nonneg (by omega)
  have w1 : wrap64 (x - 1) = x - 1 := IntWalk.wrap64_in _ (by omega)
  have w2 : wrap64 ((x - 1) / 3) = (x - 1) / 3 := IntWalk.wrap64_in _ (by omega)
  have w3 : wrap64 ((x - 1) % 3) = (x - 1) % 3 := IntWalk.wrap64_in _ (by omega)
  go_enter Tryz.func38, Tryz.ntmps38
  go_wp2
  exact bodyPost_ret (v := .tuple #[.int .i64 ((x - 1) / 3), .int .i64 ((x - 1) % 3), .bool true]) (by simp [results, Tryz.results38, go_sem]) rfl ⟨rfl, rfl⟩
theorem place_id (i k : Nat) (hi : i < 4) (hk : k < 3) (w : World) : Calls Tryz.prog 38 #[.int .i64 (idOf i k)] w fun e w' => e = .returned (.tuple #[.int .i64 i, .int .i64 k, .bool true]) ∧ w = w' := by
  have h := place_x (idOf i k) (by unfold idOf; omega) (by unfold idOf; omega) w
  have e1 : (idOf i k - 1) / 3 = i := by unfold idOf; omega
  have e2 : (idOf i k - 1) % 3 = k := by unfold idOf; omega
  rwa [e1, e2] at h
set_option maxRecDepth 100000 in
set_option maxHeartbeats 1000000 in
theorem ref_Ints (v : Value) (l : List Int) (w : World) (h : Sl w w.heap.size 1 v l.length (l.map (.int .i64))) (hl : l.length ≤ 1000000) :
    Calls Tryz.prog 66 #[v] w fun e w' => ∃ v', e = .returned v' ∧ OwnI w' w.heap.size v' l ∧ Below w.heap.size w w' := by
  obtain ⟨sa, sc, rfl, -⟩ := h.ex
  have H := hid h
  clear h
  go_enter Tryz.func66, Tryz.ntmps66
  go_wp2_with (at_make; refine wpList_makeF (f := intC) (e := 3) (sz := 1) (B := w.heap.size) rfl _ _ _ rfl _ 8 Tryz.underlying22 infoI rfl rfl (by first | omega | (simp <;> omega)) (by first | omega | (simp <;> omega)) (by first | omega | (simp <;> omega)) ?_; refine Stop.halt ?_)
  refine Stop.go ?_
  intro w1 o1 b1 z1
  have B1 := hid b1
  have O1 := hid o1
  clear b1 o1
  go_wp2_with fail
  go_loopw [3, 4] (fun v p wr => ∃ (k : Nat), k ≤ l.length ∧ p = .int .i64 k ∧ OwnI wr w.heap.size v (l.take k) ∧ Below w.heap.size w wr) (fun _ p _ => l.length - (intOf p).toNat)
  case atStart => exact ⟨0, by omega, by go_num, O1.out, B1.out⟩
  case round =>
    obtain ⟨k, hk, rfl, hO, hB⟩ := hrel
    obtain ⟨ao, co, rfl, -⟩ := hO.form2
    have hlo : (l.take k).length = k := by rw [List.length_take]; omega
    rw [hlo] at hO ⊢
    have zB := hB.size
    have HB := hid hB
    have HO := hid hO
    clear hB hO
    by_cases hlt : k < l.length
    · obtain ⟨b, off, c, rfl, hb, hc, hcc⟩ := (H.out.below (w := w) (w' := wr) HB.out : Sl wr w.heap.size 1 (.slice sa l.length sc) l.length (l.map (.int .i64))).intAt hlt
      have hbz : b < wr.heap.size := by omega
      have HC := hid hc
      clear hc
      go_wp2_with (at_builtin; refine wpList_appF rfl _ _ _ rfl _ 8 Tryz.underlying22 infoI rfl HO.out c (by first | omega | (simp <;> omega)) (by rfl) (by rfl) (by first | rfl | simp) rfl (in_one _) (by first | omega | (simp only [List.length_append, List.length_cons, List.length_nil, List.length_replicate]; omega)) (by first | omega | (simp only [List.length_append, List.length_cons, List.length_nil, List.length_replicate]; omega)) ?_; refine Stop.halt ?_)
      refine Stop.go ?_
      intro g5 c5 w5 o5 G5
      have B5 := hid (HB.out.trans (G5.below zB fun q h => (HO.out.lt q h).1))
      have O5 := hid o5
      clear o5 G5 hcc
      go_wp2_with fail
      go_roundw
      case rel => exact ⟨k + 1, by omega, by go_num, by rw [take_step HC.out]; exact O5.out, B5.out⟩
      case measure => simp [intOf]; omega
    · obtain rfl : k = l.length := by omega
      rw [List.take_length] at HO
      go_wp2
      go_ret
      exact ⟨_, rfl, HO.out, HB.out⟩
section
variable {w : World} {C : LC} {ve : Value} {P : Pg} {M : LM} {us : List WkV}
set_option maxRecDepth 100000 in
set_option maxHeartbeats 1000000 in
theorem la_CellsV (h : LaAt w C ve us P M) :
    Calls Tryz.prog 41 #[.pointer (some ⟨C.bM, 0, none⟩)] w fun e w' => ∃ v', e = .returned v' ∧ OwnI w' w.heap.size v' (M.cs.map (·.val)) ∧ Below w.heap.size w w' := by
  obtain ⟨gC, cc, hce⟩ := h.ceForm
  have d1 := row_cell h.row 1
  have lM := row_lt h.row
  have hn4 := h.ok.cells
  have hcl := h.clen
  simp only [List.getElem?_toArray, List.getElem?_cons_zero, List.getElem?_cons_succ, hce] at d1
  have H := hid h
  have HCL := hid hcl
  clear h hcl
  go_enter Tryz.func41, Tryz.ntmps41
  go_wp2_with (at_make; refine wpList_makeF (f := intC) (e := 3) (sz := 1) (B := w.heap.size) rfl _ _ _ rfl _ 8 Tryz.underlying22 infoI rfl rfl (by first | omega | (simp <;> omega)) (by first | omega | (simp <;> omega)) (by first | omega | (simp <;> omega)) ?_; refine Stop.halt ?_)
  refine Stop.go ?_
  intro w1 o1 b1 z1
  have d1 := cell_below b1 lM d1
  have B1 := hid b1
  have O1 := hid o1
  have l1 : C.bM < w1.heap.size := by omega
  clear b1 o1
  go_wp2_with fail
  go_loopw [3, 17] (fun v p wr => ∃ (k : Nat), k ≤ P.cells.length ∧ p = .int .i64 k ∧ OwnF intC 3 1 wr w.heap.size v ((M.cs.map (·.val)).take k) ∧ Below w.heap.size w wr) (fun _ p _ => P.cells.length - (intOf p).toNat)
  case atStart => exact ⟨0, by omega, by go_num, O1.out, B1.out⟩
  case round =>
    obtain ⟨k, hk, rfl, hO, hB⟩ := hrel
    obtain ⟨ao, co, rfl, -⟩ := hO.form2
    have hlo : ((M.cs.map (·.val)).take k).length = k := by rw [List.length_take, List.length_map, HCL.out]; omega
    rw [hlo] at hO ⊢
    have zB := hB.size
    have HB := hid hB
    have HO := hid hO
    clear hB hO
    by_cases hlt : k < P.cells.length
    · obtain ⟨hgC, c, hcm, y0, y1, y2⟩ := (H.out.below HB.out).ceAt hce hlt
      have HC := hid (show (M.cs.map (·.val))[k]? = some c.val from by rw [List.getElem?_map, hcm]; rfl)
      clear hcm
      have r4 := row_new wr (.cells #[.int .i64 c.val, .int .i64 c.ver, .int .i64 c.own] 116)
      have z4 : wr.heap.size + 1 ≤ (wr.alloc (.cells #[.int .i64 c.val, .int .i64 c.ver, .int .i64 c.own] 116)).heap.size := by simp
      have O4 := hid (HO.out.alloc (.cells #[.int .i64 c.val, .int .i64 c.ver, .int .i64 c.own] 116))
      have B4 := hid (HB.out.alloc zB (.cells #[.int .i64 c.val, .int .i64 c.ver, .int .i64 c.own] 116))
      go_wp2_with (at_builtin; refine wpList_appF rfl _ _ _ rfl _ 8 Tryz.underlying22 infoI rfl O4.out c.val (by first | omega | (simp <;> omega)) (by rfl) (by rfl) (by first | rfl | simp) rfl (in_one _) (by first | omega | (simp only [List.length_append, List.length_cons, List.length_nil, List.length_replicate]; omega)) (by first | omega | (simp only [List.length_append, List.length_cons, List.length_nil, List.length_replicate]; omega)) ?_; refine Stop.halt ?_)
      refine Stop.go ?_
      intro g5 c5 w5 o5 G5
      have B5 := hid (B4.out.trans (G5.below B4.out.size fun q h => (O4.out.lt q h).1))
      have O5 := hid o5
      clear o5 G5 r4 y0 y1 y2
      go_wp2_with fail
      go_roundw
      case rel => exact ⟨k + 1, by omega, by go_num, by rw [take_step HC.out]; exact O5.out, B5.out⟩
      case measure => simp [intOf]; omega
    · obtain rfl : k = P.cells.length := by omega
      rw [List.take_of_length_le (by rw [List.length_map, HCL.out]; exact Nat.le_refl _)] at HO
      go_wp2
      go_ret
      exact ⟨_, rfl, HO.out, HB.out⟩
end
/-! ### alone -/
def Bnd (c : Nat) (v : List Int) : Prop := ∀ x ∈ v, -(1000000 + 1000 * (c : Int)) ≤ x ∧ x ≤ 1000000 + 1000 * (c : Int)
theorem Bnd.more {c c' : Nat} {v : List Int} (h : Bnd c v) (hc : c ≤ c') : Bnd c' v := fun x hx => by have := h x hx; omega
theorem Bnd.get {c : Nat} {v : List Int} (h : Bnd c v) (k : Nat) : -(1000000 + 1000 * (c : Int)) ≤ v.getD k 0 ∧ v.getD k 0 ≤ 1000000 + 1000 * (c : Int) := by
  rw [List.getD_eq_getElem?_getD]
  cases hk : v[k]? with
  | none => simp; omega
  | some x => exact h x (List.mem_of_getElem? hk)
theorem Bnd.act {c : Nat} {v : List Int} (h : Bnd c v) {a : Ac} (ha : -1000 ≤ a.val ∧ a.val ≤ 1000) : Bnd (c + 1) (actF v a) := by
  unfold actF
  split
  · intro x hx
    rcases List.mem_or_eq_of_mem_set hx with hx | rfl
    · have := h x hx; omega
    · omega
  · split
    · intro x hx
      rcases List.mem_or_eq_of_mem_set hx with hx | rfl
      · have := h x hx; omega
      · have := h.get a.cell.toNat; omega
    · exact h.more (by omega)
theorem own_setI {w : World} {B g n c : Nat} {l : List Int} (h : OwnI w B (.slice (some ⟨g, 0, none⟩) n c) l) {k : Nat} {y x : Int} (hk : l[k]? = some y) : OwnI (w.setCell ⟨g, k, none⟩ (.int .i64 x)) B (.slice (some ⟨g, 0, none⟩) n c) (l.set k x) := by
  have := own_setN (f := intC) (n := 1) h (fun _ => rfl) (j := 0) (by decide) hk (u := x) (a := .int .i64 x) rfl
  simpa using this
theorem OwnI.sli {w : World} {B : Nat} {v : Value} {l : List Int} (h : OwnI w B v l) : Sl w w.heap.size 1 v l.length (l.map (.int .i64)) := by rw [← flat_int]; exact OwnF.sl h
theorem OwnI.free {w : World} {B g n c : Nat} {l : List Int} (h : OwnI w B (.slice (some ⟨g, 0, none⟩) n c) l) (j : Nat) : w.frozen? ⟨g, j, none⟩ = false := by
  obtain ⟨-, ⟨h, -⟩ | ⟨g1, cap, cur, h, -, hr, -⟩⟩ := h
  · simp at h
  · simp only [Value.slice.injEq, Option.some.injEq, Addr.mk.injEq] at h
    obtain ⟨⟨rfl, -⟩, -⟩ := h
    exact row_free hr j
theorem OwnI.intc {w : World} {B g n cap k : Nat} {l : List Int} {x : Int} (h : OwnF intC 3 1 w B (.slice (some ⟨g, 0, none⟩) n cap) l) (hk : l[k]? = some x) : w.cell? ⟨g, k, none⟩ = some (.int .i64 x) := by
  have hkl := (List.getElem?_eq_some_iff.1 hk).1
  obtain ⟨a, c, hv⟩ := OwnF.slv h
  simp only [Value.slice.injEq] at hv
  obtain ⟨rfl, rfl, rfl⟩ := hv
  obtain ⟨b, off, x', he, hb, hx, hc⟩ := (OwnF.sl h).atF intC_len rfl hkl
  simp only [Option.some.injEq, Addr.mk.injEq] at he
  obtain ⟨rfl, rfl, -⟩ := he
  rw [hk] at hx
  obtain rfl := Option.some.inj hx
  have c0 := hc 0 (by decide)
  simpa [intC] using c0
theorem last_eq {l : List Ac} {n : Nat} {a : Ac} (hl : l.length = n + 1) (ha : l[n]? = some a) : lastC l = (a.kind == 4) := by
  unfold lastC
  rw [List.getLast?_eq_getElem?, hl, Nat.add_sub_cancel, ha]
set_option maxRecDepth 100000 in
set_option maxHeartbeats 4000000 in
theorem l_alone (vc vt : Value) (P : Pg) (w : World) (hok : PgOk P) (h : PgIs w w.heap.size vc vt P) :
    Calls Tryz.prog 42 #[.agg #[vc, vt]] w fun e w' => ∃ v', e = .returned v' ∧ OwnI w' w.heap.size v' (aloneF P) ∧ Below w.heap.size w w' := by
  obtain ⟨ac, cc, rfl, -⟩ := h.cells.ex
  obtain ⟨at', ct, rfl, -⟩ := h.thr.ex
  have b0 : Below w.heap.size w (w.alloc (.cells #[.slice ac P.cells.length cc, .slice at' P.threads.length ct] 25)) := (Below.refl _ w).alloc (Nat.le_refl _) _
  have r0 := row_new w (.cells #[.slice ac P.cells.length cc, .slice at' P.threads.length ct] 25)
  have l0 := row_lt r0
  have H := hid ((h.below b0).more b0.size)
  have HOK := hid hok
  have B0 := hid b0
  have R0 := hid r0
  have y0 := row_cell r0 0
  have y1 := row_cell r0 1
  simp only [List.getElem?_toArray, List.getElem?_cons_zero, List.getElem?_cons_succ] at y0 y1
  have hc4 := hok.cells
  have ht4 := hok.threads
  clear h b0 r0 hok
  go_enter Tryz.func42, Tryz.ntmps42
  go_wp2_with fail
  generalize w.alloc (.cells #[.slice ac P.cells.length cc, .slice at' P.threads.length ct] 25) = W at *
  refine (ref_Ints _ P.cells W H.out.cells (by omega)).mono ?_
  rintro e W1 ⟨v1, rfl, ho1, b1⟩
  have y1 := cell_below b1 l0 y1
  have hz1 := b1.size
  have H1 := hid ((H.out.below b1).more hz1)
  have B1 := hid (B0.out.trans (b1.mono B0.out.size))
  have O1 := hid ho1
  have BD := hid (show Bnd 0 P.cells from fun x hx => by have := HOK.out.cell x hx; omega)
  clear ho1 b1 y0
  go_wp2_with fail
  have Y1 := hid y1
  have l1 : w.heap.size < W1.heap.size := by omega
  clear y1
  go_loopw [3, 4] (fun v p wr => ∃ (i : Nat), i ≤ P.threads.length ∧ p = .int .i64 i ∧ OwnI wr W.heap.size v ((P.threads.take i).foldl thF P.cells) ∧ Bnd (18 * i) ((P.threads.take i).foldl thF P.cells) ∧ Below W1.heap.size W1 wr) (fun _ p _ => P.threads.length - (intOf p).toNat)
  case atStart => exact ⟨0, by omega, by go_num, O1.out, BD.out, Below.refl _ _⟩
  case round =>
    obtain ⟨i, hi, rfl, hO, hD, hB⟩ := hrel
    obtain ⟨cur, hcur⟩ : ∃ c, c = (P.threads.take i).foldl thF P.cells := ⟨_, rfl⟩
    rw [← hcur] at hO hD
    have hcl : cur.length = P.cells.length := by rw [hcur, foldl_len]
    obtain ⟨ao, co, rfl, -⟩ := hO.form2
    rw [hcl] at hO ⊢
    have HCUR := hid hcur
    have HO := hid hO
    have HD := hid hD
    have HB := hid hB
    have y1 := cell_below hB l1 Y1.out
    have zB := hB.size
    clear hO hD hB hcur
    by_cases hlt : i < P.threads.length
    · obtain ⟨b, off, u, t, hat, hb, ht, hu, hut⟩ := H1.out.thr.at rfl hlt
      obtain ⟨au, cu, rfl, -⟩ := hut.ex
      have HU := hid hu
      have hu := cell_below HB.out hb hu
      have hbz : b < wr.heap.size := by omega
      have HT := hid ht
      have HUT := hid hut
      have ht3 := HOK.out.txs t (List.mem_of_getElem? ht)
      have hta := hid (HOK.out.acts t (List.mem_of_getElem? ht))
      have htc := hid (HOK.out.act t (List.mem_of_getElem? ht))
      subst hat
      clear ht hut
      go_wp2_with fail
      clear hu y1
      go_loopw [3, 5] (fun v p ws => ∃ (k : Nat), k ≤ t.length ∧ p = .int .i64 k ∧ OwnI ws W.heap.size v ((t.take k).foldl txF cur) ∧ Bnd (18 * i + 6 * k) ((t.take k).foldl txF cur) ∧ Below W1.heap.size W1 ws) (fun _ p _ => t.length - (intOf p).toNat)
      case atStart => exact ⟨0, by omega, by go_num, HO.out, HD.out, HB.out⟩
      case round =>
        obtain ⟨k, hk, rfl, hO, hD, hB⟩ := hrel
        obtain ⟨cu2, hcu2⟩ : ∃ c, c = (t.take k).foldl txF cur := ⟨_, rfl⟩
        rw [← hcu2] at hO hD
        have hcl2 : cu2.length = P.cells.length := by rw [hcu2]; exact (thF_len _ _).trans hcl
        obtain ⟨a2, c2, rfl, -⟩ := hO.form2
        rw [hcl2] at hO ⊢
        have HC2 := hid hcu2
        have HO2 := hid hO
        have HD2 := hid hD
        have HB2 := hid hB
        have y1 := cell_below hB l1 Y1.out
        have hu := cell_below HB2.out hb HU.out
        have zB2 := hB.size
        have hbz2 : b < wr.heap.size := by omega
        clear hO hD hB hcu2
        by_cases hlk : k < t.length
        · obtain ⟨b', off', u', l, hal, hb', hl, hu', hul⟩ := HUT.out.at rfl hlk
          obtain ⟨al, cl, rfl, -⟩ := Sl.ex (show Sl W1 W1.heap.size 3 u' l.length (l.flatMap Ac.cells) from hul)
          have hu' := cell_below HB2.out hb' hu'
          have hbz' : b' < wr.heap.size := by omega
          have HL := hid hl
          have HUL := hid (show Sl W1 W1.heap.size 3 (.slice al l.length cl) l.length (l.flatMap Ac.cells) from hul)
          have hl6 := hta.out l (List.mem_of_getElem? hl)
          have hac := hid (htc.out l (List.mem_of_getElem? hl))
          subst hal
          clear hl hul
          go_wp2_with fail
          refine (ref_Ints _ cu2 wr (by have h := OwnI.sli HO2.out; rw [hcl2] at h ⊢; exact h) (by omega)).mono ?_
          rintro e V ⟨v7, rfl, ho7, b7⟩
          obtain ⟨g, c7, rfl, hg7⟩ : ∃ g c, v7 = .slice (some ⟨g, 0, none⟩) P.cells.length c ∧ wr.heap.size ≤ g := by
            rcases OwnF.form ho7 with ⟨-, h2⟩ | ⟨g, c, h, h2, -⟩
            · rw [h2] at hcl2; simp at hcl2; omega
            · exact ⟨g, c, by rw [h, hcl2], h2⟩
          have O7 := hid ho7
          have B7 := hid b7
          have BV := hid (HB2.out.trans (b7.mono zB2))
          have hzV := b7.size
          clear ho7 b7 y1 hu hu'
          go_wp2_with fail
          go_loopw [8] (fun p wt => ∃ (j : Nat), j ≤ l.length ∧ p = .int .i64 j ∧ OwnI wt wr.heap.size (.slice (some ⟨g, 0, none⟩) P.cells.length c7) ((l.take j).foldl actF cu2) ∧ Bnd (18 * i + 6 * k + j) ((l.take j).foldl actF cu2) ∧ Below wr.heap.size wr wt) (fun p _ => l.length - (intOf p).toNat)
          case atStart => exact ⟨0, by omega, by go_num, O7.out, HD2.out, B7.out⟩
          case round =>
            obtain ⟨j, hj, rfl, hO, hD, hB⟩ := hrel
            obtain ⟨cu3, hcu3⟩ : ∃ c, c = (l.take j).foldl actF cu2 := ⟨_, rfl⟩
            rw [← hcu3] at hO hD
            have hcl3 : cu3.length = P.cells.length := by rw [hcu3, actsF_len, hcl2]
            have HC3 := hid hcu3
            have HO3 := hid hO
            have HD3 := hid hD
            have HB3 := hid hB
            have gfr := fun q => OwnI.free hO q
            have hgl : g < wr.heap.size := (OwnF.lt hO g rfl).2
            have zB3 := hB.size
            have y1 := cell_below (HB2.out.trans (hB.mono zB2)) l1 Y1.out
            clear hO hD hB hcu3
            by_cases hlj : j < l.length
            · obtain ⟨b3, o3, a, hal, hb3, ha, hc⟩ := HUL.out.atF Ac.len rfl hlj
              have hb3w : b3 < wr.heap.size := by omega
              have q0 : wr.cell? ⟨b3, o3 + j * 3, none⟩ = some (.int .i64 a.kind) := cell_below (HB2.out.trans (HB3.out.mono zB2)) hb3 (hc 0 (by decide))
              have q1 : wr.cell? ⟨b3, o3 + j * 3 + 1, none⟩ = some (.int .i64 a.cell) := cell_below (HB2.out.trans (HB3.out.mono zB2)) hb3 (hc 1 (by decide))
              have q2 : wr.cell? ⟨b3, o3 + j * 3 + 2, none⟩ = some (.int .i64 a.val) := cell_below (HB2.out.trans (HB3.out.mono zB2)) hb3 (hc 2 (by decide))
              have HA := hid ha
              have hct := hac.out j a ha
              subst hal
              have HC0 := hid (hc 0 (by decide))
              clear ha hc
              by_cases h2 : a.kind = 2
              · have e2 : (a.kind == 2) = true := by simp [h2]
                have e3 : (a.kind == 3) = false := by simp [h2]
                obtain ⟨m, hm, hmn, hav⟩ : ∃ m : Nat, a.cell = m ∧ m < P.cells.length ∧ -1000 ≤ a.val ∧ a.val ≤ 1000 := ⟨a.cell.toNat, by omega, by omega, by omega⟩
                obtain ⟨y, hy⟩ : ∃ y, cu3[m]? = some y := ⟨_, List.getElem?_eq_getElem (by omega)⟩
                have O6 := hid (own_setI (x := a.val) HO3.out hy)
                have hac3 : actF cu3 a = cu3.set m a.val := by unfold actF; rw [if_pos h2, hm, Int.toNat_natCast]
                have HS := hid (show (l.take (j + 1)).foldl actF cu2 = cu3.set m a.val from by rw [take_step HA.out, List.foldl_append, ← HC3.out]; exact hac3)
                have HD6 := hid (show Bnd (18 * i + 6 * k + j + 1) (cu3.set m a.val) from by rw [← hac3]; exact HD3.out.act hav)
                have HB6 := hid (HB3.out.setCell (p := ⟨g, m, none⟩) hg7 (.int .i64 a.val))
                have qy : wr.cell? ⟨g, m, none⟩ = some (.int .i64 y) := OwnI.intc HO3.out hy
                rw [hm] at q1
                clear hct hy hac3
                go_wp2_with fail
                refine wp_region_x [0, 0, 0, 0, 0, 1, 0, 0, 0, 0, 1, 0, 2] [0, 1, 2, 3, 4, 5, 6, 7, 8, 9, 10, 11, 12] (by kernel_rfl) (by kernel_rfl) rfl (by kernel_rfl) ?_
                simp only [selX, guardAt, sD, sE, sF, sG]
                repeat (first | (refine wpL_p (fun K hK => ?_); go_simp; refine hK _ _ ?_; clear hK K) | (apply wpL_s; (intro w2 hw2; have hk1 := hw2.cell; have hk3 := hw2.heap; clear hw2; go_simp; with_reducible rfl); simp only [Act.put, sA, sB, sC]) | (refine wpL_nil ?_))
                refine wpL_e (fun K hK => ?_)
                go_simp
                refine hK _ _ ?_
                clear hK K
                repeat (first | (refine wpL_p (fun K hK => ?_); go_simp; refine hK _ _ ?_; clear hK K) | (apply wpL_s; (intro w2 hw2; have hk1 := hw2.cell; have hk3 := hw2.heap; clear hw2; go_simp; with_reducible rfl); simp only [Act.put, sA, sB, sC]) | (refine wpL_nil ?_))
                have q0 := cell_below (HB2.out.trans (HB6.out.mono zB2)) hb3 HC0.out
                generalize wr.setCell ⟨g, m, none⟩ (.int .i64 a.val) = X at *
                have gx : X.cell? ⟨b3, o3 + j * 3, none⟩ = some (.int .i64 a.kind) := q0
                have e23 : ((2 : Int) == 3) = false := by decide
                go_wp2_with fail
                go_roundw
                case rel => exact ⟨j + 1, by omega, by go_num, by rw [HS.out]; exact O6.out.drew, by rw [HS.out]; exact HD6.out, HB6.out.drew⟩
                case measure => simp [intOf]; omega
              · by_cases h3 : a.kind = 3
                · have e2 : (a.kind == 2) = false := by simp [h3]
                  have e3 : (a.kind == 3) = true := by simp [h3]
                  obtain ⟨m, hm, hmn, hav⟩ : ∃ m : Nat, a.cell = m ∧ m < P.cells.length ∧ -1000 ≤ a.val ∧ a.val ≤ 1000 := ⟨a.cell.toNat, by omega, by omega, by omega⟩
                  obtain ⟨y, hy⟩ : ∃ y, cu3[m]? = some y := ⟨_, List.getElem?_eq_getElem (by omega)⟩
                  have O6 := hid (own_setI (x := y + a.val) HO3.out hy)
                  have hac3 : actF cu3 a = cu3.set m (y + a.val) := by unfold actF; rw [if_neg h2, if_pos h3, hm, Int.toNat_natCast, List.getD_eq_getElem?_getD, hy]; rfl
                  have HS := hid (show (l.take (j + 1)).foldl actF cu2 = cu3.set m (y + a.val) from by rw [take_step HA.out, List.foldl_append, ← HC3.out]; exact hac3)
                  have HD6 := hid (show Bnd (18 * i + 6 * k + j + 1) (cu3.set m (y + a.val)) from by rw [← hac3]; exact HD3.out.act hav)
                  have HB6 := hid (HB3.out.setCell (p := ⟨g, m, none⟩) hg7 (.int .i64 (y + a.val)))
                  have yb := HD3.out y (List.mem_of_getElem? hy)
                  have ws : wrap64 (y + a.val) = y + a.val := IntWalk.wrap64_in _ (by omega)
                  have qy : wr.cell? ⟨g, m, none⟩ = some (.int .i64 y) := OwnI.intc HO3.out hy
                  rw [hm] at q1
                  clear hct hy hac3
                  go_wp2_with fail
                  refine wp_region_x [0, 0, 0, 0, 0, 1, 0, 0, 0, 0, 0, 1, 0, 1, 0, 0, 0, 0, 1, 0, 0, 2] [0, 1, 2, 3, 4, 5, 6, 7, 8, 9, 10, 11, 12, 13, 14, 15, 16, 17, 18, 19, 20, 21] (by kernel_rfl) (by kernel_rfl) rfl (by kernel_rfl) ?_
                  simp only [selX, guardAt, sD, sE, sF, sG]
                  repeat (first | (refine wpL_p (fun K hK => ?_); go_simp; refine hK _ _ ?_; clear hK K) | (apply wpL_s; (intro w2 hw2; have hk1 := hw2.cell; have hk3 := hw2.heap; clear hw2; go_simp; with_reducible rfl); simp only [Act.put, sA, sB, sC]) | (refine wpL_nil ?_))
                  refine wpL_e (fun K hK => ?_)
                  go_simp
                  rw [show IntKind.i64.wrap (y + a.val) = y + a.val from by rw [IntWalk.i64_left]; exact ws]
                  refine hK _ _ ?_
                  clear hK K
                  repeat (first | (refine wpL_p (fun K hK => ?_); go_simp; refine hK _ _ ?_; clear hK K) | (apply wpL_s; (intro w2 hw2; have hk1 := hw2.cell; have hk3 := hw2.heap; clear hw2; go_simp; with_reducible rfl); simp only [Act.put, sA, sB, sC]) | (refine wpL_nil ?_))
                  generalize wr.setCell ⟨g, m, none⟩ (.int .i64 (y + a.val)) = X at *
                  go_wp2_with fail
                  go_roundw
                  case rel => exact ⟨j + 1, by omega, by go_num, by rw [HS.out]; exact O6.out.drew, by rw [HS.out]; exact HD6.out, HB6.out.drew⟩
                  case measure => simp [intOf]; omega
                · have e2 : (a.kind == 2) = false := by simp [h2]
                  have e3 : (a.kind == 3) = false := by simp [h3]
                  go_wp2_with fail
                  go_roundw
                  case rel => exact ⟨j + 1, by omega, by go_num, by rw [take_step HA.out, List.foldl_append, ← HC3.out]; simp only [List.foldl_cons, List.foldl_nil, actF, h2, h3, if_false]; exact HO3.out, by rw [take_step HA.out, List.foldl_append, ← HC3.out]; simp only [List.foldl_cons, List.foldl_nil, actF, h2, h3, if_false]; exact HD3.out.more (by omega), HB3.out⟩
                  case measure => simp [intOf]; omega
            · obtain rfl : j = l.length := by omega
              obtain ⟨n, hn⟩ : ∃ n, l.length = n + 1 := ⟨l.length - 1, by omega⟩
              obtain ⟨b3, o3, a, hal, hb3, ha, hc⟩ := HUL.out.atF Ac.len rfl (show n < l.length by omega)
              have hb3w : b3 < wr.heap.size := by omega
              have q0 : wr.cell? ⟨b3, o3 + n * 3, none⟩ = some (.int .i64 a.kind) := cell_below (HB2.out.trans (HB3.out.mono zB2)) hb3 (hc 0 (by decide))
              have hlast := last_eq hn ha
              subst hal
              clear ha hc
              have wl : wrap64 ((l.length : Int) - 1) = (n : Int) := by rw [IntWalk.wrap64_in _ (by omega)]; omega
              have wl2 : (l.length : Int) - 1 = (n : Int) := by omega
              have hcu : cu3 = l.foldl actF cu2 := by rw [HC3.out, List.take_length]
              have hst : (t.take (k + 1)).foldl txF cur = txF cu2 l := by rw [take_step HL.out, List.foldl_append, ← HC2.out]; rfl
              have HX := hid (And.intro hcu hst)
              clear hcu hst
              by_cases h4 : a.kind = 4
              · have e4 : (a.kind != 4) = false := by simp [h4]
                have e5 : lastC l = true := by rw [hlast]; simp [h4]
                have hB9 := HB2.out.trans (HB3.out.mono zB2)
                clear y1
                go_wp2_with fail
                go_roundw
                case rel =>
                  have hst : (t.take (k + 1)).foldl txF cur = cu2 := by rw [HX.out.2]; unfold txF; rw [if_pos e5]
                  exact ⟨k + 1, by omega, by go_num, by rw [hst]; exact OwnF.below HO2.out HB3.out, by rw [hst]; exact HD2.out.more (by omega), hB9⟩
                case measure => simp [intOf]; omega
              · have e4 : (a.kind != 4) = true := by simp [h4]
                have e5 : lastC l = false := by rw [hlast]; simp [h4]
                have hB9 := HB2.out.trans (HB3.out.mono zB2)
                clear y1
                go_wp2_with fail
                go_roundw
                case rel =>
                  have hst : (t.take (k + 1)).foldl txF cur = cu3 := by rw [HX.out.2, HX.out.1]; unfold txF; rw [if_neg (by rw [e5]; decide)]
                  exact ⟨k + 1, by omega, by go_num, by rw [hst]; exact OwnF.base HO3.out (by omega), by rw [hst]; exact HD3.out.more (by omega), hB9⟩
                case measure => simp [intOf]; omega
        · obtain rfl : k = t.length := by omega
          go_wp2_with fail
          go_roundw
          case rel =>
            have hth : (P.threads.take (i + 1)).foldl thF P.cells = cu2 := by rw [take_step HT.out, List.foldl_append, ← HCUR.out, HC2.out, List.take_length]; rfl
            exact ⟨i + 1, by omega, by go_num, by rw [hth]; exact HO2.out, by rw [hth]; exact HD2.out.more (by omega), HB2.out⟩
          case measure => simp [intOf]; omega
    · obtain rfl : i = P.threads.length := by omega
      have HF := hid (show OwnI wr W.heap.size (.slice ao P.cells.length co) (aloneF P) from by have h := HO.out; rw [HCUR.out, List.take_length] at h; exact h)
      go_wp2
      go_ret
      exact ⟨_, rfl, OwnF.base HF.out B0.out.size, B1.out.trans (HB.out.mono B1.out.size)⟩
end Go.Proofs.YtogphaiomlfofaaGreatDoor
