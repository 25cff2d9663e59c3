/- The engine clock: it aborts, it commits. Printed by wip/tools/genckc.py. Conditions: those of each theorem, as typed. -/
import Derived.Test.YtogphaiomlfofaaGreatDoorCkBM
import Derived.Deep.LoopGhost
set_option linter.unusedVariables false
set_option linter.unusedSimpArgs false
namespace Go.Proofs.YtogphaiomlfofaaGreatDoor
open Go.RowKit Go.Maps
set_option linter.unusedVariables false
set_option linter.unusedSimpArgs false
attribute [local irreducible] wpL

def LaNext (C : LC) (P : Pg) (i : Nat) (y : LM × Nx) (w : World) (e : Ending) (w' : World) : Prop := ∃ v ve' us', e = .returned v ∧ Below C.B w w' ∧ LaAt w' C ve' us' P y.1 ∧ NxAt w' C i ve' v y.2
theorem offN_get (id : Int) (n : Nat) (cs : List Ce) (k : Nat) : (offN id n cs)[k]? = cs[k]?.map fun c => if k < n ∧ c.own = id then ⟨c.val, c.ver, 0⟩ else c := by simp [offN, List.getElem?_mapIdx]
theorem offN_len (id : Int) (n : Nat) (cs : List Ce) : (offN id n cs).length = cs.length := by simp [offN]
theorem offCs_len (id : Int) (cs : List Ce) : (offCs id cs).length = cs.length := offN_len _ _ _
theorem offN_zero (id : Int) (cs : List Ce) : offN id 0 cs = cs := by
  apply List.ext_getElem?
  intro k
  rw [offN_get]
  cases cs[k]? <;> simp
theorem offN_at {id : Int} {n : Nat} {cs : List Ce} {c : Ce} (hc : cs[n]? = some c) : (offN id n cs)[n]? = some c := by rw [offN_get, hc]; simp
theorem offN_own {id : Int} {n : Nat} {cs : List Ce} {c : Ce} (hc : cs[n]? = some c) (h : c.own = id) : (offN id n cs).set n ⟨c.val, c.ver, 0⟩ = offN id (n + 1) cs := by
  apply List.ext_getElem?
  intro j
  by_cases e : n = j
  · subst e
    rw [List.getElem?_set_self (by rw [offN_len]; exact (List.getElem?_eq_some_iff.1 hc).1), offN_get, hc]
    simp [h]
  · rw [List.getElem?_set_ne e, offN_get, offN_get]
    cases cs[j]? with
    | none => rfl
    | some d => simp only [Option.map_some]; congr 2; simp only [eq_iff_iff]; constructor <;> (rintro ⟨h1, h2⟩; exact ⟨by omega, h2⟩)
theorem offN_not {id : Int} {n : Nat} {cs : List Ce} {c : Ce} (hc : cs[n]? = some c) (h : c.own ≠ id) : offN id n cs = offN id (n + 1) cs := by
  apply List.ext_getElem?
  intro j
  rw [offN_get, offN_get]
  by_cases e : n = j
  · subst e
    rw [hc]
    simp [h]
  · cases cs[j]? with
    | none => rfl
    | some d => simp only [Option.map_some]; congr 2; simp only [eq_iff_iff]; constructor <;> (rintro ⟨h1, h2⟩; exact ⟨by omega, h2⟩)
section
variable {w w' : World} {C : LC} {ve : Value} {P : Pg} {M : LM} {us : List WkV}
theorem LaAt.ceForm (h : LaAt w C ve us P M) : ∃ gC cc, C.ce = .slice (some ⟨gC, 0, none⟩) P.cells.length cc := by
  have h1 := h.ok.cells.1
  have h2 := h.clen
  rcases h.cells.form with ⟨-, hv⟩ | ⟨g, cap, hv, -⟩
  · rw [hv] at h2; simp at h2; omega
  · exact ⟨g, cap, by rw [hv, h2]⟩
theorem LaAt.ceAt (h : LaAt w C ve us P M) {gC cc : Nat} (hce : C.ce = .slice (some ⟨gC, 0, none⟩) P.cells.length cc) {k : Nat} (hk : k < P.cells.length) :
    gC < w.heap.size ∧ ∃ c, M.cs[k]? = some c ∧ w.cell? ⟨gC, k * 3, none⟩ = some (.int .i64 c.val) ∧ w.cell? ⟨gC, k * 3 + 1, none⟩ = some (.int .i64 c.ver) ∧ w.cell? ⟨gC, k * 3 + 2, none⟩ = some (.int .i64 c.own) := by
  have h2 := h.clen
  have hcl := h.cells
  rw [hce, ← h2] at hcl
  obtain ⟨g, off, c, hb, hgC, hc, hcc⟩ := Sl.atF Ce.len hcl.sl rfl (k := k) (by omega)
  simp only [Option.some.injEq, Addr.mk.injEq, and_true] at hb
  obtain ⟨rfl, rfl⟩ := hb
  refine ⟨hgC, c, hc, ?_, ?_, ?_⟩
  · have := hcc 0 (by decide); simpa [Ce.cells] using this
  · have := hcc 1 (by decide); simpa [Ce.cells] using this
  · have := hcc 2 (by decide); simpa [Ce.cells] using this
theorem LaAt.ceRow (h : LaAt w C ve us P M) {gC cc : Nat} (hce : C.ce = .slice (some ⟨gC, 0, none⟩) P.cells.length cc) : ∃ cs, w.heap[gC]? = some (.cells cs 116 (0, 0)) := by
  have hcl := h.cells
  rw [hce] at hcl
  exact hcl.keepObj gC rfl
theorem LaAt.ceSet (h : LaAt w C ve us P M) {gC cc : Nat} (hce : C.ce = .slice (some ⟨gC, 0, none⟩) P.cells.length cc) {k j : Nat} {c u : Ce} {a : Value} (hc : M.cs[k]? = some c) (hj : j < 3) (hu : u.cells = c.cells.set j a) :
    LaAt (w.setCell ⟨gC, k * 3 + j, none⟩ a) C ve us P { M with cs := M.cs.set k u } ∧ C.B ≤ gC ∧ Kd (fun t => t = 116) w (w.setCell ⟨gC, k * 3 + j, none⟩ a) ∧ KmAll w (w.setCell ⟨gC, k * 3 + j, none⟩ a) ∧ ∀ q, q ≠ gC → (w.setCell ⟨gC, k * 3 + j, none⟩ a).heap[q]? = w.heap[q]? := by
  obtain ⟨csr, hrC⟩ := h.ceRow hce
  have kd1 : Kd (fun t => t = 116) w (w.setCell ⟨gC, k * 3 + j, none⟩ a) := Kd.set (T := fun t => t = 116) hrC rfl _
  have km1 : KmAll w (w.setCell ⟨gC, k * 3 + j, none⟩ a) := KmAll.set hrC _
  refine ⟨h.turn (ws' := M.ws) (fun k cs t fz h1 h2 => kd1 k cs t fz h1 (fun e => h2 (.inl e))) ?_ (by rw [List.length_set]; exact h.clen) (h.wks.keep (OwnF.kd h.wks.own kd1 (by decide)) km1), (h.cells.lt gC (by rw [hce]; rfl)).1, kd1, km1, fun q hq => Below.heap_setCell _ ⟨gC, k * 3 + j, none⟩ _ q hq⟩
  have h1 := h.cells
  rw [hce] at h1 ⊢
  exact own_setN h1 Ce.len hj hc hu
theorem LaAt.wkCell (h : LaAt w C ve us P M) {i : Nat} (hi : i < P.threads.length) : ∃ u, us[i]? = some u ∧ C.gW < w.heap.size ∧ w.cell? ⟨C.gW, i * 3, none⟩ = some (.int .i64 u.1) ∧ w.cell? ⟨C.gW, i * 3 + 1, none⟩ = some u.2.1 ∧ w.cell? ⟨C.gW, i * 3 + 2, none⟩ = some u.2.2 := by
  obtain ⟨gW', off, x, hb, hgW, hx, hcw⟩ := Sl.atF wkC_len (show Sl w w.heap.size 3 (.slice (some ⟨C.gW, 0, none⟩) P.threads.length P.threads.length) P.threads.length (us.flatMap wkC) from by have h2 := h.wks.own; have h3 := h2.len; rw [← h3] at h2 ⊢; exact h2.sl) h.wks.own.len hi
  simp only [Option.some.injEq, Addr.mk.injEq, and_true] at hb
  obtain ⟨rfl, rfl⟩ := hb
  refine ⟨x, hx, hgW, ?_, ?_, ?_⟩
  · have := hcw 0 (by decide); simpa [wkC] using this
  · have := hcw 1 (by decide); simpa [wkC] using this
  · have := hcw 2 (by decide); simpa [wkC] using this
theorem LaAt.woAt (h : LaAt w C ve us P M) {i : Nat} (hi : i < P.threads.length) {tm : Int} {r : MB} {s : MI} (hws : M.ws[i]? = some (some (tm, r, s))) : ∃ br bs, us[i]? = some (tm, .map (some br), .map (some bs)) ∧ WoAt w C.B (tm, .map (some br), .map (some bs)) (some (tm, r, s)) ∧ C.gW < w.heap.size ∧
    w.cell? ⟨C.gW, i * 3, none⟩ = some (.int .i64 tm) ∧ w.cell? ⟨C.gW, i * 3 + 1, none⟩ = some (.map (some br)) ∧ w.cell? ⟨C.gW, i * 3 + 2, none⟩ = some (.map (some bs)) := by
  obtain ⟨u, hu, hg, w0, w1, w2⟩ := h.wkCell hi
  obtain ⟨o, ho, hwo⟩ := h.wks.at hu
  rw [hws] at ho
  obtain rfl := Option.some.inj ho
  obtain ⟨br, bs, rfl, rest⟩ := id hwo
  exact ⟨br, bs, hu, hwo, hg, w0, w1, w2⟩
theorem BxM.kd {i p1 p2 : Nat} {T : TypeId → Prop} (h : BxM w C i p1 p2) (hk : Kd T w w') (h1 : ¬ T 62) (h2 : ¬ T 3) : BxM w' C i p1 p2 := h.keep (fun p u hp => hk _ _ _ _ hp h1) fun p u hp => hk _ _ _ _ hp h2
set_option maxRecDepth 100000 in
set_option maxHeartbeats 2000000 in
theorem la_abort1 (h : LaAt w C ve us P M) (i : Nat) (hi : i < P.threads.length) {t : Th} (ht : M.W.ths[i]? = some t) (hd : thDone P i t = false) (hbg : t.begun = true) (hl : M.W.evs.length ≤ 100000) {p1 p2 : Nat} (hx : BxM w C i p1 p2) :
    Calls Tryz.prog 137 #[.pointer (some ⟨p1, 0, none⟩), .pointer (some ⟨p2, 0, none⟩)] w (LaPost C P (abortStep P M i t) .nilFunc w) := by
  have hn4 := h.ok.threads.2
  have hc4 := h.ok.cells.2
  obtain ⟨gC, cc, hce⟩ := h.ceForm
  have e0 := row_cell h.row 0
  have lM := row_lt h.row
  have x0 := row_cell hx.1 0
  have x1 := row_cell hx.2.1 0
  have l1 := row_lt hx.1
  have l2 := row_lt hx.2.1
  have H := hid h
  have HT := hid ht
  have HD := hid (And.intro hd hbg)
  have HCE := hid hce
  have HBX := hid hx
  clear h ht hce hx hd hbg
  go_enter Tryz.func137, Tryz.ntmps137
  go_wp2_with fail
  refine wp_region_x [1, 0, 0, 1, 1, 2, 0] [0, 1, 2, 3, 4, 5, 6] (by kernel_rfl) (by kernel_rfl) rfl (by kernel_rfl) ?_
  simp only [selX, guardAt, sD, sE, sF, sG]
  repeat (first | (refine wpL_p (fun K hK => ?_); go_simp; refine hK _ _ ?_; clear hK K) | (apply wpL_s; (intro w2 hw2; have hk1 := hw2.cell; have hk3 := hw2.heap; clear hw2; go_simp; with_reducible rfl); simp only [Act.put, sA, sB, sC]) | (refine wpL_nil ?_))
  refine wpL_e (fun K hK => ?_)
  go_simp
  refine (la_tx (H.out.below (Below.refl _ w).drew) i hi HT.out HD.out.1 HD.out.2).mono ?_
  rintro e X ⟨rfl, bX⟩
  refine hK _ _ ?_
  clear hK K
  have bX : Below w.heap.size w X := (Below.refl _ w).drew.trans bX
  repeat (first | (refine wpL_p (fun K hK => ?_); go_simp; refine hK _ _ ?_; clear hK K) | (apply wpL_s; (intro w2 hw2; have hk1 := hw2.cell; have hk3 := hw2.heap; clear hw2; go_simp; with_reducible rfl); simp only [Act.put, sA, sB, sC]) | (refine wpL_nil ?_))
  have HX := hid (H.out.below bX)
  have BX := hid (bX.mono H.out.size)
  have BXM := hid (HBX.out.below bX)
  have x0 := row_cell BXM.out.1 0
  have x1 := row_cell BXM.out.2.1 0
  have l1 := row_lt BXM.out.1
  have l2 := row_lt BXM.out.2.1
  have e1 := row_cell HX.out.row 1
  rw [HCE.out] at e1
  have lM := row_lt HX.out.row
  clear bX H HBX e0
  go_wp2_with fail
  clear x0 x1 l1 l2 e1 lM
  go_loopw [16] (fun p wr => ∃ (n : Nat), n ≤ P.cells.length ∧ p = .int .i64 n ∧ LaAt wr C ve us P { M with cs := offN (idOf i t.tx) n M.cs } ∧ Below C.B w wr ∧ BxM wr C i p1 p2) (fun p _ => P.cells.length - (intOf p).toNat)
  case atStart => exact ⟨0, by omega, by go_num, by rw [offN_zero]; exact HX.out, BX.out, BXM.out⟩
  case round =>
    obtain ⟨n, hn, rfl, hL, hB, hbx⟩ := hrel
    have HL := hid hL
    have HB := hid hB
    have HBX := hid hbx
    clear hL hB hbx HX BX BXM
    have x0 := row_cell HBX.out.1 0
    have x1 := row_cell HBX.out.2.1 0
    have l1 := row_lt HBX.out.1
    have l2 := row_lt HBX.out.2.1
    have e0 := row_cell HL.out.row 0
    have e1 := row_cell HL.out.row 1
    rw [HCE.out] at e1
    have lM := row_lt HL.out.row
    have hcl : M.cs.length = P.cells.length := by have := HL.out.clen; rwa [offN_len] at this
    by_cases hlt : n < P.cells.length
    · obtain ⟨c, hc⟩ : ∃ c, M.cs[n]? = some c := ⟨_, List.getElem?_eq_getElem (by omega)⟩
      have hc3 := offN_at (id := idOf i t.tx) hc
      obtain ⟨lC, c', hc', c0, c1, c2⟩ := HL.out.ceAt HCE.out hlt
      rw [hc3] at hc'
      obtain rfl := Option.some.inj hc'
      by_cases ho : c.own = idOf i t.tx
      · have q1 : (c.own == idOf i t.tx) = true := by simpa using ho
        obtain ⟨L4, hBC, kd1, km1, ro⟩ := HL.out.ceSet HCE.out (k := n) (j := 2) (c := c) (u := ⟨c.val, c.ver, 0⟩) (a := .int .i64 0) hc3 (by decide) rfl
        rw [offN_own hc ho] at L4
        obtain ⟨csr, hrC⟩ := HL.out.ceRow HCE.out
        have ff1 := row_free hrC (n * 3 + 2)
        have bx4 := HBX.out.kd kd1 (by decide) (by decide)
        have b4 := HB.out.setCell (p := ⟨gC, n * 3 + 2, none⟩) hBC (.int .i64 0)
        have HL4 := hid L4
        have HB4 := hid b4
        have HX4 := hid bx4
        clear L4 kd1 km1 ro bx4 b4 hrC hc hc3 ho
        go_wp2_with fail
        go_roundw
        case rel => exact ⟨n + 1, by omega, by go_num, HL4.out, HB4.out, HX4.out⟩
        case measure => simp [intOf]; omega
      · have q1 : (c.own == idOf i t.tx) = false := by simpa using ho
        have HL4 := hid (show LaAt wr C ve us P { M with cs := offN (idOf i t.tx) (n + 1) M.cs } from by rw [← offN_not hc ho]; exact HL.out)
        clear hc hc3 ho
        go_wp2_with fail
        go_roundw
        case rel => exact ⟨n + 1, by omega, by go_num, HL4.out, HB.out, HBX.out⟩
        case measure => simp [intOf]; omega
    · obtain rfl : n = P.cells.length := by omega
      have HL2 := hid (show LaAt wr C ve us P { M with cs := offCs (idOf i t.tx) M.cs } from by unfold offCs; rw [hcl]; exact HL.out)
      clear HL
      go_wp2_with fail
      refine wp_region_x [1, 0, 0, 1, 1, 2] [0, 1, 2, 3, 4, 5] (by kernel_rfl) (by kernel_rfl) rfl (by kernel_rfl) ?_
      simp only [selX, guardAt, sD, sE, sF, sG]
      repeat (first | (refine wpL_p (fun K hK => ?_); go_simp; refine hK _ _ ?_; clear hK K) | (apply wpL_s; (intro w2 hw2; have hk1 := hw2.cell; have hk3 := hw2.heap; clear hw2; go_simp; with_reducible rfl); simp only [Act.put, sA, sB, sC]) | (refine wpL_nil ?_))
      refine wpL_e (fun K hK => ?_)
      go_simp
      refine (la_said (HL2.out.below (Below.refl _ wr).drew) i hi HT.out 0 true (by omega) hl).mono ?_
      rintro e X2 ⟨rfl, hb, ve', us', hla⟩
      refine hK _ _ ?_
      clear hK K
      have B2 := hid (HB.out.drew.trans hb)
      have L2 := hid hla
      clear hb hla x0 x1 e0 e1
      repeat (first | (refine wpL_p (fun K hK => ?_); go_simp; refine hK _ _ ?_; clear hK K) | (apply wpL_s; (intro w2 hw2; have hk1 := hw2.cell; have hk3 := hw2.heap; clear hw2; go_simp; with_reducible rfl); simp only [Act.put, sA, sB, sC]) | (refine wpL_nil ?_))
      go_wp2
      go_ret
      exact ⟨rfl, B2.out, ve', us', L2.out⟩
set_option maxRecDepth 100000 in
theorem la_mkAbort (h : LaAt w C ve us P M) (i : Nat) : Calls Tryz.prog 102 #[.pointer (some ⟨C.bM, 0, none⟩), .int .i64 i] w fun e w' => ∃ p1 p2, e = .returned (.func (.func 137) #[] #[.pointer (some ⟨p1, 0, none⟩), .pointer (some ⟨p2, 0, none⟩)]) ∧ Below w.heap.size w w' ∧ BxM w' C i p1 p2 := by
  have hB := h.size
  have bA : Below w.heap.size w ((w.alloc (.cells #[.pointer (some ⟨C.bM, 0, none⟩)] 62)).alloc (.cells #[.int .i64 i] 3)) := ((Below.refl _ w).alloc (Nat.le_refl _) _).alloc (by simp) _
  have hbx : BxM ((w.alloc (.cells #[.pointer (some ⟨C.bM, 0, none⟩)] 62)).alloc (.cells #[.int .i64 i] 3)) C i w.heap.size (w.heap.size + 1) := ⟨row_old (row_new w _), row_new' (by simp), hB, by omega⟩
  have BA := hid bA
  have BX := hid hbx
  clear h bA hbx
  go_enter Tryz.func102, Tryz.ntmps102
  go_wp2
  go_ret
  exact ⟨_, _, rfl, BA.out, BX.out⟩
set_option maxRecDepth 100000 in
theorem la_mkCommit (h : LaAt w C ve us P M) (i : Nat) : Calls Tryz.prog 103 #[.pointer (some ⟨C.bM, 0, none⟩), .int .i64 i] w fun e w' => ∃ p1 p2, e = .returned (.func (.func 138) #[] #[.pointer (some ⟨p1, 0, none⟩), .pointer (some ⟨p2, 0, none⟩)]) ∧ Below w.heap.size w w' ∧ BxM w' C i p1 p2 := by
  have hB := h.size
  have bA : Below w.heap.size w ((w.alloc (.cells #[.pointer (some ⟨C.bM, 0, none⟩)] 62)).alloc (.cells #[.int .i64 i] 3)) := ((Below.refl _ w).alloc (Nat.le_refl _) _).alloc (by simp) _
  have hbx : BxM ((w.alloc (.cells #[.pointer (some ⟨C.bM, 0, none⟩)] 62)).alloc (.cells #[.int .i64 i] 3)) C i w.heap.size (w.heap.size + 1) := ⟨row_old (row_new w _), row_new' (by simp), hB, by omega⟩
  have BA := hid bA
  have BX := hid hbx
  clear h bA hbx
  go_enter Tryz.func103, Tryz.ntmps103
  go_wp2
  go_ret
  exact ⟨_, _, rfl, BA.out, BX.out⟩
set_option maxRecDepth 100000 in
theorem la_mkTick (h : LaAt w C ve us P M) (i : Nat) : Calls Tryz.prog 139 #[.pointer (some ⟨C.bM, 0, none⟩), .int .i64 i] w fun e w' => ∃ p1 p2, e = .returned (.func (.func 175) #[] #[.pointer (some ⟨p1, 0, none⟩), .pointer (some ⟨p2, 0, none⟩)]) ∧ Below w.heap.size w w' ∧ BxM w' C i p1 p2 := by
  have hB := h.size
  have bA : Below w.heap.size w ((w.alloc (.cells #[.pointer (some ⟨C.bM, 0, none⟩)] 62)).alloc (.cells #[.int .i64 i] 3)) := ((Below.refl _ w).alloc (Nat.le_refl _) _).alloc (by simp) _
  have hbx : BxM ((w.alloc (.cells #[.pointer (some ⟨C.bM, 0, none⟩)] 62)).alloc (.cells #[.int .i64 i] 3)) C i w.heap.size (w.heap.size + 1) := ⟨row_old (row_new w _), row_new' (by simp), hB, by omega⟩
  have BA := hid bA
  have BX := hid hbx
  clear h bA hbx
  go_enter Tryz.func139, Tryz.ntmps139
  go_wp2
  go_ret
  exact ⟨_, _, rfl, BA.out, BX.out⟩
set_option maxRecDepth 100000 in
theorem la_com1 (h : LaAt w C ve us P M) (i : Nat) (hi : i < P.threads.length) {t : Th} (ht : M.W.ths[i]? = some t) (hl : M.W.evs.length ≤ 100000) {p1 p2 : Nat} (hx : BxM w C i p1 p2) :
    Calls Tryz.prog 138 #[.pointer (some ⟨p1, 0, none⟩), .pointer (some ⟨p2, 0, none⟩)] w (LaPost C P { M with W := M.W.putO i (ansOf P i t 0 false) } .nilFunc w) := by
  have y0 := row_cell hx.1 0
  have y1 := row_cell hx.2.1 0
  have k0 := row_lt hx.1
  have k1 := row_lt hx.2.1
  have e0 := row_cell h.row 0
  have lm := row_lt h.row
  have H := hid h
  have HT := hid ht
  clear h ht hx
  go_enter Tryz.func138, Tryz.ntmps138
  go_wp2_with fail
  refine wp_region_x [1, 0, 0, 1, 1, 2] [0, 1, 2, 3, 4, 5] (by kernel_rfl) (by kernel_rfl) rfl (by kernel_rfl) ?_
  simp only [selX, guardAt, sD, sE, sF, sG]
  repeat (first | (refine wpL_p (fun K hK => ?_); go_simp; refine hK _ _ ?_; clear hK K) | (apply wpL_s; (intro w2 hw2; have hk1 := hw2.cell; have hk3 := hw2.heap; clear hw2; go_simp; with_reducible rfl); simp only [Act.put, sA, sB, sC]) | (refine wpL_nil ?_))
  refine wpL_e (fun K hK => ?_)
  go_simp
  refine (la_said (H.out.below (Below.refl _ w).drew) i hi HT.out 0 false (by omega) hl).mono ?_
  rintro e X2 ⟨rfl, hb, ve', us', hla⟩
  refine hK _ _ ?_
  clear hK K
  have B2 := hid ((Below.refl C.B w).drew.trans hb)
  have L2 := hid hla
  clear hb hla y0 y1 e0
  repeat (first | (refine wpL_p (fun K hK => ?_); go_simp; refine hK _ _ ?_; clear hK K) | (apply wpL_s; (intro w2 hw2; have hk1 := hw2.cell; have hk3 := hw2.heap; clear hw2; go_simp; with_reducible rfl); simp only [Act.put, sA, sB, sC]) | (refine wpL_nil ?_))
  go_wp2
  go_ret
  exact ⟨rfl, B2.out, ve', us', L2.out⟩
end
end Go.Proofs.YtogphaiomlfofaaGreatDoor
