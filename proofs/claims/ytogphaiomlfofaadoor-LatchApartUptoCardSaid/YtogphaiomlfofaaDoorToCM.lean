/- The engine latch: it aborts; it lets go. Printed by wip/tools/gentoc.py. Conditions: those of each theorem, as typed. -/
import Derived.Test.YtogphaiomlfofaaDoorToBM
import Derived.Deep.LoopGhost
set_option linter.unusedVariables false
set_option linter.unusedSimpArgs false
namespace Go.Proofs.YtogphaiomlfofaaDoor
open Go.RowKit Go.Maps
set_option linter.unusedVariables false
set_option linter.unusedSimpArgs false
attribute [local irreducible] wpL

def LaNext (C : LC) (P : Pg) (i : Nat) (y : LM × Nx) (w : World) (e : Ending) (w' : World) : Prop := ∃ v ve' us', e = .returned v ∧ Below C.B w w' ∧ LaAt w' C ve' us' P y.1 ∧ NxAt w' C i ve' v y.2
theorem bkS_get (s : MI) (S : Int → Bool) (cs : List Ce) (k : Nat) : (bkS s S cs)[k]? = cs[k]?.map fun c => match fnd (k : Int) s with
    | some v => if S k then c else ⟨v, c.own⟩
    | none => c := by simp [bkS, List.getElem?_mapIdx]; rfl
theorem goS_get (r : MB) (S : Int → Bool) (cs : List Ce) (k : Nat) : (goS r S cs)[k]? = cs[k]?.map fun c => match fnd (k : Int) r with
    | some _ => if S k then c else ⟨c.val, 0⟩
    | none => c := by simp [goS, List.getElem?_mapIdx]; rfl
theorem bkS_len (s : MI) (S : Int → Bool) (cs : List Ce) : (bkS s S cs).length = cs.length := by simp [bkS]
theorem goS_len (r : MB) (S : Int → Bool) (cs : List Ce) : (goS r S cs).length = cs.length := by simp [goS]
theorem offCs_len (r : MB) (s : MI) (cs : List Ce) : (offCs r s cs).length = cs.length := by simp [offCs, goS_len, bkS_len]
theorem bkS_start (s : MI) (cs : List Ce) : bkS s (fun _ => true) cs = cs := by
  apply List.ext_getElem?
  intro k
  rw [bkS_get]
  cases cs[k]? with
  | none => rfl
  | some c => cases fnd (k : Int) s <;> simp
theorem bkS_end {s : MI} {S : Int → Bool} (hs : KSrt s) (h : ∀ p ∈ s, S p.1 = false) (cs : List Ce) : bkS s S cs = bkS s (fun _ => false) cs := by
  apply List.ext_getElem?
  intro k
  rw [bkS_get, bkS_get]
  cases cs[k]? with
  | none => rfl
  | some c =>
    cases hf : fnd (k : Int) s with
    | none => rfl
    | some v => have := h _ ((fnd_some hs).1 hf); simp only at this; simp [this]
theorem bkS_step {s : MI} {S : Int → Bool} (hs : KSrt s) {k : Nat} {u : Int} (hm : ((k : Int), u) ∈ s) {cs : List Ce} {c : Ce} (hc : cs[k]? = some c) : (bkS s S cs).set k ⟨u, c.own⟩ = bkS s (fun z => S z && !(z == (k : Int))) cs := by
  apply List.ext_getElem?
  intro j
  by_cases e : k = j
  · subst e
    rw [List.getElem?_set_self (by rw [bkS_len]; exact (List.getElem?_eq_some_iff.1 hc).1), bkS_get, hc, (fnd_some hs).2 hm]
    simp
  · rw [List.getElem?_set_ne e, bkS_get, bkS_get]
    have e2 : ((j : Int) == (k : Int)) = false := by simp; omega
    simp [e2]
theorem bkS_at {s : MI} {S : Int → Bool} (hs : KSrt s) {k : Nat} {u : Int} (hm : ((k : Int), u) ∈ s) (hS : S k = true) {cs : List Ce} {c : Ce} (hc : cs[k]? = some c) : (bkS s S cs)[k]? = some c := by
  rw [bkS_get, hc, (fnd_some hs).2 hm]
  simp [hS]
theorem goS_start (r : MB) (cs : List Ce) : goS r (fun _ => true) cs = cs := by
  apply List.ext_getElem?
  intro k
  rw [goS_get]
  cases cs[k]? with
  | none => rfl
  | some c => cases fnd (k : Int) r <;> simp
theorem goS_end {r : MB} {S : Int → Bool} (hs : KSrt r) (h : ∀ p ∈ r, S p.1 = false) (cs : List Ce) : goS r S cs = goS r (fun _ => false) cs := by
  apply List.ext_getElem?
  intro k
  rw [goS_get, goS_get]
  cases cs[k]? with
  | none => rfl
  | some c =>
    cases hf : fnd (k : Int) r with
    | none => rfl
    | some v => have := h _ ((fnd_some hs).1 hf); simp only at this; simp [this]
theorem goS_step {r : MB} {S : Int → Bool} (hs : KSrt r) {k : Nat} {u : Unit} (hm : ((k : Int), u) ∈ r) {cs : List Ce} {c : Ce} (hc : cs[k]? = some c) : (goS r S cs).set k ⟨c.val, 0⟩ = goS r (fun z => S z && !(z == (k : Int))) cs := by
  apply List.ext_getElem?
  intro j
  by_cases e : k = j
  · subst e
    rw [List.getElem?_set_self (by rw [goS_len]; exact (List.getElem?_eq_some_iff.1 hc).1), goS_get, hc, (fnd_some hs).2 hm]
    simp
  · rw [List.getElem?_set_ne e, goS_get, goS_get]
    have e2 : ((j : Int) == (k : Int)) = false := by simp; omega
    simp [e2]
theorem goS_at {r : MB} {S : Int → Bool} (hs : KSrt r) {k : Nat} {u : Unit} (hm : ((k : Int), u) ∈ r) (hS : S k = true) {cs : List Ce} {c : Ce} (hc : cs[k]? = some c) : (goS r S cs)[k]? = some c := by
  rw [goS_get, hc, (fnd_some hs).2 hm]
  simp [hS]
section
variable {w w' : World} {C : LC} {ve : Value} {P : Pg} {M : LM} {us : List (Value × Value)}
theorem LaAt.still (h : LaAt w C ve us P M) (hk : Kd (fun _ => False) w w') (hm : KmAll w w') : LaAt w' C ve us P M :=
  h.turn (cs' := M.cs) (ws' := M.ws) (fun k cs t fz hb _ => hk k cs t fz hb (fun h => h)) (OwnF.kd h.cells hk fun h => h) h.clen (h.wks.keep (OwnF.kd h.wks.own hk fun h => h) hm)
theorem LaAt.ceForm (h : LaAt w C ve us P M) : ∃ gC cc, C.ce = .slice (some ⟨gC, 0, none⟩) P.cells.length cc := by
  have h1 := h.ok.cells.1
  have h2 := h.clen
  rcases h.cells.form with ⟨-, hv⟩ | ⟨g, cap, hv, -⟩
  · rw [hv] at h2; simp at h2; omega
  · exact ⟨g, cap, by rw [hv, h2]⟩
theorem LaAt.ceAt (h : LaAt w C ve us P M) {gC cc : Nat} (hce : C.ce = .slice (some ⟨gC, 0, none⟩) P.cells.length cc) {k : Nat} (hk : k < P.cells.length) :
    gC < w.heap.size ∧ ∃ c, M.cs[k]? = some c ∧ w.cell? ⟨gC, k * 2, none⟩ = some (.int .i64 c.val) ∧ w.cell? ⟨gC, k * 2 + 1, none⟩ = some (.int .i64 c.own) := by
  have h2 := h.clen
  have hcl := h.cells
  rw [hce, ← h2] at hcl
  obtain ⟨g, off, c, hb, hgC, hc, hcc⟩ := Sl.atF Ce.len hcl.sl rfl (k := k) (by omega)
  simp only [Option.some.injEq, Addr.mk.injEq, and_true] at hb
  obtain ⟨rfl, rfl⟩ := hb
  refine ⟨hgC, c, hc, ?_, ?_⟩
  · have := hcc 0 (by decide); simpa [Ce.cells] using this
  · have := hcc 1 (by decide); simpa [Ce.cells] using this
theorem LaAt.ceRow (h : LaAt w C ve us P M) {gC cc : Nat} (hce : C.ce = .slice (some ⟨gC, 0, none⟩) P.cells.length cc) : ∃ cs, w.heap[gC]? = some (.cells cs 74 (0, 0)) := by
  have hcl := h.cells
  rw [hce] at hcl
  exact hcl.keepObj gC rfl
theorem LaAt.ceSet (h : LaAt w C ve us P M) {gC cc : Nat} (hce : C.ce = .slice (some ⟨gC, 0, none⟩) P.cells.length cc) {k j : Nat} {c u : Ce} {a : Value} (hc : M.cs[k]? = some c) (hj : j < 2) (hu : u.cells = c.cells.set j a) :
    LaAt (w.setCell ⟨gC, k * 2 + j, none⟩ a) C ve us P { M with cs := M.cs.set k u } ∧ C.B ≤ gC ∧ Kd (fun t => t = 74) w (w.setCell ⟨gC, k * 2 + j, none⟩ a) ∧ KmAll w (w.setCell ⟨gC, k * 2 + j, none⟩ a) ∧ ∀ q, q ≠ gC → (w.setCell ⟨gC, k * 2 + j, none⟩ a).heap[q]? = w.heap[q]? := by
  obtain ⟨csr, hrC⟩ := h.ceRow hce
  have kd1 : Kd (fun t => t = 74) w (w.setCell ⟨gC, k * 2 + j, none⟩ a) := Kd.set (T := fun t => t = 74) hrC rfl _
  have km1 : KmAll w (w.setCell ⟨gC, k * 2 + j, none⟩ a) := KmAll.set hrC _
  refine ⟨h.turn (ws' := M.ws) (fun k cs t fz h1 h2 => kd1 k cs t fz h1 (fun e => h2 (.inl e))) ?_ (by rw [List.length_set]; exact h.clen) (h.wks.keep (OwnF.kd h.wks.own kd1 (by decide)) km1), (h.cells.lt gC (by rw [hce]; rfl)).1, kd1, km1, fun q hq => Below.heap_setCell _ ⟨gC, k * 2 + j, none⟩ _ q hq⟩
  have h1 := h.cells
  rw [hce] at h1 ⊢
  exact own_setN h1 Ce.len hj hc hu
theorem LaAt.woAt (h : LaAt w C ve us P M) {i : Nat} (hi : i < P.threads.length) {r : MB} {s : MI} (hws : M.ws[i]? = some (some (r, s))) : ∃ br bs, us[i]? = some (.map (some br), .map (some bs)) ∧ WoAt w C.B (.map (some br), .map (some bs)) (some (r, s)) ∧ C.gW < w.heap.size ∧
    w.cell? ⟨C.gW, i * 2, none⟩ = some (.map (some br)) ∧ w.cell? ⟨C.gW, i * 2 + 1, none⟩ = some (.map (some bs)) := by
  obtain ⟨u, hu⟩ : ∃ u, us[i]? = some u := ⟨_, List.getElem?_eq_getElem (by have := h.wks.own.len; omega)⟩
  obtain ⟨o, ho, hwo⟩ := h.wks.at hu
  rw [hws] at ho
  obtain rfl := Option.some.inj ho
  obtain ⟨br, bs, rfl, rest⟩ := id hwo
  obtain ⟨gW', off, x, hb, hgW, hx, hcw⟩ := Sl.atF moC_len (show Sl w w.heap.size 2 (.slice (some ⟨C.gW, 0, none⟩) P.threads.length P.threads.length) P.threads.length (us.flatMap moC) from by have h2 := h.wks.own; have h3 := h2.len; rw [← h3] at h2 ⊢; exact h2.sl) h.wks.own.len hi
  simp only [Option.some.injEq, Addr.mk.injEq, and_true] at hb
  obtain ⟨rfl, rfl⟩ := hb
  rw [hu] at hx
  obtain rfl := Option.some.inj hx
  refine ⟨br, bs, hu, hwo, hgW, ?_, ?_⟩
  · have := hcw 0 (by decide); simpa [moC] using this
  · have := hcw 1 (by decide); simpa [moC] using this
theorem BxM.kd {i p1 p2 : Nat} {T : TypeId → Prop} (h : BxM w C i p1 p2) (hk : Kd T w w') (h1 : ¬ T 60) (h2 : ¬ T 3) : BxM w' C i p1 p2 := h.keep (fun p u hp => hk _ _ _ _ hp h1) fun p u hp => hk _ _ _ _ hp h2
set_option maxRecDepth 100000 in
set_option maxHeartbeats 2000000 in
theorem la_abort1 (h : LaAt w C ve us P M) (i : Nat) (hi : i < P.threads.length) {t : Th} (ht : M.W.ths[i]? = some t) (hl : M.W.evs.length ≤ 100000) {r : MB} {s : MI} (hws : M.ws[i]? = some (some (r, s)))
    (hcn : WoCan P r s) {p1 p2 : Nat} (hx : BxM w C i p1 p2) :
    Calls Tryd.prog 38 #[.pointer (some ⟨p1, 0, none⟩), .pointer (some ⟨p2, 0, none⟩)] w (LaPost C P (abortStep P M i t r s) .nilFunc w) := by
  have hn4 := h.ok.threads.2
  obtain ⟨gC, cc, hce⟩ := h.ceForm
  obtain ⟨br, bs, hu, hwo, hgW, w0, w1⟩ := h.woAt hi hws
  have d1 := row_cell h.row 1
  have d2 := row_cell h.row 2
  rw [hce] at d1
  have lM := row_lt h.row
  have x0 := row_cell hx.1 0
  have x1 := row_cell hx.2.1 0
  have l1 := row_lt hx.1
  have l2 := row_lt hx.2.1
  have H := hid h
  have HT := hid ht
  have HP := hid hwo
  have HCN := hid hcn
  have HCE := hid hce
  have HBX := hid hx
  clear h hu ht hws hwo hcn hce hx
  go_enter Tryd.func38, Tryd.ntmps38
  go_wp2_with fail
  refine RN.wp_region_t (w.heap.size) [1, 0, 0, 1, 1, 0, 1, 3, 3] (.fin [0, 1, 2, 3, 4, 5, 6, 7, 8]) (by kernel_rfl) (by kernel_rfl) (by kernel_rfl) (by kernel_rfl) ?_
  simp only [RN.wpT, selX, guardAt, sD, sE, sF, sG]
  repeat (first | (refine RN.wpL_p (fun K hK => ?_); go_simp; refine hK _ _ ?_; clear hK K) | (apply RN.wpL_s; (intro w2 hw2; have hk1 := hw2.cell; have hk3 := hw2.1; clear hw2; go_simp; with_reducible rfl); simp only [Act.put, sA, sB, sC]) | (refine RN.wpL_nil ?_))
  refine RN.wpL_k (fun K hK => ?_)
  go_simp
  refine hK _ _ (RN.KeepsN.alloc _ _ (by first | omega | exact Nat.le_refl _)) ?_
  clear hK K
  refine RN.wpL_k (fun K hK => ?_)
  go_simp
  refine hK _ _ (KeepsN.both (W := w) (RN.KeepsN.alloc _ _ (Nat.le_refl _)) (RN.KeepsN.alloc _ _ (Nat.le_refl _)) (by simp)) ?_
  clear hK K
  repeat (first | (refine RN.wpL_p (fun K hK => ?_); go_simp; refine hK _ _ ?_; clear hK K) | (apply RN.wpL_s; (intro w2 hw2; have hk1 := hw2.cell; have hk3 := hw2.1; clear hw2; go_simp; with_reducible rfl); simp only [Act.put, sA, sB, sC]) | (refine RN.wpL_nil ?_))
  have bX : Below w.heap.size w (w.alloc (.cells #[.map (some br), .map (some bs)] 89)).drew := ((Below.refl w.heap.size w).alloc (Nat.le_refl _) _).drew
  have rX : (w.alloc (.cells #[.map (some br), .map (some bs)] 89)).drew.heap[w.heap.size]? = some (.cells #[.map (some br), .map (some bs)] 89 (0, 0)) := row_new w _
  have zX : (w.alloc (.cells #[.map (some br), .map (some bs)] 89)).drew.heap.size = w.heap.size + 1 := by simp
  generalize (w.alloc (.cells #[.map (some br), .map (some bs)] 89)).drew = X at *
  have x71 := row_cell rX 1
  have lXW := row_lt rX
  have HX := hid (H.out.below bX)
  have HQX := hid (HP.out.keep fun b hb => by
      obtain ⟨-, es, cl, hh⟩ := HP.out.isMap b hb
      rw [row_below hh bX (row_lt hh), hh])
  have hBX : C.B ≤ w.heap.size := H.out.size
  have BX := hid (bX.mono hBX)
  have BXM := hid (HBX.out.below bX)
  have RX := hid rX
  have ZX := hid zX
  clear bX rX zX H HP HBX d1 d2 w0 w1 x0 x1
  obtain ⟨br', bs', hu', hbr, hbs, hne, hmr, hms, hcr, hsr, hcs, hss⟩ := HQX.out
  simp only [Prod.mk.injEq, Value.map.injEq, Option.some.injEq] at hu'
  obtain ⟨rfl, rfl⟩ := hu'
  have HMR := hid hmr
  have HMS := hid hms
  have HCR := hid hcr
  have HCS := hid hcs
  have HSR := hid hsr
  have HSS := hid hss
  clear hmr hms hcr hsr hcs hss HQX
  have hrX := HMR.out.lt
  go_wp2_with (at_range; refine Stop.halt ?_)
  refine Stop.go ?_
  refine HMS.out.wpList_range keyI HCS.out.dom HSS.out Tryd.underlying87 rfl rfl (by rfl) ?_
  intro Y hrg hg hz
  have HG := hid hrg
  have bY := below_ranged (Below.refl X.heap.size X) hg (Nat.le_refl _)
  have hzX : C.B ≤ X.heap.size := by have := ZX.out; omega
  have LY := hid (show LaAt Y C ve us P { M with cs := bkS s (fun _ => true) M.cs } from by rw [bkS_start]; exact HX.out.below bY)
  have BY := hid (BX.out.trans (bY.mono hzX))
  have BXY := hid (BXM.out.below bY)
  have RY := hid (row_below RX.out bY lXW)
  have MRY := hid (HMR.out.below bY hrX)
  have hzY : X.heap.size + 1 ≤ Y.heap.size := by omega
  clear hrg hg hz bY x71 HMR BXM RX BX
  go_wp2_with fail
  go_frame
  go_loopg [17] s.length (fun k _ wr => ∃ S, RngI wr bs X.heap.size s S k ∧ LaAt wr C ve us P { M with cs := bkS s S M.cs } ∧ Below C.B w wr ∧ X.heap.size + 1 ≤ wr.heap.size ∧ BxM wr C i p1 p2 ∧ wr.heap[w.heap.size]? = some (.cells #[.map (some br), .map (some bs)] 89 (0, 0)) ∧ IsMB wr br r.length r)
  case atStart => exact ⟨_, HG.out, LY.out, BY.out, hzY, BXY.out, RY.out, MRY.out⟩
  case round =>
    obtain ⟨S, hrg, hL, hB, hz, hbx, hrw, hmr⟩ := hrel
    have HG := hid hrg
    have HL := hid hL
    have HB := hid hB
    have HBX := hid hbx
    have HRW := hid hrw
    have HMR := hid hmr
    clear hrg hL hB hbx hrw hmr hzY LY BY BXY RY MRY
    go_wp2_with (at_next; refine Stop.halt ?_)
    refine Stop.go ?_
    refine HG.out.wpList_next keyI elem_int HCS.out.dom HSS.out rfl rfl (by rfl) ?_ ?_
    · intro hd
      have HL2 := hid (show LaAt wr C ve us P { M with cs := bkS s (fun _ => false) M.cs } from by rw [← bkS_end HSS.out hd]; exact HL.out)
      clear hd HL
      have x70 := row_cell HRW.out 0
      have lx7 := row_lt HRW.out
      go_wp2_with (at_range; refine Stop.halt ?_)
      refine Stop.go ?_
      refine (HMR.out).wpList_range keyI HCR.out.dom HSR.out Tryd.underlying86 rfl rfl (by rfl) ?_
      intro Z hrg2 hg2 hz2
      have HG2 := hid hrg2
      have bZ := below_ranged (Below.refl wr.heap.size wr) hg2 (Nat.le_refl _)
      have zr := HL2.out.size
      have LZ := hid (show LaAt Z C ve us P { M with cs := goS r (fun _ => true) (bkS s (fun _ => false) M.cs) } from by rw [goS_start]; exact HL2.out.below bZ)
      have BZ := hid (HB.out.trans (bZ.mono zr))
      have BXZ := hid (HBX.out.below bZ)
      have hzZ : wr.heap.size + 1 ≤ Z.heap.size := by omega
      obtain ⟨w5, rfl⟩ : ∃ w5, w5 = wr := ⟨_, rfl⟩
      clear hrg2 hg2 hz2 bZ x70 lx7 hz HB HG HL2 HBX HRW HX ZX
      obtain ⟨cs1, hcs1⟩ : ∃ cs1, cs1 = bkS s (fun _ => false) M.cs := ⟨_, rfl⟩
      have HCS1 := hid hcs1
      have hl1 : cs1.length = M.cs.length := by rw [hcs1, bkS_len]
      rw [← hcs1] at LZ
      clear hcs1
      go_wp2_with fail
      go_frame
      go_loopg [33] r.length (fun k _ wr => ∃ S, RngB wr br w5.heap.size r S k ∧ LaAt wr C ve us P { M with cs := goS r S cs1 } ∧ Below C.B w wr ∧ w5.heap.size + 1 ≤ wr.heap.size ∧ BxM wr C i p1 p2)
      case atStart => exact ⟨_, HG2.out, LZ.out, BZ.out, hzZ, BXZ.out⟩
      case round =>
        obtain ⟨S2, hrg, hL, hB, hz, hbx⟩ := hrel
        have HG := hid hrg
        have HL := hid hL
        have HB := hid hB
        have HBX := hid hbx
        clear hrg hL hB hbx hzZ LZ BZ BXZ
        go_wp2_with (at_next; refine Stop.halt ?_)
        refine Stop.go ?_
        refine HG.out.wpList_next keyI elem_bool HCR.out.dom HSR.out rfl rfl (by rfl) ?_ ?_
        · intro hd
          have HL2 := hid (show LaAt wr C ve us P { M with cs := offCs r s M.cs } from by
            unfold offCs
            rw [← HCS1.out, ← goS_end HSR.out hd]; exact HL.out)
          clear hd HL
          have y0 := row_cell HBX.out.1 0
          have y1 := row_cell HBX.out.2.1 0
          have k0 := row_lt HBX.out.1
          have k1 := row_lt HBX.out.2.1
          have e0 := row_cell HL2.out.row 0
          have lm := row_lt HL2.out.row
          have zr := HL2.out.size
          go_wp2_with fail
          refine wp_region_x [1, 0, 0, 1, 1, 2] [0, 1, 2, 3, 4, 5] (by kernel_rfl) (by kernel_rfl) rfl (by kernel_rfl) ?_
          simp only [selX, guardAt, sD, sE, sF, sG]
          repeat (first | (refine wpL_p (fun K hK => ?_); go_simp; refine hK _ _ ?_; clear hK K) | (apply wpL_s; (intro w2 hw2; have hk1 := hw2.cell; have hk3 := hw2.heap; clear hw2; go_simp; with_reducible rfl); simp only [Act.put, sA, sB, sC]) | (refine wpL_nil ?_))
          refine wpL_e (fun K hK => ?_)
          go_simp
          refine (la_said (HL2.out.below (Below.refl _ wr).drew) i hi HT.out 0 true (by omega) hl).mono ?_
          rintro e X2 ⟨rfl, hb, ve', us', hla⟩
          refine hK _ _ ?_
          clear hK K
          have B2 := hid (HB.out.drew.trans hb)
          have L2 := hid hla
          clear hb hla y0 y1 e0
          repeat (first | (refine wpL_p (fun K hK => ?_); go_simp; refine hK _ _ ?_; clear hK K) | (apply wpL_s; (intro w2 hw2; have hk1 := hw2.cell; have hk3 := hw2.heap; clear hw2; go_simp; with_reducible rfl); simp only [Act.put, sA, sB, sC]) | (refine wpL_nil ?_))
          go_wp2
          go_ret
          exact ⟨rfl, B2.out, ve', us', L2.out⟩
        · intro x u w3 k3 hxm hS hrg3 hlt3 hg3 hz3 hen
          have hit := HG.out.iter
          have hit' : ∃ b since seen c0, wr.heap[w5.heap.size]? = some (.mapIter b since seen c0) := ⟨_, hit⟩
          have L3 := HL.out.still (Kd.next hg3 hit') (KmAll.next hg3 hit')
          have hB5 : C.B ≤ w5.heap.size := zr
          have HB3 := hid (below_next HB.out hg3 HL.out.size hB5)
          have bx3 := HBX.out.kd (Kd.next (T := fun _ => False) hg3 hit') (fun h => h) (fun h => h)
          have HG3 := hid hrg3
          have HS3 := hid hS
          have hx0 := HCR.out _ hxm
          have hxn := HCN.out.rin _ hxm
          simp only at hx0 hxn
          obtain ⟨k, rfl⟩ : ∃ k : Nat, x = k := ⟨x.toNat, by omega⟩
          have hkn : k < P.cells.length := by omega
          obtain ⟨c, hc⟩ : ∃ c, cs1[k]? = some c := ⟨_, List.getElem?_eq_getElem (by rw [hl1]; have := L3.clen; rw [goS_len, hl1] at this; omega)⟩
          have hc3 := goS_at HSR.out hxm hS hc
          obtain ⟨lC, c', hc', c0, c1⟩ := L3.ceAt HCE.out hkn
          rw [hc3] at hc'
          obtain rfl := Option.some.inj hc'
          obtain ⟨L4, hBC, kd1, km1, ro⟩ := L3.ceSet HCE.out (k := k) (j := 1) (c := c) (u := ⟨c.val, 0⟩) (a := .int .i64 0) hc3 (by decide) rfl
          rw [goS_step HSR.out hxm hc] at L4
          obtain ⟨csr, hrC⟩ := L3.ceRow HCE.out
          have e1 := row_cell L3.row 1
          rw [HCE.out] at e1
          have lM3 := row_lt L3.row
          have y0 := row_cell bx3.1 0
          have f3 := row_lt bx3.1
          have ff1 := row_free hrC (k * 2 + 1)
          have hz4 : w5.heap.size + 1 ≤ w3.heap.size := by omega
          have bx4 := bx3.kd kd1 (by decide) (by decide)
          have b4 : Below C.B w (w3.setCell ⟨gC, k * 2 + 1, none⟩ (.int .i64 0)) := HB3.out.setCell (p := ⟨gC, k * 2 + 1, none⟩) hBC _
          have g4 := HG3.out.obj (ro br (by
            rintro rfl
            obtain ⟨es, cl, hm, -⟩ := HG3.out.owns
            rw [hrC] at hm
            cases hm)) (ro w5.heap.size (by
            intro e
            obtain ⟨s1, s2, s3, hi⟩ := HG3.out.iter
            rw [e, hrC] at hi
            cases hi))
          have z4 : (w3.setCell ⟨gC, k * 2 + 1, none⟩ (.int .i64 0)).heap.size = w3.heap.size := by simp
          have HG4 := hid g4
          have HL4 := hid L4
          have HB4 := hid b4
          have HX4 := hid bx4
          clear hrg3 hg3 hS hxm hz3 hc hit hit' L3 bx3 hrC HL HB HG HBX L4 kd1 km1 ro bx4 b4 g4 hc3
          go_wp2_with fail
          go_roundg k3
          case measure => exact hlt3
          case rel => exact ⟨_, HG4.out, HL4.out, HB4.out, by omega, HX4.out⟩
    · intro x u w3 k3 hxm hS hrg3 hlt3 hg3 hz3 hen
      have hit := HG.out.iter
      have hit' : ∃ b since seen c0, wr.heap[X.heap.size]? = some (.mapIter b since seen c0) := ⟨_, hit⟩
      have L3 := HL.out.still (Kd.next hg3 hit') (KmAll.next hg3 hit')
      have HB3 := hid (below_next HB.out hg3 HL.out.size hzX)
      have bx3 := HBX.out.kd (Kd.next (T := fun _ => False) hg3 hit') (fun h => h) (fun h => h)
      have rw3 := Kd.next (T := fun _ => False) hg3 hit' _ _ _ _ HRW.out (fun h => h)
      have mr3 := HMR.out.obj (by
        obtain ⟨es, cl, hm, -⟩ := HMR.out
        rw [KmAll.next hg3 hit' _ _ _ hm, hm])
      have HG3 := hid hrg3
      have HS3 := hid hS
      have hx0 := HCS.out _ hxm
      have hxn := (HCN.out.sin _ hxm).1
      simp only at hx0 hxn
      obtain ⟨k, rfl⟩ : ∃ k : Nat, x = k := ⟨x.toNat, by omega⟩
      have hkn : k < P.cells.length := by omega
      obtain ⟨c, hc⟩ : ∃ c, M.cs[k]? = some c := ⟨_, List.getElem?_eq_getElem (by have := L3.clen; rw [bkS_len] at this; omega)⟩
      have hc3 := bkS_at HSS.out hxm hS hc
      obtain ⟨lC, c', hc', c0, c1⟩ := L3.ceAt HCE.out hkn
      rw [hc3] at hc'
      obtain rfl := Option.some.inj hc'
      obtain ⟨L4, hBC, kd1, km1, ro⟩ := L3.ceSet HCE.out (k := k) (j := 0) (c := c) (u := ⟨u, c.own⟩) (a := .int .i64 u) hc3 (by decide) rfl
      rw [bkS_step HSS.out hxm hc] at L4
      obtain ⟨csr, hrC⟩ := L3.ceRow HCE.out
      have e1 := row_cell L3.row 1
      rw [HCE.out] at e1
      have lM3 := row_lt L3.row
      have y0 := row_cell bx3.1 0
      have f3 := row_lt bx3.1
      have ff1 := row_free hrC (k * 2)
      have hz4 : X.heap.size + 1 ≤ w3.heap.size := by omega
      have bx4 := bx3.kd kd1 (by decide) (by decide)
      have b4 : Below C.B w (w3.setCell ⟨gC, k * 2, none⟩ (.int .i64 u)) := HB3.out.setCell (p := ⟨gC, k * 2, none⟩) hBC _
      have rw4 := kd1 _ _ _ _ rw3 (by decide)
      have mr4 := mr3.obj (ro br (by
        rintro rfl
        obtain ⟨es, cl, hm, -⟩ := mr3
        rw [hrC] at hm
        cases hm))
      have g4 := HG3.out.obj (ro bs (by
        rintro rfl
        obtain ⟨es, cl, hm, -⟩ := HG3.out.owns
        rw [hrC] at hm
        cases hm)) (ro X.heap.size (by
        intro e
        obtain ⟨s1, s2, s3, hi⟩ := HG3.out.iter
        rw [e, hrC] at hi
        cases hi))
      have z4 : (w3.setCell ⟨gC, k * 2, none⟩ (.int .i64 u)).heap.size = w3.heap.size := by simp
      have HG4 := hid g4
      have HL4 := hid L4
      have HB4 := hid b4
      have HX4 := hid bx4
      have RW4 := hid rw4
      have MR4 := hid mr4
      clear hrg3 hg3 hS hxm hz3 hc hit hit' L3 bx3 hrC HL HB HG HBX HRW HMR L4 kd1 km1 ro bx4 b4 g4 hc3 rw3 rw4 mr3 mr4
      go_wp2_with fail
      go_roundg k3
      case measure => exact hlt3
      case rel => exact ⟨_, HG4.out, HL4.out, HB4.out, by omega, HX4.out, RW4.out, MR4.out⟩
end
end Go.Proofs.YtogphaiomlfofaaDoor
