/- The engine latch: New. Conditions: those of each theorem, as typed. -/
import Derived.Test.YtogphaiomlfofaaDoorToHM
set_option linter.unusedVariables false
set_option linter.unusedSimpArgs false
namespace Go.Proofs.YtogphaiomlfofaaDoor
open Go.RowKit Go.Maps
set_option linter.unusedVariables false
set_option linter.unusedSimpArgs false
attribute [local irreducible] wpL

section
variable {α : Type} {f : α → List Value} {e : TypeId} {sz B : Nat} {P : Program} {o : Oper} {a : Act} {Q : Exit → Act → World → Prop}
end
theorem infoWk : (Tryd.prog.info? 89).map (fun i => (i.zero, i.size, i.bytes)) = some (some (.agg #[.map none, .map none]), 2, 16) := by kernel_rfl
theorem infoC : (Tryd.prog.info? 74).map (fun i => (i.zero, i.size, i.bytes)) = some (some (.agg #[.int .i64 0, .int .i64 0]), 2, 16) := by kernel_rfl
theorem ce_one (c : Ce) : ∀ u ∈ c.cells, u.oneCell' = true := by intro u hu; simp [Ce.cells] at hu; rcases hu with rfl | rfl <;> rfl
section
variable {w w' : World} {ve : Value} {P : Pg}
def Mn (t : TypeId) : Prop := t = 74 ∨ t = 69
theorem WkAt.kn {B bW gT : Nat} {vc vt : Value} {S : Wst} (h : WkAt w B bW gT vc vt ve P S) (hk : Kd Mn w w') : WkAt w' B bW gT vc vt ve P S :=
  ⟨hk _ _ _ _ h.row (by unfold Mn; decide), h.hB, OwnF.kd h.cells hk (by unfold Mn; decide), h.thr.kd hk (by unfold Mn; decide) (by unfold Mn; decide) (by unfold Mn; decide), OwnF.kd h.ths hk (by unfold Mn; decide), OwnF.kd h.evs hk (by unfold Mn; decide), h.ok, h.tok⟩
theorem DrAt.kn {B bD bW gT gN : Nat} {vc vt pc pt rf : Value} {S : Wst} {nx : List Value} (h : DrAt w B bD bW gT gN vc vt ve pc pt rf P S nx) (hk : Kd Mn w w') : DrAt w' B bD bW gT gN vc vt ve pc pt rf P S nx :=
  ⟨hk _ _ _ _ h.row (by unfold Mn; decide), h.hB, h.walk.kn hk, OwnF.kd h.pcells hk (by unfold Mn; decide), h.pthr.kd hk (by unfold Mn; decide) (by unfold Mn; decide) (by unfold Mn; decide), OwnF.kd h.next hk (by unfold Mn; decide)⟩
def startLM (P : Pg) : LM := ⟨⟨List.replicate P.threads.length Th.zero, []⟩, P.cells.map fun c => ⟨c, 0⟩, List.replicate P.threads.length none, List.replicate P.threads.length .none⟩
def NewRet (P : Pg) (ev : Value) (w : World) (e : Ending) (w' : World) : Prop :=
  (¬ ValidIs P ∧ e = .returned (.tuple #[.pointer none, ev]) ∨ ValidIs P ∧ ∃ C us ve, e = .returned (.tuple #[.pointer (some ⟨C.bM, 0, none⟩), .nilIface]) ∧ C.B = w.heap.size ∧ LaAt w' C ve us P (startLM P)) ∧ Below w.heap.size w w'
set_option maxRecDepth 100000 in
set_option maxHeartbeats 2000000 in
theorem la_new (vc vt : Value) (P : Pg) (w : World) (h : PgIs w w.heap.size vc vt P) (ev : Value) (hev : w.cell? ⟨0, 0, none⟩ = some ev) (hne : ∃ t v, ev = .iface t v) (h10 : 0 < w.heap.size) (hn : P.threads.length ≤ 1000) :
    Calls Tryd.prog 25 #[.agg #[vc, vt]] w (NewRet P ev w) := by
  obtain ⟨ac, cc, rfl, mc⟩ := h.cells.ex
  obtain ⟨at', ct, rfl, mt⟩ := h.thr.ex
  obtain ⟨ty, va, rfl⟩ := hne
  have H := hid h
  have HE := hid hev
  clear h hev
  go_enter Tryd.func25, Tryd.ntmps25
  go_wp2_with (at_make; refine wpList_makeN (f := moC) (e := 89) (sz := 2) (B := w.heap.size) rfl _ _ _ rfl _ 16 Tryd.underlying65 infoWk rfl rfl (by first | omega | (simp <;> omega)) (by first | omega | (simp <;> omega)) (by first | omega | (simp <;> omega)) (.map none, .map none) rfl rfl (by decide) ?_; refine Stop.halt ?_)
  refine Stop.go ?_
  intro W1 o1 b1 z1
  have b1 : Below w.heap.size w W1 := ((Below.refl _ w).alloc (Nat.le_refl _) _).trans (b1.mono (by omega))
  have z1 : w.heap.size + 1 < W1.heap.size := by omega
  have r1 : W1.heap[w.heap.size]? = some (.cells #[.slice ac P.cells.length cc, .slice at' P.threads.length ct] 25 (0, 0)) := row_below (row_new w _) ‹Below (w.heap.size + 1) _ W1› (by omega)
  have O1 := hid o1
  have B1 := hid b1
  have R1 := hid r1
  have lb1 : w.heap.size < W1.heap.size := by omega
  have y0 := row_cell r1 0
  have y1 := row_cell r1 1
  clear o1 b1 r1
  go_wp2_with fail
  have bX : Below W1.heap.size W1 (W1.alloc (.cells #[.pointer none, .slice none 0 0, .slice (some ⟨w.heap.size + 1, 0, none⟩) P.threads.length P.threads.length] 69)) := (Below.refl _ W1).alloc (Nat.le_refl _) _
  have rX := row_new W1 (.cells #[.pointer none, .slice none 0 0, .slice (some ⟨w.heap.size + 1, 0, none⟩) P.threads.length P.threads.length] 69)
  have zX : (W1.alloc (.cells #[.pointer none, .slice none 0 0, .slice (some ⟨w.heap.size + 1, 0, none⟩) P.threads.length P.threads.length] 69)).heap.size = W1.heap.size + 1 := by simp
  generalize W1.alloc (.cells #[.pointer none, .slice none 0 0, .slice (some ⟨w.heap.size + 1, 0, none⟩) P.threads.length P.threads.length] 69) = X at *
  have bwX : Below w.heap.size w X := B1.out.trans (bX.mono (by omega))
  refine (p_dStart _ _ P X ((H.out.below bwX).more (by omega)) (.func 29) #[.pointer (some ⟨W1.heap.size, 0, none⟩)] #[] (.iface ty va) (cell_below bwX h10 HE.out) ⟨_, _, rfl⟩ (by omega)).mono ?_
  rintro e V ⟨hv, bV⟩
  have zV := bV.size
  have BV := hid (bwX.trans (bV.mono (by omega)))
  have RV := hid (row_below rX bV (by omega))
  have RP := hid (row_below (row_below R1.out bX lb1) bV (by omega))
  have OV := hid (OwnF.below (OwnF.below O1.out bX) bV)
  rcases hv with ⟨hno, rfl⟩ | ⟨hok, bD, bW, gT, gN, vc, vt, pc, pt, rfl, hdr⟩
  case inl =>
    have HN := hid hno
    clear hno y0 y1 bX rX zX bwX bV
    go_wp2
    go_ret2
    exact ⟨.inl ⟨HN.out, rfl⟩, BV.out⟩
  case inr =>
    have HOK := hid hok
    have HDR := hid hdr
    have hn4 := hok.nums
    have hXB : X.heap.size ≤ bD := hdr.hB
    have hwX : w.heap.size ≤ X.heap.size := by omega
    have m0 := row_cell RV.out 0
    have mf := row_free RV.out 0
    have lm := row_lt RV.out
    have p0 := row_cell RP.out 0
    have lp := row_lt RP.out
    clear hok hdr y0 y1 bX rX zX bwX bV
    go_wp2_with fail
    have kY : Kd Mn V (V.setCell ⟨W1.heap.size, 0, none⟩ (.pointer (some ⟨bD, 0, none⟩))) := Kd.set RV.out (.inr rfl) _
    have rY := row_set RV.out 0 (.pointer (some ⟨bD, 0, none⟩))
    have bY : Below w.heap.size w (V.setCell ⟨W1.heap.size, 0, none⟩ (.pointer (some ⟨bD, 0, none⟩))) := BV.out.setCell (p := ⟨W1.heap.size, 0, none⟩) (by show w.heap.size ≤ W1.heap.size; omega) _
    have dY := (HDR.out.base hwX).kn kY
    have oY := OwnF.kd OV.out kY (by unfold Mn; decide)
    generalize V.setCell ⟨W1.heap.size, 0, none⟩ (.pointer (some ⟨bD, 0, none⟩)) = Y at *
    have RY := hid (show Y.heap[W1.heap.size]? = some (.cells #[.pointer (some ⟨bD, 0, none⟩), .slice none 0 0, .slice (some ⟨w.heap.size + 1, 0, none⟩) P.threads.length P.threads.length] 69 (0, 0)) from rY)
    have BY := hid bY
    have DY := hid dY
    have OY := hid oY
    obtain ⟨cs0, hcs0⟩ : ∃ cs0 : List Ce, cs0 = P.cells.map fun c => ⟨c, 0⟩ := ⟨_, rfl⟩
    have hcl : cs0.length = P.cells.length := by rw [hcs0, List.length_map]
    have HCS := hid hcs0
    have hgW : w.heap.size + 1 < W1.heap.size := by omega
    clear kY rY bY dY oY HDR OV RV BV m0 mf p0 hcs0 R1 RP O1 B1
    go_loopw [32] (fun p wr => ∃ (i : Nat) (cv : Value), i ≤ P.cells.length ∧ p = .int .i64 i ∧ Below w.heap.size w wr ∧ wr.heap[W1.heap.size]? = some (.cells #[.pointer (some ⟨bD, 0, none⟩), cv, .slice (some ⟨w.heap.size + 1, 0, none⟩) P.threads.length P.threads.length] 69 (0, 0)) ∧
      DrAt wr w.heap.size bD bW gT gN vc vt (.slice none 0 0) pc pt (.func (.func 29) #[.pointer (some ⟨W1.heap.size, 0, none⟩)] #[]) P ⟨List.replicate P.threads.length Th.zero, []⟩ (List.replicate P.threads.length .nilFunc) ∧
      OwnF moC 89 2 wr w.heap.size (.slice (some ⟨w.heap.size + 1, 0, none⟩) P.threads.length P.threads.length) (List.replicate P.threads.length (.map none, .map none)) ∧ OwnF Ce.cells 74 2 wr w.heap.size cv (cs0.take i)) (fun p _ => P.cells.length - (intOf p).toNat)
    case atStart => exact ⟨0, .slice none 0 0, by omega, by go_num, BY.out, RY.out, DY.out, OY.out, OwnF.nil _ _⟩
    case round =>
      obtain ⟨i, cv, hi, rfl, hB, hr, hD, hO, hC⟩ := hrel
      clear BY RY DY OY
      obtain ⟨ao, co, rfl, -⟩ := hC.form2
      have hlo : (cs0.take i).length = i := by rw [List.length_take]; omega
      rw [hlo] at hC hr
      have e1 := row_cell hr 1
      have lr := row_lt hr
      have zB := hB.size
      have HB := hid hB
      have HR := hid hr
      have HD := hid hD
      have HO := hid hO
      have HC := hid hC
      clear hB hr hD hO hC
      by_cases hlt : i < P.cells.length
      · obtain ⟨b, off, c, rfl, hb, hc, hcc⟩ := H.out.cells.intAt hlt
        have hcc := cell_below HB.out hb hcc
        have hbz : b < wr.heap.size := by omega
        have hoc : cs0[i]? = some ⟨c, 0⟩ := by rw [HCS.out, List.getElem?_map, hc]; rfl
        have HOC := hid hoc
        clear hoc hc
        go_wp2_with (at_builtin; refine wpList_appF rfl _ _ _ rfl _ 16 Tryd.underlying67 infoC rfl HC.out ⟨c, 0⟩ (by first | omega | (simp <;> omega)) (by rfl) (by rfl) (by first | rfl | simp) rfl (ce_one _) (by first | omega | (simp only [List.length_append, List.length_cons, List.length_nil, List.length_replicate]; omega)) (by first | omega | (simp only [List.length_append, List.length_cons, List.length_nil, List.length_replicate]; omega)) ?_; refine Stop.halt ?_)
        refine Stop.go ?_
        intro g4 c4 w4 o4 G4
        have kg := Kd.grw HC.out G4
        have b4 := HB.out.trans (G4.below zB fun q h => (HC.out.lt q h).1)
        have q2 := kg _ _ _ _ HR.out (by decide)
        have f6 := row_free q2 1
        have l6 := row_lt q2
        have e1 := row_cell q2 1
        have B4 := hid b4
        have Q2 := hid q2
        have D4 := hid (HD.out.kn (kg.mono fun t h => .inl h))
        have OW4 := hid (OwnF.kd HO.out kg (by decide))
        have O4 := hid o4
        clear b4 q2 kg o4 G4 lr
        go_wp2_with fail
        go_roundw
        case rel =>
          have kS : Kd (fun t => t = 69) w4 (w4.setCell ⟨W1.heap.size, 1, none⟩ (.slice (some ⟨g4, 0, none⟩) (i + 1) c4)) := Kd.set (T := fun t => t = 69) Q2.out rfl _
          refine ⟨i + 1, _, by omega, by go_num, B4.out.setCell (p := ⟨W1.heap.size, 1, none⟩) (by show w.heap.size ≤ W1.heap.size; omega) _, row_set Q2.out 1 _, D4.out.kn (kS.mono fun t h => .inr h), OwnF.kd OW4.out kS (by decide), ?_⟩
          rw [take_step HOC.out]
          exact OwnF.kd O4.out kS (by decide)
        case measure => simp [intOf]; omega
      · obtain rfl : i = P.cells.length := by omega
        go_wp2
        go_ret2
        refine ⟨.inr ⟨HOK.out, ⟨w.heap.size, W1.heap.size, bD, bW, gT, gN, w.heap.size + 1, vc, vt, pc, pt, .slice ao P.cells.length co, fun _ _ => False⟩, List.replicate P.threads.length (.map none, .map none), .slice none 0 0, rfl, rfl, HR.out, by show w.heap.size ≤ W1.heap.size; omega, ⟨_, HD.out, by simp [startLM], ?_⟩, ?_, by simp [startLM], ⟨HO.out, by simp [startLM], ?_, ?_⟩, fun _ _ hf => hf.elim⟩, HB.out⟩
        · intro j v x hv hx
          have h1 : v = .nilFunc := List.eq_of_mem_replicate (List.mem_of_getElem? hv)
          have h2 : x = .none := List.eq_of_mem_replicate (List.mem_of_getElem? hx)
          rw [h2]
          exact h1
        · have := HC.out
          rwa [show cs0.take P.cells.length = P.cells.map (fun c => ⟨c, 0⟩) from by rw [← hcl, List.take_length]; exact HCS.out] at this
        · intro j u o hu ho
          have h1 : u = (.map none, .map none) := List.eq_of_mem_replicate (List.mem_of_getElem? hu)
          have h2 : o = none := List.eq_of_mem_replicate (List.mem_of_getElem? ho)
          rw [h2]
          exact h1
        · intro j k u u' hu hu' _ b hb
          have h1 : u = (.map none, .map none) := List.eq_of_mem_replicate (List.mem_of_getElem? hu)
          rw [h1] at hb
          rcases hb with hb | hb <;> cases hb
end
end Go.Proofs.YtogphaiomlfofaaDoor
