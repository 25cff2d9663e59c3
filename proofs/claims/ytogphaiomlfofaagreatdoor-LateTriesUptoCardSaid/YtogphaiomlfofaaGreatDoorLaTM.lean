/- LateTries: nothing aborts but behind a try or a cancel; a call is always answered. Printed by wip/tools/genlat.py. Conditions: those of each theorem, as typed. -/
import Derived.Test.YtogphaiomlfofaaGreatDoorQL28
set_option linter.unusedVariables false
set_option linter.unusedSimpArgs false
namespace Go.Proofs.YtogphaiomlfofaaGreatDoor
open Go.RowKit Go.Maps
set_option linter.unusedVariables false
set_option linter.unusedSimpArgs false
/-- An operation whose guard was itself left out. -/
theorem RN.wpL_un {N : Nat} {P : Program} {Q : Exit → Act → World → Prop} {l : List XOp} {o : Oper} {a : Act} {w : World} {k t : Nat} {want : Bool} (hy : a.tmps[t]? = some undef)
    (h : ∀ K : Act → World → Prop, (∀ a w, RN.wpL N P Q l a w → K a w) → K (a.put o.dst undef) w) : RN.wpL N P Q (⟨k, some (some t, want), o⟩ :: l) a w := by
  have hw : wantedAt (some (some t, want)) a.tmps = false := by simp [wantedAt, hy, undef]
  simp only [RN.wpL, RN.wpK, hw, Bool.false_eq_true, if_false]
  exact h _ (fun _ _ h => h)
attribute [local irreducible] wpL RN.wpL

theorem fed_has {es : List Ev} {A : Au} (h : Fed es A) : ∀ e ∈ es, hasId e.tx A := by
  induction h with
  | nil => intro e he; cases he
  | @snoc l A A' x h hf ih =>
    intro e he
    have key : (∀ y, hasId y A → hasId y A') ∧ hasId x.tx A' := by
      cases hf with
      | begin hk hi hb => exact ⟨fun y ⟨s, hs, hy⟩ => ⟨s, by simp [hs], hy⟩, ⟨newSt x l.length, by simp, rfl⟩⟩
      | move k s s' hk hs hi hm =>
        have hid := (move_keeps hm).1
        refine ⟨fun y ⟨t, ht, hy⟩ => ?_, ⟨s', mem_set_self hs, by rw [hid, hi]⟩⟩
        obtain ⟨j, hj⟩ := List.mem_iff_getElem?.1 ht
        by_cases e : k = j
        · subst e
          rw [hs] at hj
          obtain rfl := Option.some.inj hj
          exact ⟨s', mem_set_self hs, by rw [hid, hy]⟩
        · exact ⟨t, List.mem_iff_getElem?.2 ⟨j, by rw [List.getElem?_set_ne e]; exact hj⟩, hy⟩
    simp only [List.mem_append, List.mem_singleton] at he
    rcases he with he | rfl
    · exact key.1 _ (ih e he)
    · exact key.2
/-- A transaction's place, where numbers are unlike. -/
theorem place_of {A : Au} {x : Int} (hn : (A.map (·.id)).Nodup) (h : hasId x A) : ∃ (k : Nat) (s : St), A[k]? = some s ∧ s.id = x ∧ ∀ (j : Nat) (t : St), j < k → A[j]? = some t → t.id ≠ x := by
  obtain ⟨s, hs, hx⟩ := h
  obtain ⟨k, hk⟩ := List.mem_iff_getElem?.1 hs
  refine ⟨k, s, hk, hx, fun j t hj ht e => ?_⟩
  have hl : j < (A.map (·.id)).length := by have := (List.getElem?_eq_some_iff.1 ht).1; simpa using this
  have := (List.getElem?_inj hl hn (j := k)).1 (by simp [ht, hk, e, hx])
  omega
/-- An event's cells. -/
theorem OwnF.event {w : World} {B g n cap k : Nat} {l : List Ev} {e : Ev} (h : OwnF Ev.cells 46 8 w B (.slice (some ⟨g, 0, none⟩) n cap) l) (hk : l[k]? = some e) : w.cell? ⟨g, k * 8, none⟩ = some (.int .i64 e.kind) ∧ w.cell? ⟨g, k * 8 + 1, none⟩ = some (.int .i64 e.tx) ∧ g < w.heap.size := by
  have hkl := (List.getElem?_eq_some_iff.1 hk).1
  obtain ⟨a, c, hv⟩ := OwnF.slv h
  simp only [Value.slice.injEq] at hv
  obtain ⟨rfl, rfl, rfl⟩ := hv
  obtain ⟨b, off, x, he, hb, hx, hc⟩ := (OwnF.sl h).atF Ev.len rfl hkl
  simp only [Option.some.injEq, Addr.mk.injEq] at he
  obtain ⟨rfl, rfl, -⟩ := he
  rw [hk] at hx
  obtain rfl := Option.some.inj hx
  have c0 := hc 0 (by decide)
  have c1 := hc 1 (by decide)
  simp [Ev.cells] at c0 c1
  exact ⟨c0, c1, hb⟩
/-- A transaction's cells. -/
theorem TxsAt.tx {w : World} {B : Nat} {a : Option Addr} {n cap k : Nat} {A : Au} {s : St} (h : TxsAt w B (.slice a n cap) A) (hk : A[k]? = some s) : ∃ (g : Nat) (da : Option Addr) (dc : Nat), a = some ⟨g, 0, none⟩ ∧ n = A.length ∧ g < w.heap.size ∧ w.cell? ⟨g, k * 7 + 2, none⟩ = some (.int .i64 s.status) ∧ w.cell? ⟨g, k * 7 + 4, none⟩ = some (.int .i64 s.fin) ∧ w.cell? ⟨g, k * 7 + 5, none⟩ = some (.int .i64 s.tri) ∧ w.cell? ⟨g, k * 7 + 6, none⟩ = some (.slice da s.deeds.length dc) ∧ OwnD w B (.slice da s.deeds.length dc) s.deeds := by
  obtain ⟨rs, hv, hvl, hvc⟩ := h
  obtain ⟨a', c', hv'⟩ := OwnF.slv hv
  simp only [Value.slice.injEq] at hv'
  obtain ⟨rfl, rfl, rfl⟩ := hv'
  have hkl := (List.getElem?_eq_some_iff.1 hk).1
  obtain ⟨g, rfl⟩ : ∃ g, a = some ⟨g, 0, none⟩ := by
    rcases OwnF.form hv with ⟨h, h2⟩ | ⟨g, kk, h, -⟩
    · rw [h2] at hvl; simp at hvl; omega
    · simp only [Value.slice.injEq] at h; exact ⟨g, h.1⟩
  obtain ⟨b, off, r, he, hb, hr, hc⟩ := (OwnF.sl hv).atF TxR.len rfl (k := k) (by omega)
  simp only [Option.some.injEq, Addr.mk.injEq] at he
  obtain ⟨rfl, rfl, -⟩ := he
  obtain ⟨⟨-, -, h2, -, h4, h5⟩, hod⟩ := hvc k r s hr hk
  obtain ⟨da, dc, hdv⟩ := OwnF.slv hod
  have c2 := hc 2 (by decide)
  have c4 := hc 4 (by decide)
  have c5 := hc 5 (by decide)
  have c6 := hc 6 (by decide)
  simp [TxR.cells, h2, h4, h5, hdv] at c2 c4 c5 c6
  exact ⟨_, da, dc, rfl, hvl, hb, c2, c4, c5, c6, by rw [← hdv]; exact hod⟩
set_option maxRecDepth 100000 in
set_option maxHeartbeats 8000000 in
theorem law_lateTries (vc vt : Value) (P : Pg) (sv : Value) (l : List Int) (w : World) (hG : Glob w) (h : PgIs w w.heap.size vc vt P) (hs : Sl w w.heap.size 1 sv l.length (l.map (.int .i64))) :
    Calls Tryz.prog 4 #[.agg #[vc, vt], sv] w fun e w' => e = .returned (.bool true) ∧ Below w.heap.size w w' := by
  obtain ⟨ac, cc, rfl, mc⟩ := h.cells.ex
  obtain ⟨at', ct, rfl, mt⟩ := h.thr.ex
  obtain ⟨sa, sc, rfl, ms⟩ := hs.ex
  have b0 : Below w.heap.size w (w.alloc (.cells #[.slice ac P.cells.length cc, .slice at' P.threads.length ct] 25)) := (Below.refl _ w).alloc (Nat.le_refl _) _
  have r0 := row_new w (.cells #[.slice ac P.cells.length cc, .slice at' P.threads.length ct] 25)
  have hf := hid (l_first21 _ (hG.below b0))
  have H := hid h
  have HS := hid hs
  have HG := hid hG
  have B0 := hid b0
  have R0 := hid r0
  have l0 := row_lt r0
  clear h hs hG b0 r0
  go_enter Tryz.func4, Tryz.ntmps4
  go_wp2_with fail
  generalize w.alloc (.cells #[.slice ac P.cells.length cc, .slice at' P.threads.length ct] 25) = W at *
  refine (hf.out).mono ?_
  rintro e W1 ⟨rfl, b1⟩
  have r1 := row_below R0.out b1 l0
  have l1 := row_lt r1
  have y0 := row_cell r1 0
  have y1 := row_cell r1 1
  simp at y0 y1
  have B1 := hid (B0.out.trans (b1.mono B0.out.size))
  have hz1 := B1.out.size
  have hsm := hid (l_small21 _ _ P W1 ((H.out.below B1.out).more hz1))
  have R1 := hid r1
  clear r1 b1 hf
  go_wp2_with fail
  refine (hsm.out).mono ?_
  rintro e W2 ⟨b, rfl, hb20, b2⟩
  have r2 := row_below R1.out b2 l1
  have l2 := row_lt r2
  clear y0 y1
  have y0 := row_cell r2 0
  have y1 := row_cell r2 1
  simp at y0 y1
  have B2 := hid (B1.out.trans (b2.mono hz1))
  have hz2 := B2.out.size
  have R2 := hid r2
  clear r2 b2 hsm
  cases b with
  | false =>
    go_wp2
    go_ret
    exact ⟨rfl, B2.out⟩
  | true =>
  have h20 := hb20 rfl
  clear hb20
  by_cases hl : l.length ≤ 300
  case neg =>
    have q : decide (300 < l.length) = true := by simp; omega
    have q2 : decide ((300 : Int) < (l.length : Int)) = true := by simp; omega
    go_wp2
    go_ret
    exact ⟨rfl, B2.out⟩
  case pos =>
  have q : decide (300 < l.length) = false := by simp; omega
  have q2 : decide ((300 : Int) < (l.length : Int)) = false := by simp; omega
  have hG2 := HG.out.below B2.out
  obtain ⟨g1, ⟨tt, tv, g2⟩, g3⟩ := hG2
  have hF := hid (la_Full _ _ P W2 ((H.out.below B2.out).more hz2) (.iface tt tv) g2 ⟨_, _, rfl⟩ (by omega) (by omega) _ l ((HS.out.below B2.out).more hz2) hl (going P))
  have GW := hid g3
  clear g2 g3
  go_wp2_with fail
  refine (hF.out).mono ?_
  rintro e W3 ⟨hv, b3⟩
  have B3 := hid (B2.out.trans (b3.mono hz2))
  have hW3 := hid (GW.out.below b3)
  rcases hv with ⟨-, rfl⟩ | ⟨hval, M, ov, vv, rfl, hro, ho, hv⟩
  · clear hF b3
    go_wp2
    go_ret
    exact ⟨rfl, B3.out.alloc B3.out.size _⟩
  obtain ⟨A, hL, hel, hes, hfd, hreg, hne, hdone⟩ := run_table hval hro
  obtain ⟨oa, oc, rfl⟩ := OwnF.slv ho
  obtain ⟨ea, ec, rfl⟩ := OwnF.slv hv
  have b4 : Below W3.heap.size W3 (W3.alloc (.cells #[.slice oa (obsOf P).length oc, .slice ea M.W.evs.length ec] 31)) := (Below.refl _ W3).alloc (Nat.le_refl _) _
  have r4 := row_new W3 (.cells #[.slice oa (obsOf P).length oc, .slice ea M.W.evs.length ec] 31)
  have hev4 := OwnF.below hv b4
  have hT := hid (sh_Table _ _ (obsOf P) M.W.evs A _ (OwnF.below ho b4).sl hev4.sl hne hreg hel hes (hW3.out.below b4) hfd)
  have hTr := hid (hL.tries (hdone rfl))
  have hHas := hid (fed_has hfd)
  have hIds := hid hL.ji.ids
  have B4 := hid (B3.out.trans (b4.mono B3.out.size))
  have l4 := row_lt r4
  obtain ⟨on, hon⟩ : ∃ n, n = (obsOf P).length := ⟨_, rfl⟩
  obtain ⟨E, hE⟩ : ∃ E, E = M.W.evs := ⟨_, rfl⟩
  rw [← hE] at hev4 hel
  rw [← hon] at hev4
  rw [← hon, ← hE] at hT B4 l4 r4 ⊢
  rw [← hE] at hTr hHas
  have hel2 : E.length ≤ 400 := hel
  have HE4 := hid hev4
  have R4 := hid r4
  clear hF b3 hro ho hv hL hes hfd hreg hdone b4 r4 y0 y1 hval hon hE hev4
  go_wp2_with fail
  generalize W3.alloc (.cells #[.slice oa on oc, .slice ea E.length ec] 31) = W4 at *
  refine (hT.out).mono ?_
  rintro e W5 ⟨tv', rfl, hA, b5⟩
  have hz4 := B4.out.size
  have B5 := hid (B4.out.trans (b5.mono hz4))
  have r5 := row_below R4.out b5 l4
  have l5 := row_lt r5
  have HE5 := hid (OwnF.below HE4.out b5)
  obtain ⟨ta, tn, tc, rfl⟩ : ∃ a n c, tv' = .slice a n c := by
    obtain ⟨rs, hv, -⟩ := hA
    obtain ⟨a, c, h⟩ := OwnF.slv hv
    exact ⟨_, _, _, h⟩
  have htn : tn = A.length ∧ tn ≤ 9223372036854775807 := by
    obtain ⟨rs, hv, hvl, -⟩ := hA
    obtain ⟨a, c, h, hb⟩ := OwnF.form2 hv
    simp only [Value.slice.injEq] at h
    omega
  obtain ⟨rfl, hbig⟩ := htn
  have HA := hid hA
  have R5 := hid r5
  clear hA hT b5 r5
  go_wp2_with fail
  go_loopw [10] (fun p wr => ∃ i : Nat, i ≤ E.length ∧ p = .int .i64 i ∧ Below W5.heap.size W5 wr) (fun p _ => E.length - (intOf p).toNat)
  case atStart => exact ⟨0, by omega, by go_num, Below.refl _ _⟩
  case round =>
    obtain ⟨i, hi, rfl, hB⟩ := hrel
    have hz := hB.size
    have HB := hid hB
    clear hB
    have rr := row_below R5.out HB.out l5
    have lr := row_lt rr
    have e1 := row_cell rr 1
    simp at e1
    have RR := hid rr
    clear rr
    by_cases hlt : i < E.length
    · obtain ⟨x, hx⟩ : ∃ x, E[i]? = some x := ⟨_, List.getElem?_eq_getElem hlt⟩
      obtain ⟨ge, rfl⟩ : ∃ g, ea = some ⟨g, 0, none⟩ := by
        rcases OwnF.form HE5.out with ⟨h, h2⟩ | ⟨g, kk, h, -⟩
        · rw [h2] at hlt; simp at hlt
        · simp only [Value.slice.injEq] at h; exact ⟨g, h.1⟩
      obtain ⟨x0, x1, hg⟩ := OwnF.event (OwnF.below HE5.out HB.out) hx
      have HX := hid hx
      have hmem := List.mem_of_getElem? hx
      clear hx
      by_cases h6 : x.kind = 6
      · have q6 : (x.kind != 6) = false := by simp [h6]
        obtain ⟨k, s, hk, hid', hno⟩ := place_of hIds.out (hHas.out x hmem)
        have hkl := (List.getElem?_eq_some_iff.1 hk).1
        have hfi := hid (sh_Find _ A x.tx _ wr (HA.out.below HB.out) hk hid' hno)
        have HK := hid hk
        clear hk hno hmem
        go_wp2_with fail
        refine (hfi.out).mono ?_
        rintro e W6 ⟨he, b6⟩
        subst he
        have HB6 := hid (HB.out.trans (b6.mono hz))
        have hz6 := HB6.out.size
        have r6 := row_below R5.out HB6.out l5
        have l6 := row_lt r6
        clear e1 x0 x1 hg lr
        have e1 := row_cell r6 1
        simp at e1
        clear r6 b6 hfi
        go_wp2_with fail
        go_loopw [13, 14] (fun c p wr => ∃ (j : Nat) (b : Bool), j ≤ i ∧ p = .int .i64 j ∧ c = .bool b ∧ Below W5.heap.size W5 wr ∧ ((∃ (m : Nat) (y : Ev), m < j ∧ E[m]? = some y ∧ y.kind = 7 ∧ y.tx = x.tx) → b = true)) (fun _ p _ => i - (intOf p).toNat)
        case atStart => exact ⟨0, false, by omega, by go_num, rfl, HB6.out, fun ⟨m, y, h, _⟩ => by omega⟩
        case round =>
          obtain ⟨j, b, hj, rfl, rfl, hB, hcan⟩ := hrel
          have hzj := hB.size
          have HBJ := hid hB
          have HC := hid hcan
          clear hB hcan e1
          have r7 := row_below R5.out HBJ.out l5
          have l7 := row_lt r7
          have e1 := row_cell r7 1
          simp at e1
          clear r7
          obtain ⟨x0, x1, hg⟩ := OwnF.event (OwnF.below HE5.out HBJ.out) HX.out
          by_cases hlj : j < i
          · obtain ⟨y, hy⟩ : ∃ y, E[j]? = some y := ⟨_, List.getElem?_eq_getElem (by omega)⟩
            obtain ⟨y0, y1, -⟩ := OwnF.event (OwnF.below HE5.out HBJ.out) hy
            have HY := hid hy
            have hjE : j < E.length := by omega
            clear hy
            cases b with
            | true =>
              go_wp2_with fail
              refine RN.wp_region_t (wr.heap.size) [0, 0, 0, 1, 0, 0, 0, 1, 0, 0, 0, 1, 0, 0, 0, 1, 0, 1, 0, 0, 0, 1, 0, 0, 0, 0] (.fin [0, 1, 2, 3, 4, 5, 6, 7, 8, 9, 10, 11, 12, 13, 14, 15, 16, 17, 18, 19, 20, 21, 22, 23, 24, 25]) (by kernel_rfl) (by kernel_rfl) (by kernel_rfl) (by kernel_rfl) ?_
              simp only [RN.wpT, selX, guardAt, List.getElem?_cons_zero, List.getElem?_cons_succ, List.getD_cons_zero, List.getD_cons_succ, Option.bind_some]
              repeat (first
                | (refine RN.wpL_p (fun K hK => ?_); go_simp; refine hK _ _ ?_; clear hK K)
                | (refine RN.wpL_r (fun K hK => ?_); apply Exists.intro; refine ⟨fun w2 hw2 => ?_, hK _ _ ?_⟩; (have hk1 := hw2.cell; have hk3 := hw2.1; clear hw2; go_simp; with_reducible rfl); clear hK K; simp only [Act.put, List.setIfInBounds_toArray, List.set_cons_zero, List.set_cons_succ])
                | (refine RN.wpL_yes rfl rfl ?_)
                | (refine RN.wpL_un rfl (fun K hK => ?_); simp only [Act.put, List.setIfInBounds_toArray, List.set_cons_zero, List.set_cons_succ]; refine hK _ _ ?_; clear hK K)
                | (refine RN.wpL_no rfl rfl (fun K hK => ?_); simp only [Act.put, List.setIfInBounds_toArray, List.set_cons_zero, List.set_cons_succ]; refine hK _ _ ?_; clear hK K)
                | (refine RN.wpL_nil ?_))
              go_wp2_with fail
              go_roundw
              case rel => exact ⟨j + 1, true, by omega, by go_num, rfl, HBJ.out.drew, fun _ => rfl⟩
              case measure => simp [intOf]; omega
            | false =>
              by_cases h7 : y.kind = 7
              · have q7 : (y.kind == 7) = true := by simp [h7]
                by_cases ht : y.tx = x.tx
                · have q8 : (y.tx == x.tx) = true := by simp [ht]
                  go_wp2_with fail
                  refine RN.wp_region_t (wr.heap.size) [0, 0, 0, 1, 0, 0, 0, 1, 0, 0, 0, 1, 0, 0, 0, 1, 0, 1, 0, 0, 0, 1, 0, 0, 0, 0] (.fin [0, 1, 2, 3, 4, 5, 6, 7, 8, 9, 10, 11, 12, 13, 14, 15, 16, 17, 18, 19, 20, 21, 22, 23, 24, 25]) (by kernel_rfl) (by kernel_rfl) (by kernel_rfl) (by kernel_rfl) ?_
                  simp only [RN.wpT, selX, guardAt, List.getElem?_cons_zero, List.getElem?_cons_succ, List.getD_cons_zero, List.getD_cons_succ, Option.bind_some]
                  repeat (first
                    | (refine RN.wpL_p (fun K hK => ?_); go_simp; refine hK _ _ ?_; clear hK K)
                    | (refine RN.wpL_r (fun K hK => ?_); apply Exists.intro; refine ⟨fun w2 hw2 => ?_, hK _ _ ?_⟩; (have hk1 := hw2.cell; have hk3 := hw2.1; clear hw2; go_simp; with_reducible rfl); clear hK K; simp only [Act.put, List.setIfInBounds_toArray, List.set_cons_zero, List.set_cons_succ])
                    | (refine RN.wpL_yes rfl rfl ?_)
                    | (refine RN.wpL_un rfl (fun K hK => ?_); simp only [Act.put, List.setIfInBounds_toArray, List.set_cons_zero, List.set_cons_succ]; refine hK _ _ ?_; clear hK K)
                    | (refine RN.wpL_no rfl rfl (fun K hK => ?_); simp only [Act.put, List.setIfInBounds_toArray, List.set_cons_zero, List.set_cons_succ]; refine hK _ _ ?_; clear hK K)
                    | (refine RN.wpL_nil ?_))
                  go_wp2_with fail
                  go_roundw
                  case rel => exact ⟨j + 1, true, by omega, by go_num, rfl, HBJ.out.drew, fun _ => rfl⟩
                  case measure => simp [intOf]; omega
                · have q8 : (y.tx == x.tx) = false := by simpa using ht
                  go_wp2_with fail
                  refine RN.wp_region_t (wr.heap.size) [0, 0, 0, 1, 0, 0, 0, 1, 0, 0, 0, 1, 0, 0, 0, 1, 0, 1, 0, 0, 0, 1, 0, 0, 0, 0] (.fin [0, 1, 2, 3, 4, 5, 6, 7, 8, 9, 10, 11, 12, 13, 14, 15, 16, 17, 18, 19, 20, 21, 22, 23, 24, 25]) (by kernel_rfl) (by kernel_rfl) (by kernel_rfl) (by kernel_rfl) ?_
                  simp only [RN.wpT, selX, guardAt, List.getElem?_cons_zero, List.getElem?_cons_succ, List.getD_cons_zero, List.getD_cons_succ, Option.bind_some]
                  repeat (first
                    | (refine RN.wpL_p (fun K hK => ?_); go_simp; refine hK _ _ ?_; clear hK K)
                    | (refine RN.wpL_r (fun K hK => ?_); apply Exists.intro; refine ⟨fun w2 hw2 => ?_, hK _ _ ?_⟩; (have hk1 := hw2.cell; have hk3 := hw2.1; clear hw2; go_simp; with_reducible rfl); clear hK K; simp only [Act.put, List.setIfInBounds_toArray, List.set_cons_zero, List.set_cons_succ])
                    | (refine RN.wpL_yes rfl rfl ?_)
                    | (refine RN.wpL_un rfl (fun K hK => ?_); simp only [Act.put, List.setIfInBounds_toArray, List.set_cons_zero, List.set_cons_succ]; refine hK _ _ ?_; clear hK K)
                    | (refine RN.wpL_no rfl rfl (fun K hK => ?_); simp only [Act.put, List.setIfInBounds_toArray, List.set_cons_zero, List.set_cons_succ]; refine hK _ _ ?_; clear hK K)
                    | (refine RN.wpL_nil ?_))
                  go_wp2_with fail
                  go_roundw
                  case rel =>
                    refine ⟨j + 1, false, by omega, by go_num, rfl, HBJ.out.drew, fun ⟨m, z, hm, hz, h1, h2⟩ => ?_⟩
                    rcases Nat.lt_or_eq_of_le (Nat.lt_succ_iff.1 hm) with h | rfl
                    · exact HC.out ⟨m, z, h, hz, h1, h2⟩
                    · rw [HY.out] at hz
                      obtain rfl := Option.some.inj hz
                      exact absurd h2 ht
                  case measure => simp [intOf]; omega
              · have q7 : (y.kind == 7) = false := by simpa using h7
                go_wp2_with fail
                refine RN.wp_region_t (wr.heap.size) [0, 0, 0, 1, 0, 0, 0, 1, 0, 0, 0, 1, 0, 0, 0, 1, 0, 1, 0, 0, 0, 1, 0, 0, 0, 0] (.fin [0, 1, 2, 3, 4, 5, 6, 7, 8, 9, 10, 11, 12, 13, 14, 15, 16, 17, 18, 19, 20, 21, 22, 23, 24, 25]) (by kernel_rfl) (by kernel_rfl) (by kernel_rfl) (by kernel_rfl) ?_
                simp only [RN.wpT, selX, guardAt, List.getElem?_cons_zero, List.getElem?_cons_succ, List.getD_cons_zero, List.getD_cons_succ, Option.bind_some]
                repeat (first
                  | (refine RN.wpL_p (fun K hK => ?_); go_simp; refine hK _ _ ?_; clear hK K)
                  | (refine RN.wpL_r (fun K hK => ?_); apply Exists.intro; refine ⟨fun w2 hw2 => ?_, hK _ _ ?_⟩; (have hk1 := hw2.cell; have hk3 := hw2.1; clear hw2; go_simp; with_reducible rfl); clear hK K; simp only [Act.put, List.setIfInBounds_toArray, List.set_cons_zero, List.set_cons_succ])
                  | (refine RN.wpL_yes rfl rfl ?_)
                  | (refine RN.wpL_un rfl (fun K hK => ?_); simp only [Act.put, List.setIfInBounds_toArray, List.set_cons_zero, List.set_cons_succ]; refine hK _ _ ?_; clear hK K)
                  | (refine RN.wpL_no rfl rfl (fun K hK => ?_); simp only [Act.put, List.setIfInBounds_toArray, List.set_cons_zero, List.set_cons_succ]; refine hK _ _ ?_; clear hK K)
                  | (refine RN.wpL_nil ?_))
                go_wp2_with fail
                go_roundw
                case rel =>
                  refine ⟨j + 1, false, by omega, by go_num, rfl, HBJ.out.drew, fun ⟨m, z, hm, hz, h1, h2⟩ => ?_⟩
                  rcases Nat.lt_or_eq_of_le (Nat.lt_succ_iff.1 hm) with h | rfl
                  · exact HC.out ⟨m, z, h, hz, h1, h2⟩
                  · rw [HY.out] at hz
                    obtain rfl := Option.some.inj hz
                    exact absurd h1 h7
                case measure => simp [intOf]; omega
          · obtain rfl : j = i := by omega
            obtain ⟨gt, da, dc, rfl, -, hgt, -, -, c5, -, -⟩ := (HA.out.below HBJ.out).tx HK.out
            have hkn : k < A.length := by omega
            have hcase : 0 ≤ s.tri ∨ b = true := by
              rcases hTr.out.2 j x HX.out h6 with ⟨s', hs', h1, h2⟩ | ⟨m, y, h1, h2, h3, h4⟩
              · have : s' = s := ids_unique hIds.out hs' (List.mem_of_getElem? HK.out) (by rw [h1, hid'])
                subst this
                exact .inl h2
              · exact .inr (HC.out ⟨m, y, h1, h2, h3, h4⟩)
            by_cases h0 : 0 ≤ s.tri
            · have q0 : decide (s.tri < 0) = false := by simp; omega
              go_wp2_with fail
              go_roundw
              case rel => exact ⟨j + 1, by omega, by go_num, HBJ.out⟩
              case measure => simp [intOf]; omega
            · have q0 : decide (s.tri < 0) = true := by simp; omega
              obtain rfl : b = true := hcase.resolve_left h0
              go_wp2_with fail
              go_roundw
              case rel => exact ⟨j + 1, by omega, by go_num, HBJ.out⟩
              case measure => simp [intOf]; omega
      · have q6 : (x.kind != 6) = true := by simpa using h6
        go_wp2_with fail
        go_roundw
        case rel => exact ⟨i + 1, by omega, by go_num, HB.out⟩
        case measure => simp [intOf]; omega
    · obtain rfl : i = E.length := by omega
      go_wp2_with fail
      clear e1
      obtain ⟨W8, rfl⟩ : ∃ W, W = wr := ⟨_, rfl⟩
      go_loopw [15] (fun p wr => ∃ i : Nat, i ≤ A.length ∧ p = .int .i64 i ∧ Below W5.heap.size W5 wr) (fun p _ => A.length - (intOf p).toNat)
      case atStart => exact ⟨0, by omega, by go_num, HB.out⟩
      case round =>
        obtain ⟨i, hi, rfl, hB⟩ := hrel
        have hzi := hB.size
        have HBI := hid hB
        clear hB
        by_cases hlt : i < A.length
        · obtain ⟨s, hs⟩ : ∃ s, A[i]? = some s := ⟨_, List.getElem?_eq_getElem (by omega)⟩
          obtain ⟨gt, da, dc, rfl, -, hgt, -, -, -, c6, hod⟩ := (HA.out.below HBI.out).tx hs
          have hbk := hid (hTr.out.1 s (List.mem_of_getElem? hs))
          have hdbig : s.deeds.length ≤ 9223372036854775807 := by obtain ⟨_, _, _, hb⟩ := OwnF.form2 hod; exact hb
          obtain ⟨ds, hds⟩ : ∃ ds, ds = s.deeds := ⟨_, rfl⟩
          rw [← hds] at c6 hod hbk hdbig
          have HOD := hid hod
          clear hod hds hs
          obtain ⟨W9, rfl⟩ : ∃ W, W = wr := ⟨_, rfl⟩
          go_wp2_with fail
          go_loopw [16] (fun p wr => ∃ k : Nat, k ≤ ds.length ∧ p = .int .i64 k ∧ wr = W9) (fun p _ => ds.length - (intOf p).toNat)
          case atStart => exact ⟨0, by omega, by go_num, rfl⟩
          case round =>
            obtain ⟨k, hk, rfl, rfl⟩ := hrel
            by_cases hlk : k < ds.length
            · obtain ⟨d, hd⟩ : ∃ d, ds[k]? = some d := ⟨_, List.getElem?_eq_getElem hlk⟩
              obtain ⟨gd, rfl⟩ : ∃ g, da = some ⟨g, 0, none⟩ := by
                rcases OwnF.form HOD.out with ⟨h, h2⟩ | ⟨g, kk, h, -⟩
                · rw [h2] at hlk; simp at hlk
                · simp only [Value.slice.injEq] at h; exact ⟨g, h.1⟩
              obtain ⟨-, -, -, d7, hgd⟩ := OwnF.deed HOD.out hd
              have := hbk.out d (List.mem_of_getElem? hd)
              have q7 : decide (d.back < 0) = false := by simp; omega
              clear hd
              go_wp2_with fail
              go_roundw
              case rel => exact ⟨k + 1, by omega, by go_num, trivial⟩
              case measure => simp [intOf]; omega
            · obtain rfl : k = ds.length := by omega
              go_wp2_with fail
              go_roundw
              case rel => exact ⟨i + 1, by omega, by go_num, HBI.out⟩
              case measure => simp [intOf]; omega
        · obtain rfl : i = A.length := by omega
          go_wp2
          go_ret
          exact ⟨rfl, B5.out.trans (HBI.out.mono B5.out.size)⟩
end Go.Proofs.YtogphaiomlfofaaGreatDoor
