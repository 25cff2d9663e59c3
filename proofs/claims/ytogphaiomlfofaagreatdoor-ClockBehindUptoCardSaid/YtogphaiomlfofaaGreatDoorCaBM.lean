/- ClockBehind: what it calls: umpireref18.Count, Cells. Conditions: those of each theorem, as typed. -/
import Derived.Test.YtogphaiomlfofaaGreatDoorCaQM
import Derived.Test.YtogphaiomlfofaaGreatDoorCutM
set_option linter.unusedVariables false
set_option linter.unusedSimpArgs false
namespace Go.Proofs.YtogphaiomlfofaaGreatDoor
open Go.RowKit Go.Maps
set_option linter.unusedVariables false
set_option linter.unusedSimpArgs false
attribute [local irreducible] wpL RN.wpL

theorem sum_take_succ {l : List Nat} {k n : Nat} (h : l[k]? = some n) : (l.take (k + 1)).sum = (l.take k).sum + n := by
  rw [List.take_add_one, h]; simp
theorem sum_take_le (l : List Nat) (k : Nat) : (l.take k).sum ≤ l.sum := by
  conv => rhs; rw [← List.take_append_drop k l, List.sum_append]
  omega
theorem OwnF.intc {w : World} {B g n cap k : Nat} {l : List Int} {x : Int} (h : OwnF intC 3 1 w B (.slice (some ⟨g, 0, none⟩) n cap) l) (hk : l[k]? = some x) : w.cell? ⟨g, k, none⟩ = some (.int .i64 x) := by
  have hkl := (List.getElem?_eq_some_iff.1 hk).1
  obtain ⟨a, c, hv⟩ := OwnF.slv h
  simp only [Value.slice.injEq] at hv
  obtain ⟨rfl, rfl, rfl⟩ := hv
  obtain ⟨b, off, x', he, hb, hx, hc⟩ := (OwnF.sl h).atF intC_len rfl hkl
  simp only [Option.some.injEq, Addr.mk.injEq] at he
  obtain ⟨rfl, rfl, -⟩ := he
  rw [hk] at hx
  obtain rfl := Option.some.inj hx
  have c0 := hc 0 (by decide)
  simpa [intC] using c0
theorem OwnF.evc {w : World} {B g n cap k : Nat} {l : List Ev} {e : Ev} (h : OwnF Ev.cells 46 8 w B (.slice (some ⟨g, 0, none⟩) n cap) l) (hk : l[k]? = some e) : w.cell? ⟨g, k * 8 + 1, none⟩ = some (.int .i64 e.tx) := by
  have hkl := (List.getElem?_eq_some_iff.1 hk).1
  obtain ⟨a, c, hv⟩ := OwnF.slv h
  simp only [Value.slice.injEq] at hv
  obtain ⟨rfl, rfl, rfl⟩ := hv
  obtain ⟨b, off, x, he, hb, hx, hc⟩ := (OwnF.sl h).atF Ev.len rfl hkl
  simp only [Option.some.injEq, Addr.mk.injEq] at he
  obtain ⟨rfl, rfl, -⟩ := he
  rw [hk] at hx
  obtain rfl := Option.some.inj hx
  have c1 := hc 1 (by decide)
  simpa [Ev.cells] using c1
theorem TxsAt.fin {w : World} {B : Nat} {a : Option Addr} {n cap k : Nat} {A : Au} {s : St} (h : TxsAt w B (.slice a n cap) A) (hk : A[k]? = some s) : ∃ g : Nat, a = some ⟨g, 0, none⟩ ∧ g < w.heap.size ∧ w.cell? ⟨g, k * 7 + 4, none⟩ = some (.int .i64 s.fin) := by
  obtain ⟨rs, hv, hvl, hvc⟩ := h
  obtain ⟨a', c', hv'⟩ := OwnF.slv hv
  simp only [Value.slice.injEq] at hv'
  obtain ⟨rfl, rfl, rfl⟩ := hv'
  have hkl := (List.getElem?_eq_some_iff.1 hk).1
  obtain ⟨g, rfl⟩ : ∃ g, a = some ⟨g, 0, none⟩ := by
    rcases OwnF.form hv with ⟨h, h2⟩ | ⟨g, kk, h, -⟩
    · rw [h2] at hvl; simp at hvl; omega
    · simp only [Value.slice.injEq] at h; exact ⟨g, h.1⟩
  obtain ⟨b, off, r, he, hb, hr, hc⟩ := (OwnF.sl hv).atF TxR.len rfl (k := k) (by omega)
  simp only [Option.some.injEq, Addr.mk.injEq] at he
  obtain ⟨rfl, rfl, -⟩ := he
  obtain ⟨⟨-, -, -, -, h4, -⟩, -⟩ := hvc k r s hr hk
  have c4 := hc 4 (by decide)
  simp [TxR.cells, h4] at c4
  exact ⟨_, rfl, hb, c4⟩
set_option maxRecDepth 100000 in
set_option maxHeartbeats 1000000 in
theorem ref_Count (vc vt : Value) (P : Pg) (w : World) (h : PgIs w w.heap.size vc vt P) (hn : cntTxs P ≤ 9223372036854775807) :
    Calls Tryz.prog 21 #[.agg #[vc, vt]] w fun e w' => e = .returned (.int .i64 (cntTxs P)) ∧ Below w.heap.size w w' := by
  obtain ⟨ac, cc, rfl, mc⟩ := h.cells.ex
  obtain ⟨at', ct, rfl, mt⟩ := h.thr.ex
  have r0 := row_new w (.cells #[.slice ac P.cells.length cc, .slice at' P.threads.length ct] 25)
  have b0 : Below w.heap.size w (w.alloc (.cells #[.slice ac P.cells.length cc, .slice at' P.threads.length ct] 25)) := (Below.refl _ w).alloc (Nat.le_refl _) _
  have H0 := hid ((h.below b0).more b0.size)
  have B0 := hid b0
  have z0 := row_lt r0
  unfold cntTxs at hn ⊢
  obtain ⟨ls, hls⟩ : ∃ ls, ls = P.threads.map List.length := ⟨_, rfl⟩
  rw [← hls] at hn ⊢
  have HLS := hid hls
  clear h b0 hls
  go_enter Tryz.func21, Tryz.ntmps21
  go_wp2_with fail
  generalize w.alloc (.cells #[.slice ac P.cells.length cc, .slice at' P.threads.length ct] 25) = W at *
  have d1 : W.cell? ⟨w.heap.size, 1, none⟩ = some (.slice at' P.threads.length ct) := row_cell r0 1
  clear r0
  go_loop [3, 4] (fun n i => ∃ k : Nat, k ≤ P.threads.length ∧ i = .int .i64 k ∧ n = .int .i64 ((ls.take k).sum : Nat)) (fun _ i => P.threads.length - (intOf i).toNat)
  case atStart => exact ⟨0, by omega, by go_num, by simp⟩
  case round =>
    obtain ⟨k, hk, rfl, rfl⟩ := hrel
    by_cases hlt : k < P.threads.length
    · obtain ⟨b, off, u, t, hat, hb, ht, hu, hut⟩ := H0.out.thr.at rfl hlt
      obtain ⟨au, cu, rfl, mu⟩ := hut.ex
      subst hat
      have e1 : (ls.take (k + 1)).sum = (ls.take k).sum + t.length := sum_take_succ (by rw [HLS.out, List.getElem?_map, ht]; rfl)
      have e2 := sum_take_le ls (k + 1)
      obtain ⟨q, hq⟩ : ∃ q, q = (ls.take k).sum := ⟨_, rfl⟩
      rw [← hq] at e1
      have hq2 : q + t.length ≤ 9223372036854775807 := by omega
      rw [← hq]
      have E1 := hid e1
      clear hut ht e1 e2 hq
      go_wp2_with fail
      go_round
      case rel => exact ⟨k + 1, by omega, by go_num, by rw [E1.out]; go_num⟩
      case measure => simp [intOf]; omega
    · obtain rfl : k = P.threads.length := by omega
      have e1 : (ls.take P.threads.length).sum = ls.sum := by rw [List.take_of_length_le (by rw [HLS.out]; simp)]
      rw [e1]
      go_wp2
      go_ret
      exact ⟨by first | rfl | simp, B0.out⟩
section
variable {w : World} {C : LC} {ve : Value} {P : Pg} {M : LM} {us : List WkV}
def CellsRet (n : Nat) (w : World) (e : Ending) (w' : World) : Prop := ∃ (v : Value) (l : List Int), e = .returned v ∧ l.length = n ∧ OwnF intC 3 1 w' w.heap.size v l ∧ Below w.heap.size w w'
set_option maxRecDepth 100000 in
set_option maxHeartbeats 1000000 in
theorem la_Cells (h : LaAt w C ve us P M) (hc : ∀ c ∈ M.cs, -999999000 ≤ c.val ∧ c.val ≤ 999999000) :
    Calls Tryz.prog 41 #[.pointer (some ⟨C.bM, 0, none⟩)] w (CellsRet P.cells.length w) := by
  obtain ⟨gC, cc, hce⟩ := h.ceForm
  have d1 := row_cell h.row 1
  have lM := row_lt h.row
  have hn4 := h.ok.cells
  simp only [List.getElem?_toArray, List.getElem?_cons_zero, List.getElem?_cons_succ, hce] at d1
  have H := hid h
  clear h
  go_enter Tryz.func41, Tryz.ntmps41
  go_wp2_with (at_make; refine wpList_makeF (f := intC) (e := 3) (sz := 1) (B := w.heap.size) rfl _ _ _ rfl _ 8 Tryz.underlying22 infoI rfl rfl (by first | omega | (simp <;> omega)) (by first | omega | (simp <;> omega)) (by first | omega | (simp <;> omega)) ?_; refine Stop.halt ?_)
  refine Stop.go ?_
  intro w1 o1 b1 z1
  have d1 := cell_below b1 lM d1
  have B1 := hid b1
  have O1 := hid o1
  have l1 : C.bM < w1.heap.size := by omega
  clear b1 o1
  go_wp2_with fail
  go_loopw [3, 17] (fun v p wr => ∃ (k : Nat) (l : List Int), k ≤ P.cells.length ∧ p = .int .i64 k ∧ l.length = k ∧ OwnF intC 3 1 wr w.heap.size v l ∧ Below w.heap.size w wr) (fun _ p _ => P.cells.length - (intOf p).toNat)
  case atStart => exact ⟨0, [], by omega, by go_num, rfl, O1.out, B1.out⟩
  case round =>
    obtain ⟨k, l, hk, rfl, hl, hO, hB⟩ := hrel
    obtain ⟨ao, co, rfl, -⟩ := hO.form2
    have zB := hB.size
    have HB := hid hB
    have HO := hid hO
    clear hB hO
    by_cases hlt : k < P.cells.length
    · obtain ⟨hgC, c, hcm, y0, y1, y2⟩ := (H.out.below HB.out).ceAt hce hlt
      have hcv := hc c (List.mem_of_getElem? hcm)
      clear hcm
      have r4 := row_new wr (.cells #[.int .i64 c.val, .int .i64 c.ver, .int .i64 c.own] 116)
      have z4 : wr.heap.size + 1 ≤ (wr.alloc (.cells #[.int .i64 c.val, .int .i64 c.ver, .int .i64 c.own] 116)).heap.size := by simp
      have O4 := hid (HO.out.alloc (.cells #[.int .i64 c.val, .int .i64 c.ver, .int .i64 c.own] 116))
      have B4 := hid (HB.out.alloc zB (.cells #[.int .i64 c.val, .int .i64 c.ver, .int .i64 c.own] 116))
      go_wp2_with (at_builtin; refine wpList_appF rfl _ _ _ rfl _ 8 Tryz.underlying22 infoI rfl O4.out c.val (by first | omega | (simp <;> omega)) (by rfl) (by rfl) (by first | rfl | simp) rfl (in_one _) (by first | omega | (simp only [List.length_append, List.length_cons, List.length_nil, List.length_replicate]; omega)) (by first | omega | (simp only [List.length_append, List.length_cons, List.length_nil, List.length_replicate]; omega)) ?_; refine Stop.halt ?_)
      refine Stop.go ?_
      intro g5 c5 w5 o5 G5
      have B5 := hid (B4.out.trans (G5.below B4.out.size fun q h => (O4.out.lt q (by rw [hl]; exact h)).1))
      have O5 := hid o5
      clear o5 G5 r4 y0 y1 y2
      go_wp2_with fail
      go_roundw
      case rel => exact ⟨k + 1, _, by omega, by go_num, by rw [List.length_append, hl]; rfl, O5.out, B5.out⟩
      case measure => simp [intOf]; omega
    · obtain rfl : k = P.cells.length := by omega
      go_wp2
      go_ret
      exact ⟨_, l, rfl, hl, HO.out, HB.out⟩
end
end Go.Proofs.YtogphaiomlfofaaGreatDoor
