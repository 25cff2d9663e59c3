/- The engine clock as plain lists: what is aborted behind a try has written. Conditions: those of each theorem, as typed. -/
import Derived.Test.YtogphaiomlfofaaGreatDoorCmEM
set_option linter.unusedVariables false
set_option linter.unusedSimpArgs false
namespace Go.Proofs.YtogphaiomlfofaaGreatDoor
open Go.RowKit Go.Maps
set_option linter.unusedVariables false
set_option linter.unusedSimpArgs false

def HasW (s : St) : Prop := ∃ d ∈ s.deeds, d.op = 2
def isLk : Nx → Bool
  | .lock _ => true
  | .tick => true
  | .look _ _ => true
  | .write _ _ => true
  | _ => false
def Cur (M : LM) (i : Nat) (t : Th) (s : St) : Prop := (∀ tm r sw, M.ws[i]? = some (some (tm, r, sw)) → sw ≠ [] → HasW s) ∧ (∀ x, M.nx[i]? = some x → isLk x = true → HasW s) ∧ (t.waits ≠ 4 → s.tri < 0)
structure CInv (M : LM) (A : Au) : Prop where
  cur : ∀ (i : Nat) (t : Th) (s : St), M.W.ths[i]? = some t → t.begun = true → s ∈ A → s.id = idOf i t.tx → Cur M i t s
  fin : ∀ s ∈ A, s.stand = 5 → s.status = 4 → 0 ≤ s.tri → HasW s
section
variable {P : Pg} {M M' : LM} {A : Au}
theorem CInv.set (h : CInv M A) (hJ : JInv P M.W A) {i k : Nat} {t t' : Th} {s s' : St} (ht : M.W.ths[i]? = some t) (hb : t.begun = true) (hs : A[k]? = some s) (hid : s.id = idOf i t.tx) (he : s'.id = s.id)
    (hths : M'.W.ths = M.W.ths.set i t') (hws : ∀ j, j ≠ i → M'.ws[j]? = M.ws[j]?) (hnx : ∀ j, j ≠ i → M'.nx[j]? = M.nx[j]?) (hnew : t'.begun = true → t'.tx = t.tx ∧ Cur M' i t' s') (hfin : s'.stand = 5 → s'.status = 4 → 0 ≤ s'.tri → HasW s') : CInv M' (A.set k s') := by
  have htx := (hJ.bt i t ht).2 hb
  refine ⟨fun j u z hu hub hz hzi => ?_, fun z hz => ?_⟩
  · rw [hths] at hu
    rcases get_set hu with ⟨rfl, rfl⟩ | ⟨hne, hu⟩
    · obtain ⟨h1, h2⟩ := hnew hub
      rcases mem_set hs hz hJ.ids with rfl | ⟨-, hne⟩
      · exact h2
      · exact absurd (by rw [hzi, hid, h1]) hne
    · have hux := (hJ.bt j u hu).2 hub
      rcases mem_set hs hz hJ.ids with rfl | ⟨hz, -⟩
      · exact absurd (idOf_inj htx hux (by rw [← hid, ← he, hzi])).1 hne
      · obtain ⟨h1, h2, h3⟩ := h.cur j u z hu hub hz hzi
        exact ⟨fun tm r sw hw => h1 tm r sw (by rw [← hws j (Ne.symm hne)]; exact hw), fun x hx => h2 x (by rw [← hnx j (Ne.symm hne)]; exact hx), h3⟩
  · rcases mem_set hs hz hJ.ids with rfl | ⟨hz, -⟩
    · exact hfin
    · exact h.fin z hz
theorem CInv.still (h : CInv M A) {i : Nat} {x x' : Nx} (hW : M'.W = M.W) (hws : M'.ws = M.ws) (hx : M.nx[i]? = some x) (hlk : isLk x = true) (hnx : M'.nx = M.nx.set i x') : CInv M' A := by
  refine ⟨fun j u z hu hub hz hzi => ?_, h.fin⟩
  rw [hW] at hu
  obtain ⟨h1, h2, h3⟩ := h.cur j u z hu hub hz hzi
  refine ⟨by rw [hws]; exact h1, fun y hy hl => ?_, h3⟩
  rw [hnx] at hy
  rcases get_set hy with ⟨rfl, rfl⟩ | ⟨hne, hy⟩
  · exact h2 x hx hlk
  · exact h2 y hy hl
theorem hasW_call {s : St} (e : Ev) (n : Nat) (h : HasW s) : HasW (callSt e n s) := by
  obtain ⟨d, hd, ho⟩ := h
  exact ⟨d, by simp [callSt, hd], ho⟩
theorem hasW_ret {s : St} (ret got : Int) (n : Nat) (h : HasW s) : HasW (retSt ret got n s) := by
  obtain ⟨d, hd, ho⟩ := h
  unfold retSt
  cases hl : s.deeds.getLast? with
  | none => exact ⟨d, hd, ho⟩
  | some x =>
    have hne : s.deeds ≠ [] := fun e => by rw [e] at hl; cases hl
    have hx : s.deeds.getLast hne = x := by rw [List.getLast?_eq_some_getLast hne] at hl; exact Option.some.inj hl
    have hsp : s.deeds = s.deeds.dropLast ++ [x] := by rw [← hx]; exact (List.dropLast_concat_getLast hne).symm
    rw [hsp] at hd
    rcases List.mem_append.1 hd with hd | hd
    · exact ⟨d, by simp [hd], ho⟩
    · have : d = x := by simpa using hd
      subst this
      exact ⟨retDd d ret got n, by simp, ho⟩
theorem retSt_id (ret got : Int) (n : Nat) (s : St) : (retSt ret got n s).id = s.id ∧ (retSt ret got n s).tri = s.tri := by
  unfold retSt
  split <;> exact ⟨rfl, rfl⟩
theorem retSt_stand {ret got : Int} {n : Nat} {s : St} (h : ∃ d, s.deeds.getLast? = some d) : (retSt ret got n s).stand = 1 := by
  obtain ⟨d, hd⟩ := h
  unfold retSt
  rw [hd]
theorem hasW_wrote {s : St} {ret got : Int} {n : Nat} {d : Dd} (hl : s.deeds.getLast? = some d) (ho : d.op = 2) : HasW (retSt ret got n s) := by
  unfold retSt
  rw [hl]
  exact ⟨retDd d ret got n, by simp, ho⟩
theorem clk_cstep (hL : LInv P M) (hJ : JInv P M.W A) (hC : CInv M A) {i : Nat} (hi : i < P.threads.length) {t : Th} (ht : M.W.ths[i]? = some t) (hd : thDone P i t = false) (hs : Stp P M i t M') :
    ∃ A', JInv P M'.W A' ∧ CInv M' A' := by
  obtain ⟨htk, -⟩ := hL.th i t ht
  have htr := hL.readB ht
  have hi4 : i < 4 := by have := hL.ok.threads.2; omega
  have htx := tx_lt hL.ok hi htk hd
  have ht3 := Pg.tx3 hL.ok hi
  have ha6 := acts_le hL.ok hi t.tx
  have hcl : P.cells.length ≤ 4 := hL.ok.cells.2
  have nset : ∀ (j : Nat) (x : Nx), j ≠ i → (M.nx.set i x)[j]? = M.nx[j]? := fun j x hne => List.getElem?_set_ne (Ne.symm hne)
  have wset : ∀ (j : Nat) (x : Wo), j ≠ i → (M.ws.set i x)[j]? = M.ws[j]? := fun j x hne => List.getElem?_set_ne (Ne.symm hne)
  have hnxl : i < M.nx.length := by rw [hL.nxl]; exact hi
  have hwsl : i < M.ws.length := by rw [hL.wsl]; exact hi
  -- what is aborted
  have habort : ∀ {st : Int} (hst : st = 4) (cs' : List Ce) (hw : t.waits = 2 ∨ t.waits = 4 ∨ t.waits = 7) (hb : t.begun = true), (t.waits = 4 → ∃ x, M.nx[i]? = some x ∧ isLk x = true) → ∃ A', JInv P (M.W.put i (endTh t, withTx (ev0 6) (idOf i t.tx))) A' ∧ CInv ⟨M.W.put i (endTh t, withTx (ev0 6) (idOf i t.tx)), cs', M.ws, M.nx.set i .none, M.clk⟩ A' := fun {st} hst cs' hw hb hlk => by
    obtain ⟨k, s, hs, hid, hth, hstd, hj'⟩ := hJ.ended (kind := 6) (status := 4) ht hb (by omega) ha6 htk.act (fun h => by
      rcases htk.waits with h1 | ⟨-, ⟨-, a, ha, -⟩ | ⟨h1, -⟩ | ⟨h1, -⟩⟩
      · omega
      · exact (List.getElem?_eq_some_iff.1 ha).1
      · omega
      · omega) (.inr ⟨rfl, rfl, hw⟩)
    obtain ⟨-, c2, c3⟩ := hC.cur i t s ht hb (List.mem_of_getElem? hs) hid
    refine ⟨_, hj', hC.set (t' := endTh t) (s' := endS 4 M.W.evs.length s) hJ ht hb hs hid rfl rfl (fun j hne => rfl) (fun j hne => nset j _ hne) (fun e => by cases e) (fun _ _ h0 => ?_)⟩
    by_cases h4 : t.waits = 4
    · obtain ⟨x, hx, hl⟩ := hlk h4
      exact c2 x hx hl
    · have := c3 h4
      simp only [endS] at h0
      omega
  cases hs with
  | begin hw hb hx =>
    obtain ⟨-, hj'⟩ := hJ.begun ht hb (by omega) (by omega) hw
    refine ⟨_, hj', ⟨fun j u z hu hub hz hzi => ?_, fun z hz => ?_⟩⟩
    · have hids := hj'.ids
      simp only [List.map_append, List.map_cons, List.map_nil] at hids
      have hnin : ∀ z ∈ A, z.id ≠ idOf i t.tx := fun z hz e => by
        have := (List.nodup_append.1 hids).2.2 z.id (List.mem_map.2 ⟨z, hz, rfl⟩) (idOf i t.tx) (by simp [newSt, withTx])
        exact this e
      simp only [Wst.put] at hu
      rcases get_set hu with ⟨rfl, rfl⟩ | ⟨hne, hu⟩
      · rcases List.mem_append.1 hz with hz | hz
        · exact absurd hzi (hnin z hz)
        · have : z = newSt (withTx { ev0 1 with thread := i } (idOf i t.tx)) M.W.evs.length := by simpa using hz
          subst this
          refine ⟨fun tm r sw hw' hne => ?_, fun x hx' hl => ?_, fun _ => by simp [newSt]⟩
          · rw [List.getElem?_set_self hwsl] at hw'
            simp only [Option.some.injEq, Prod.mk.injEq] at hw'
            exact absurd hw'.2.2.symm hne
          · rw [List.getElem?_set_self hnxl] at hx'
            obtain rfl := Option.some.inj hx'
            cases hl
      · have hux := (hJ.bt j u hu).2 hub
        rcases List.mem_append.1 hz with hz | hz
        · obtain ⟨h1, h2, h3⟩ := hC.cur j u z hu hub hz hzi
          exact ⟨fun tm r sw hw => h1 tm r sw (by rw [← wset j _ (Ne.symm hne)]; exact hw), fun x hx => h2 x (by rw [← nset j _ (Ne.symm hne)]; exact hx), h3⟩
        · have : z = newSt (withTx { ev0 1 with thread := i } (idOf i t.tx)) M.W.evs.length := by simpa using hz
          subst this
          exact absurd (idOf_inj (by omega) hux hzi).1 hne
    · rcases List.mem_append.1 hz with hz | hz
      · exact hC.fin z hz
      · have : z = newSt (withTx { ev0 1 with thread := i } (idOf i t.tx)) M.W.evs.length := by simpa using hz
        subst this
        intro h5
        simp [newSt] at h5
  | call a hw hb hx ha hk =>
    obtain ⟨hkk, hc0, hc1, hv0, hv1⟩ := acts_kinds hL.ok hi hd htk ha hk
    obtain ⟨k, s, hs, hid, hth, hst, hj'⟩ := hJ.called ht hb hw ha hk (by omega) ⟨hc0, hc1, by omega⟩ (fun _ => by unfold wrVal; split <;> omega)
    obtain ⟨c1, c2, c3⟩ := hC.cur i t s ht hb (List.mem_of_getElem? hs) hid
    refine ⟨_, hj', hC.set (t' := { t with waits := 2 }) (s' := callSt _ _ s) hJ ht hb hs hid rfl rfl (fun j hne => rfl) (fun j hne => nset j _ hne) (fun _ => ⟨rfl, fun tm r sw h1 h2 => hasW_call _ _ (c1 tm r sw h1 h2), fun x hx' hl => ?_, fun _ => c3 (by omega)⟩) (fun h5 => by simp [callSt] at h5)⟩
    rw [List.getElem?_set_self hnxl] at hx'
    obtain rfl := Option.some.inj hx'
    cases hl
  | cancel a hw hb hx ha hk =>
    obtain ⟨k, s, hs, hid, hth, hst, hj'⟩ := hJ.cancelled ht hb hw (by omega)
    obtain ⟨c1, c2, c3⟩ := hC.cur i t s ht hb (List.mem_of_getElem? hs) hid
    refine ⟨_, hj', hC.set (t' := { t with waits := 7 }) (s' := canS s) hJ ht hb hs hid rfl rfl (fun j hne => rfl) (fun j hne => nset j _ hne) (fun _ => ⟨rfl, c1, fun x hx' hl => ?_, fun _ => c3 (by omega)⟩) (fun h5 => by simp [canS] at h5)⟩
    rw [List.getElem?_set_self hnxl] at hx'
    obtain rfl := Option.some.inj hx'
    cases hl
  | try_ tm r sw hw hb hx ha hs0 =>
    obtain ⟨k, s, hs, hid, hth, hst, hj'⟩ := hJ.tried ht hb hw (by omega)
    obtain ⟨c1, c2, c3⟩ := hC.cur i t s ht hb (List.mem_of_getElem? hs) hid
    refine ⟨_, hj', hC.set (t' := { t with waits := 4 }) (s' := tryS _ s) hJ ht hb hs hid rfl rfl (fun j hne => rfl) (fun j hne => nset j _ hne) (fun _ => ⟨rfl, c1, fun x hx' hl => ?_, fun h4 => absurd rfl h4⟩) (fun h5 => by simp [tryS] at h5)⟩
    rw [List.getElem?_set_self hnxl] at hx'
    obtain rfl := Option.some.inj hx'
    by_cases he : sw = []
    · rw [if_pos he] at hl; cases hl
    · exact c1 tm r sw hs0 he
  | wrote a tm r sw hw hb hx ha hk hs0 =>
    obtain ⟨k, s, hs, hid, hth, hst, hj'⟩ := hJ.answered (ret := 1) (got := 0) ht hb hw (by omega) ha (.inl ⟨hk, rfl, rfl, rfl⟩) (by omega)
    obtain ⟨c1, c2, c3⟩ := hC.cur i t s ht hb (List.mem_of_getElem? hs) hid
    have hsm := List.mem_of_getElem? hs
    obtain ⟨d, hdl⟩ := hJ.dd s hsm (by rw [hst]; simp [standOf, hw])
    have hp := (hJ.pend i t s d a ht hsm hid hw ha hdl).1 hk
    have hW : HasW (retSt 1 0 M.W.evs.length s) := hasW_wrote hdl hp.1
    refine ⟨_, hj', hC.set (t' := wrTh t) (s' := retSt 1 0 _ s) hJ ht hb hs hid (retSt_id _ _ _ _).1 rfl (fun j hne => wset j _ hne) (fun j hne => nset j _ hne) (fun _ => ⟨rfl, fun _ _ _ _ _ => hW, fun _ _ _ => hW, fun _ => by rw [(retSt_id _ _ _ _).2]; exact c3 (by omega)⟩) (fun _ _ _ => hW)⟩
  | kept a tm r sw v hw hb hx ha hk hs0 hf =>
    have hv9 : -1000000000 ≤ v ∧ v ≤ 1000000000 := by
      have hT : tot P ≤ 9484 := by unfold tot; have := hL.ok.threads.2; omega
      have hev := hL.ev
      have hwr := hL.wo i tm r sw hs0
      have hv := hwr.val (a.cell, v) ((fnd_some hwr.ssrt).1 hf)
      unfold inB VB at hv; simp only at hv; omega
    obtain ⟨k, s, hs, hid, hth, hst, hj'⟩ := hJ.answered (ret := 3) (got := v) ht hb hw (by omega) ha (.inr ⟨hk, rfl, rfl⟩) hv9
    obtain ⟨c1, c2, c3⟩ := hC.cur i t s ht hb (List.mem_of_getElem? hs) hid
    have hst1 := retSt_stand (ret := 3) (got := v) (n := M.W.evs.length) (hJ.dd s (List.mem_of_getElem? hs) (by rw [hst]; simp [standOf, hw]))
    refine ⟨_, hj', hC.set (t' := rdTh t a v) (s' := retSt 3 v _ s) hJ ht hb hs hid (retSt_id _ _ _ _).1 rfl (fun j hne => rfl) (fun j hne => nset j _ hne) (fun _ => ⟨by unfold rdTh; split <;> rfl, fun tm r sw h1 h2 => hasW_ret _ _ _ (c1 tm r sw h1 h2), fun x hx' hl => ?_, fun _ => by rw [(retSt_id _ _ _ _).2]; exact c3 (by omega)⟩) (fun h5 => by rw [hst1] at h5; omega)⟩
    rw [List.getElem?_set_self hnxl] at hx'
    obtain rfl := Option.some.inj hx'
    cases hl
  | read a tm r sw hw hb hx ha hk hs0 hf htn =>
    have hv9 := hL.ceB a.cell
    obtain ⟨k, s, hs, hid, hth, hst, hj'⟩ := hJ.answered (ret := 3) (got := (ceAt M.cs a.cell).val) ht hb hw (by omega) ha (.inr ⟨hk, rfl, rfl⟩) (by omega)
    obtain ⟨c1, c2, c3⟩ := hC.cur i t s ht hb (List.mem_of_getElem? hs) hid
    have hst1 := retSt_stand (ret := 3) (got := (ceAt M.cs a.cell).val) (n := M.W.evs.length) (hJ.dd s (List.mem_of_getElem? hs) (by rw [hst]; simp [standOf, hw]))
    refine ⟨_, hj', hC.set (t' := rdTh t a (ceAt M.cs a.cell).val) (s' := retSt 3 (ceAt M.cs a.cell).val _ s) hJ ht hb hs hid (retSt_id _ _ _ _).1 rfl (fun j hne => wset j _ hne) (fun j hne => nset j _ hne) (fun _ => ⟨by unfold rdTh; split <;> rfl, fun tm' r' sw' h1 h2 => ?_, fun x hx' hl => ?_, fun _ => by rw [(retSt_id _ _ _ _).2]; exact c3 (by omega)⟩) (fun h5 => by rw [hst1] at h5; omega)⟩
    · rw [List.getElem?_set_self hwsl] at h1
      simp only [Option.some.injEq, Prod.mk.injEq] at h1
      obtain ⟨rfl, rfl, rfl⟩ := h1
      exact hasW_ret _ _ _ (c1 _ _ _ hs0 h2)
    · rw [List.getElem?_set_self hnxl] at hx'
      obtain rfl := Option.some.inj hx'
      cases hl
  | refused a tm r sw hw hb hx ha hk hs0 hf htn => exact habort rfl _ (.inl hw) hb (fun h => by omega)
  | abort hw hb hx => exact habort rfl _ (.inr (.inr hw)) hb (fun h => by omega)
  | lockNo k l hw hb hx ho => exact habort rfl _ (.inr (.inl hw)) hb (fun _ => ⟨_, hx, rfl⟩)
  | lookNo now k l tm r sw hw hb hx hs0 htn => exact habort rfl _ (.inr (.inl hw)) hb (fun _ => ⟨_, hx, rfl⟩)
  | lock_ k l hw hb hx ho => exact ⟨A, hJ, hC.still (i := i) (x := .lock (k :: l)) (x' := lockNx l) rfl rfl hx rfl rfl⟩
  | tick tm r sw hw hb hx hs0 => exact ⟨A, hJ, hC.still (i := i) (x := .tick) (x' := lookNx (M.clk + 1) sw (r.map (·.1))) rfl rfl hx rfl rfl⟩
  | look_ now k l tm r sw hw hb hx hs0 htn => exact ⟨A, hJ, hC.still (i := i) (x := .look now (k :: l)) (x' := lookNx now sw l) rfl rfl hx rfl rfl⟩
  | write_ now k l tm r sw hw hb hx hs0 => exact ⟨A, hJ, hC.still (i := i) (x := .write now (k :: l)) (x' := writeNx now l) rfl rfl hx rfl rfl⟩
  | commit hw hb hx =>
    obtain ⟨k, s, hs, hid, hth, hst, hj'⟩ := hJ.ended (kind := 5) (status := 3) ht hb (by omega) ha6 htk.act (fun h => by omega) (.inl ⟨rfl, rfl, hw⟩)
    exact ⟨_, hj', hC.set (t' := endTh t) (s' := endS 3 M.W.evs.length s) hJ ht hb hs hid rfl rfl (fun j hne => rfl) (fun j hne => nset j _ hne) (fun e => by cases e) (fun _ h4 => by simp [endS] at h4)⟩
structure Lclk (P : Pg) (M : LM) (A : Au) : Prop where
  al : Lall P M A
  ci : CInv M A
theorem Lclk.step (h : Lclk P M A) (i : Int) : ∃ A', Lclk P (stepTo P M i) A' := by
  unfold stepTo
  cases hd : wDone P M.W i with
  | true => exact ⟨A, h⟩
  | false =>
    obtain ⟨k, rfl, hk⟩ := wDone_in h.al.li.thl hd
    obtain ⟨t, ht⟩ : ∃ t, M.W.ths[k]? = some t := ⟨_, List.getElem?_eq_getElem (by rw [h.al.li.thl]; exact hk)⟩
    have hdn : thDone P k t = false := by rw [← wDone_th ht]; exact hd
    have hs := stp_of h.al.li hk ht hd
    have hw := stp_wk h.al.li ht hs
    obtain ⟨A', h1, h2⟩ := clk_cstep h.al.li h.al.ji h.ci hk ht hdn hs
    exact ⟨A', ⟨(stp_inv h.al.li hk ht hdn hs).1, bstep h.al.li.ok h.al.bi hk ht hdn (h.al.li.th k t ht).1 hw, h1⟩, h2⟩
theorem Lclk.steps : ∀ (l : List Int) {M : LM} {A : Au}, Lclk P M A → ∃ A', Lclk P (stepsTo P M l) A'
  | [], _, A, h => ⟨A, h⟩
  | i :: l, _, _, h => let ⟨_, h1⟩ := h.step i; Lclk.steps l h1
theorem Lclk.start (h : PgOk P) : Lclk P (startLM P) [] := ⟨Lall.start h, fun i t s ht hb hs => (nomatch hs), fun s hs => (nomatch hs)⟩
theorem clk_run (h : PgOk P) {l : List Int} {full : Bool} (hr : RunOf P (startLM P) l full M) : ∃ A, Lclk P M A := by
  unfold RunOf at hr
  split at hr
  · obtain ⟨l2, rfl, -⟩ := hr
    exact (Lclk.start h).steps _
  · rw [hr]; exact (Lclk.start h).steps _
theorem Lclk.reads (h : Lclk P M A) (hd : allDone P M.W = true) : ∀ s ∈ A, (∀ d ∈ s.deeds, d.op ≠ 2) → s.status = 4 → s.tri < 0 := fun s hs hn h4 => by
  by_cases h0 : 0 ≤ s.tri
  · obtain ⟨d, hd1, hd2⟩ := h.ci.fin s hs (h.al.ended hd s hs).1 h4 h0
    exact absurd hd2 (hn d hd1)
  · omega
end
end Go.Proofs.YtogphaiomlfofaaGreatDoor
