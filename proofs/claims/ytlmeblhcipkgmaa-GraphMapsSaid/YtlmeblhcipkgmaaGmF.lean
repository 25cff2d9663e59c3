/- What the program's graphs do: Map with a function that keeps what it is asked, and with one that answers names. Conditions: those of each theorem, as typed. -/
import Derived.Test.YtlmeblhcipkgmaaGrL
import Derived.Test.YtlmeblhcipkgmaaGrO
import Derived.Test.YtlmeblhcipkgmaaGx
import Derived.Test.YtlmeblhcipkgmaaLow
namespace Go.Proofs.Ytlmeblhcipkgmaa
open Go.RowKit Go.Maps
set_option linter.unusedVariables false
set_option linter.unusedSimpArgs false
attribute [local irreducible] wpL

/-- A graph, its nodes given other numbers by q: as nodes and edges come up. -/
def gMs (q : Int → Int) (g : List Int × List Tr) (e : Tr) : List Int × List Tr := (insI (q e.2.1) (insI (q e.1) g.1), insT (q e.1, q e.2.1, e.2.2) g.2)
def gM (q : Int → Int) (N : List Int) (E : List Tr) : List Int × List Tr := E.foldl (gMs q) (gN [] (N.map q), [])
theorem gM_snoc (q : Int → Int) (N : List Int) (E : List Tr) (e : Tr) : gM q N (E ++ [e]) = gMs q (gM q N E) e := by simp [gM]
theorem gM_ok (q : Int → Int) (N : List Int) (E : List Tr) : GrOk (gM q N E).1 (gM q N E).2 := by
  have h : ∀ (l : List Tr) (g : List Int × List Tr), GrOk g.1 g.2 → GrOk (l.foldl (gMs q) g).1 (l.foldl (gMs q) g).2 := by
    intro l
    induction l with
    | nil => exact fun g h => h
    | cons e l ih => exact fun g h => ih _ (h.edge _ _ _)
  exact h E _ (gN_ok _ GrOk.nil)
theorem gM_len (q : Int → Int) (N : List Int) (E : List Tr) : (gM q N E).1.length ≤ N.length + 2 * E.length ∧ (gM q N E).2.length ≤ E.length := by
  have h : ∀ (l : List Tr) (g : List Int × List Tr), (l.foldl (gMs q) g).1.length ≤ g.1.length + 2 * l.length ∧ (l.foldl (gMs q) g).2.length ≤ g.2.length + l.length := by
    intro l
    induction l with
    | nil => intro g; simp
    | cons e l ih =>
      intro g
      have h1 := ih (gMs q g e)
      have h2 := length_insI (n := q e.1) (l := g.1)
      have h3 := length_insI (n := q e.2.1) (l := insI (q e.1) g.1)
      have h4 := length_insT (p := (q e.1, q e.2.1, e.2.2)) (l := g.2)
      rw [List.foldl_cons, List.length_cons]
      unfold gMs at h1 ⊢
      constructor
      · have := h1.1; simp only at this; omega
      · have := h1.2; simp only at this; omega
  have h1 := h E (gN [] (N.map q), [])
  have h2 := gN_len [] (N.map q)
  rw [List.length_map] at h2
  simp only [List.length_nil] at h1 h2
  exact ⟨by have := h1.1; unfold gM; omega, by have := h1.2; unfold gM; omega⟩
theorem mapq_step {q : Int → Int} {N : List Int} {k : Nat} {x : Int} (h : N.take (k + 1) = N.take k ++ [x]) : (N.take (k + 1)).map q = (N.take k).map q ++ [q x] := by rw [h]; simp
theorem GrAt.from2 {w w' : World} {lo hi p : Nat} {N : List Int} {E : List Tr} (h : GrAt w lo hi p N E) (hs : ∀ k, lo ≤ k → k < hi → w'.heap[k]? = w.heap[k]?) : GrAt w' lo hi p N E := by
  obtain ⟨b, ow, M, A, h⟩ := h
  exact ⟨b, ow, M, A, { h with
    ptr := (hs p h.hp.1 h.hp.2).trans h.ptr
    out := h.out.obj (hs b h.hb.1 h.hb.2)
    inn := fun a u hu => let ⟨h1, h2, h3⟩ := h.inn a u hu; ⟨h1, h2.obj (hs u h1.1 h1.2.1), h3⟩
    leaf := fun a u c v hu hv => let ⟨h1, h2⟩ := h.leaf a u c v hu hv; ⟨h1, h2.obj (hs v h1.1 h1.2.1)⟩ }⟩
theorem Gx.GrAt.from2 {w w' : World} {lo hi p : Nat} {N : List Int} {E : List Tr} (h : Gx.GrAt w lo hi p N E) (hs : ∀ k, lo ≤ k → k < hi → w'.heap[k]? = w.heap[k]?) : Gx.GrAt w' lo hi p N E := by
  obtain ⟨b, ow, M, A, h⟩ := h
  exact ⟨b, ow, M, A, { h with
    ptr := (hs p h.hp.1 h.hp.2).trans h.ptr
    out := h.out.obj (hs b h.hb.1 h.hb.2)
    inn := fun a u hu => let ⟨h1, h2, h3⟩ := h.inn a u hu; ⟨h1, h2.obj (hs u h1.1 h1.2.1), h3⟩
    leaf := fun a u c v hu hv => let ⟨h1, h2⟩ := h.leaf a u c v hu hv; ⟨h1, h2.obj (hs v h1.1 h1.2.1)⟩ }⟩
/-- What has been asked, and the number to divide by, in their cells. -/
structure Ask (w : World) (qa qb B : Nat) (d : Int) (v : Value) (l : List Int) : Prop where
  own : OwnI w B v l
  ra : w.heap[qa]? = some (.cells #[v] 23 (0, 0))
  rb : w.heap[qb]? = some (.cells #[.int .i64 d] 3 (0, 0))
theorem Ask.keep {w w' : World} {qa qb B : Nat} {d : Int} {v : Value} {l : List Int} (h : Ask w qa qb B d v l) (hk : Keep w w') : Ask w' qa qb B d v l := ⟨h.own.keepC hk, hk.cells h.ra, hk.cells h.rb⟩
theorem tdiv_dom {x d : Int} (hx : dI x) (hd : 1 ≤ d ∧ d ≤ 8) : dI (x.tdiv d) ∧ wrap64 (x.tdiv d) = x.tdiv d := by
  have hx2 : -9223372036854775808 ≤ x ∧ x ≤ 9223372036854775807 := by
    have h := hx
    unfold dI Lit.wf at h
    simpa [IntKind.min, IntKind.max, IntKind.bits, IntKind.signed] using h
  have h : -9223372036854775808 ≤ x.tdiv d ∧ x.tdiv d ≤ 9223372036854775807 := by
    have h1 := Int.mul_tdiv_add_tmod x d
    rcases Int.le_total 0 x with h0 | h0
    · have h2 := Int.tmod_nonneg d h0
      have h3 : 0 ≤ x.tdiv d := Int.tdiv_nonneg h0 (by omega)
      have h4 : x.tdiv d ≤ d * x.tdiv d := by
        have := Int.mul_le_mul_of_nonneg_right (a := 1) (b := d) (c := x.tdiv d) (by omega) h3
        omega
      omega
    · have h5 := Int.mul_tdiv_add_tmod (-x) d
      have h2 := Int.tmod_nonneg d (show 0 ≤ -x by omega)
      have h3 : 0 ≤ (-x).tdiv d := Int.tdiv_nonneg (by omega) (by omega)
      have h4 : (-x).tdiv d ≤ d * (-x).tdiv d := by
        have := Int.mul_le_mul_of_nonneg_right (a := 1) (b := d) (c := (-x).tdiv d) (by omega) h3
        omega
      rw [Int.neg_tdiv] at h3 h4 h5
      omega
  exact ⟨by unfold dI Lit.wf; simpa [IntKind.min, IntKind.max, IntKind.bits, IntKind.signed] using h, IntWalk.wrap64_in _ h⟩
theorem gr_ask {w : World} {qa qb B : Nat} {d : Int} {v : Value} {l : List Int} (h : Ask w qa qb B d v l) (hB : B ≤ w.heap.size) (hqa : qa < B) (hqb : qb < B) (hl : l.length ≤ 100000) (hd : 1 ≤ d ∧ d ≤ 8) (x : Int) (hx : dI x) :
    Calls Try.prog 71 #[.int .i64 x, .pointer (some ⟨qa, 0, none⟩), .pointer (some ⟨qb, 0, none⟩)] w fun e w' => e = .returned (.int .i64 (x.tdiv d)) ∧ ∃ v' w1, OwnI w1 B v' (l ++ [x]) ∧ Grw w w1 v v' ∧ w' = w1.setCell ⟨qa, 0, none⟩ v' := by
  obtain ⟨a, c, rfl, hm⟩ := h.own.sl.ex
  have H := hid h
  have c0 : w.cell? ⟨qa, 0, none⟩ = some (.slice a l.length c) := row_cell h.ra 0
  have c1 : w.cell? ⟨qb, 0, none⟩ = some (.int .i64 d) := row_cell h.rb 0
  have hqa2 : qa < w.heap.size := by omega
  have hqb2 : qb < w.heap.size := by omega
  have hdw := (tdiv_dom hx hd).2
  have hd0 : d ≠ 0 := by omega
  clear h
  go_enter Try.func71, Try.ntmps71
  go_wp2_with (at_builtin; refine wpList_appF rfl _ _ _ rfl _ 8 Try.underlying23 infoI rfl H.out.own x hB (by rfl) (by rfl) (by first | rfl | simp) rfl (in_one _) (by first | omega | (simp only [List.length_append, List.length_cons, List.length_nil, List.length_replicate]; omega)) (by first | omega | (simp only [List.length_append, List.length_cons, List.length_nil, List.length_replicate]; omega)) ?_; refine Stop.halt ?_)
  refine Stop.go ?_
  intro gn cn wn hn Gn
  have O1 := hid hn
  have GW := hid Gn
  have hne : ∀ k, k < B → (Value.slice a l.length c).ownBlock ≠ some k := fun k hk e => by have := (H.out.own.lt k e).1; omega
  have r0 := row_grw H.out.ra Gn (hne qa hqa)
  have r1 := row_grw H.out.rb Gn (hne qb hqb)
  have f0 := row_free r0 0
  have e0 : wn.cell? ⟨qa, 0, none⟩ = some (.slice a l.length c) := row_cell r0 0
  have e1 : wn.cell? ⟨qb, 0, none⟩ = some (.int .i64 d) := row_cell r1 0
  have hab : qb ≠ qa := fun e => by
    subst e
    rw [r0] at r1
    simp at r1
  clear hn Gn c0 c1 r0 r1 hne
  go_wp2
  rw [hdw]
  go_ret
  exact ⟨rfl, _, _, O1.out, GW.out, rfl⟩
section
variable {w : World} {lo hi p : Nat} {N : List Int} {E : List Tr}
set_option maxRecDepth 100000 in
set_option maxHeartbeats 2000000 in
theorem gr_mapF {qa qb : Nat} {d : Int} (h : GrAt w lo hi p N E) (hhi : hi ≤ qa) (hN : N.length ≤ 30000) (hE : E.length ≤ 30000) (hqa : qa + 1 = w.heap.size) (hqb : qb < qa) (hd : 1 ≤ d ∧ d ≤ 8) (hA : Ask w qa qb w.heap.size d (.slice none 0 0) []) : Calls Try.prog 70 #[.pointer (some ⟨p, 0, none⟩), .func (.func 71) #[] #[.pointer (some ⟨qa, 0, none⟩), .pointer (some ⟨qb, 0, none⟩)]] w fun e w' =>
    ∃ p' v', e = .returned (.pointer (some ⟨p', 0, none⟩)) ∧ GrAt w' w.heap.size w'.heap.size p' (gM (fun x => x.tdiv d) N E).1 (gM (fun x => x.tdiv d) N E).2 ∧ Ask w' qa qb w.heap.size d v' N ∧ Below qa w w' := by
  have HG := hid h
  have HOK := hid h.ok
  have HDN := hid h.domN
  have HDE := hid h.domE
  have hmm := @run_makeMap Try.prog
  have K0 := hid hA
  have hqd : ∀ x, dI x → dI (x.tdiv d) := fun x hx => (tdiv_dom hx hd).1
  generalize hq : (fun x : Int => x.tdiv d) = q at *
  have HQ := hid hq
  have hqd2 : ∀ x, dI x → dI (q x) := fun x hx => by rw [← hq]; exact hqd x hx
  clear h hA hq hqd
  go_enter Try.func70, Try.ntmps70
  go_wp2_with fail
  have M0 := hid ((IsMapK.made w) : MapI _ _ [])
  have B0 := hid ((Below.refl qa w).alloc (by omega) (.map #[] 0))
  have K0' := hid (K0.out.keep (Keep.alloc w (.map #[] 0)))
  obtain ⟨w0, hw0⟩ : ∃ w0, w0 = w.alloc (.map #[] 0) := ⟨_, rfl⟩
  have z0 : w.heap.size + 1 ≤ w0.heap.size := by rw [hw0, World.size_alloc]; exact Nat.le_refl _
  rw [← hw0] at M0 B0 K0' ⊢
  clear hw0
  refine (gr_new w0).mono ?_
  rintro e w1 ⟨p1, rfl, g1, b1⟩
  have M1 := hid (M0.out.below b1 (by omega))
  have K1 := hid (K0'.out.keep (Keep.of_below b1))
  have B1 := hid (B0.out.trans (b1.mono (by omega)))
  have G1 := hid (g1.lower (lo' := w.heap.size + 1) z0)
  have z1 : w.heap.size + 1 ≤ w1.heap.size := Nat.le_trans z0 b1.size
  clear g1 b1 M0 B0 K0 K0'
  go_wp2_with fail
  refine (gr_nodes (HG.out.below B1.out hhi) (by omega)).mono ?_
  rintro e w2 ⟨v2, rfl, h2, b2⟩
  obtain ⟨a2, c2, rfl, hm2⟩ := h2.sl.ex
  generalize hnn : N.length = nn at *
  have HNN := hid hnn
  have A2 := hid (show OwnI w2 w1.heap.size (.slice a2 nn c2) N from h2)
  have K2 := hid (K1.out.keep (Keep.of_below b2))
  have M2 := hid (M1.out.below b2 (by omega))
  have B2 := hid (B1.out.trans (b2.mono (by omega)))
  have G2 := hid ((G1.out.below b2 (Nat.le_refl _)).raise (hi' := w2.heap.size) b2.size)
  have z2 : w.heap.size + 1 ≤ w2.heap.size := Nat.le_trans z1 b2.size
  clear h2 b2 M1 G1 B1 K1 hnn
  go_wp2_with fail
  go_loopw [16] (fun i wr => ∃ (k : Nat) (F : List (Int × Int)), k ≤ nn ∧ i = .int .i64 k ∧ MapI wr w.heap.size F ∧ KSrt F ∧ KDom dI F ∧ F.length ≤ k ∧ (∀ a ∈ N.take k, fnd a F = some (q a)) ∧ GrAt wr (w.heap.size + 1) wr.heap.size p1 (gN [] ((N.take k).map q)) [] ∧ (∃ va, Ask wr qa qb w.heap.size d va (N.take k) ∧ ∀ z, (Value.slice a2 nn c2).ownBlock = some z → va.ownBlock ≠ some z) ∧ OwnI wr w1.heap.size (.slice a2 nn c2) N ∧ Below qa w wr ∧ w.heap.size + 1 ≤ wr.heap.size) (fun i _ => nn - (intOf i).toNat)
  case atStart => exact ⟨0, [], by omega, by go_num, M2.out, List.Pairwise.nil, fun q hq => by simp at hq, by simp, fun a ha => by simp at ha, G2.out, ⟨_, K2.out, fun z _ e => by simp [Value.ownBlock] at e⟩, A2.out, B2.out, z2⟩
  case round =>
    obtain ⟨k, F, hk, rfl, hM, hFs, hFd, hFl, hFa, hG, ⟨va, hK, hNE⟩, hA, hB, hz⟩ := hrel
    have K3 := hid hK
    have NE3 := hid hNE
    have M3 := hid hM
    have HFS := hid hFs
    have HFD := hid hFd
    have HFA := hid hFa
    have G3 := hid hG
    have A3 := hid hA
    have B3 := hid hB
    clear hM hFs hFd hFa hG hA hB hK hNE M2 G2 A2 B2 K2
    by_cases hlt : k < nn
    · obtain ⟨b, x, rfl, hbB, hb, hx, c1⟩ := OwnI.at A3.out HNN.out hlt
      have hxd := HDN.out x (List.mem_of_getElem? hx)
      have HX := hid hx
      have HT := hid (take_step hx)
      clear hx
      go_wp2_with fail
      have htl : (N.take k).length ≤ 100000 := by rw [List.length_take]; omega
      refine (gr_ask K3.out (by omega) (by omega) (by omega) htl hd x hxd).mono ?_
      rintro e w3 ⟨rfl, va', w4, o4, g4, rfl⟩
      obtain ⟨W0, hW0⟩ : ∃ W0, W0 = w4.setCell ⟨qa, 0, none⟩ va' := ⟨_, rfl⟩
      have z34 : wr.heap.size ≤ w4.heap.size := g4.size
      have zW : W0.heap.size = w4.heap.size := by rw [hW0]; exact World.size_setCell ..
      have hsame : ∀ i, i ≠ qa → W0.heap[i]? = w4.heap[i]? := fun i hi => by rw [hW0]; exact Below.heap_setCell w4 ⟨qa, 0, none⟩ va' i hi
      have hnq : ∀ i, i < w.heap.size → va.ownBlock ≠ some i := fun i hi e => by have := (K3.out.own.lt i e).1; omega
      have K4 := hid (show Ask W0 qa qb w.heap.size d va' (N.take k ++ [x]) from ⟨by rw [hW0]; exact OwnF.other o4 (fun e => by have := (o4.lt qa e).1; omega) _, by rw [hW0]; exact row_set (row_grw K3.out.ra g4 (hnq qa (by omega))) 0 va', by rw [hsame qb (by omega)]; exact row_grw K3.out.rb g4 (hnq qb (by omega))⟩)
      have M4 := hid ((M3.out.grw K3.out.own g4).obj (hsame w.heap.size (by omega)))
      have G4 := hid (((G3.out.grow g4.grown (fun i hi => by
        obtain ⟨cs, hcs⟩ := K3.out.own.keepObj i hi
        refine ⟨fun e => ?_, _, hcs, fun _ _ e => by cases e⟩
        subst e
        obtain ⟨_, _, _, _, hg⟩ := G3.out
        rw [hg.ptr] at hcs
        simp only [Option.some.injEq, Obj.cells.injEq] at hcs
        exact absurd hcs.2.1 (by decide))).from2 (w' := W0) (fun i h1 h2 => hsame i (by omega))).raise (hi' := W0.heap.size) (by omega))
      have A4 := hid (show OwnI W0 w1.heap.size _ N by rw [hW0]; exact OwnF.other (OwnF.grw A3.out g4 NE3.out) (fun e => by have := (A3.out.lt _ e).1; omega) _)
      have NE4 := hid (fun z (hz' : (Value.slice (some ⟨b, 0, none⟩) nn c2).ownBlock = some z) => (fun e => by
        rcases g4.own z e with e2 | e2
        · exact NE3.out z hz' e2
        · have := (A3.out.lt z hz').2; omega : va'.ownBlock ≠ some z))
      have B4 := hid (show Below qa w W0 by rw [hW0]; exact (B3.out.trans (g4.below (by omega) fun i e => by have := (K3.out.own.lt i e).1; omega)).setCell (p := ⟨qa, 0, none⟩) (Nat.le_refl _) va')
      have z4 : w.heap.size + 1 ≤ W0.heap.size := by omega
      rw [show x.tdiv d = q x by rw [← HQ.out], ← hW0]
      clear o4 g4 hW0 hsame hnq K3 M3 G3 A3 NE3 B3 z34 zW c1
      go_wp2_with (at_mapUpdate; refine Stop.halt ?_)
      refine Stop.go ?_
      refine M4.out.wpList_store keyI elem_int HFD.out HFS.out Try.underlying117 (v := q x) (by unfold maxLen; omega) hxd rfl rfl (by rfl) (by rfl) (by rfl) ?_
      intro w5 h5 t5
      have M5 := hid h5.tight
      have HFS5 := hid (srt_upd (a := x) (v := q x) HFS.out)
      have HFD5 := hid (fun u (hu : u ∈ upd x (q x) F) => by
        rcases (mem_upd HFS.out).1 hu with e | ⟨hu, -⟩
        · rw [e]; exact hxd
        · exact HFD.out u hu : KDom dI (upd x (q x) F))
      have hFl5 : (upd x (q x) F).length ≤ k + 1 := Nat.le_trans length_upd_le (by omega)
      have HFX := hid (fnd_upd_same (a := x) (v := q x) HFS.out)
      have HFA5 := hid (fun a (ha : a ∈ N.take (k + 1)) => by
        by_cases e : a = x
        · rw [e]; exact HFX.out
        · rw [fnd_upd_other HFS.out e]
          rcases (mem_take_step HX.out).1 ha with h | h
          · exact HFA.out a h
          · exact absurd h e : ∀ a ∈ N.take (k + 1), fnd a (upd x (q x) F) = some (q a))
      have lk := lookI M5.out HFD5.out hxd
      rw [HFX.out] at lk
      simp only [Option.getD_some] at lk
      have k5 := Keep.turned t5
      have z5 : w.heap.size + 1 ≤ w5.heap.size := Nat.le_trans z4 k5.size
      have G5 := hid ((G4.out.from2 (w' := w5) (fun i h1 h2 => turned_other t5 (by omega))).raise k5.size)
      have A5 := hid (A4.out.keepC k5)
      have K5 := hid (K4.out.keep k5)
      have B5 := hid (B4.out.trans (Below.turned t5 (by omega)))
      have hNl : (gN [] ((N.take k).map q)).length ≤ 100000 := by
        have h1 := gN_len [] ((N.take k).map q)
        have h2 : ((N.take k).map q).length ≤ nn := by rw [List.length_map, List.length_take, HNN.out]; omega
        simp only [List.length_nil] at h1
        omega
      have HGN := hid (gN_snoc [] ((N.take k).map q) (q x))
      have hqx := hqd2 x hxd
      clear h5 t5 k5 M4 G4 A4 B4 K4
      go_wp2_with fail
      refine (gr_node G5.out (Nat.le_refl _) (by omega) (q x) hqx).mono ?_
      rintro e w6 ⟨rfl, g6, k6, b6⟩
      have M6 := hid (M5.out.below b6 (by omega))
      have A6 := hid (A5.out.keepC k6)
      have K6 := hid (K5.out.keep k6)
      have B6 := hid (B5.out.trans (b6.mono (by omega)))
      have z6 : w.heap.size + 1 ≤ w6.heap.size := Nat.le_trans z5 k6.size
      have G6 := hid g6
      clear g6 k6 b6 lk M5 A5 B5 G5 K5
      go_wp2_with fail
      go_roundw
      case rel => exact ⟨k + 1, upd x (q x) F, by omega, by go_num, M6.out, HFS5.out, HFD5.out, hFl5, HFA5.out, by rw [mapq_step HT.out, HGN.out]; exact G6.out, ⟨va', by rw [HT.out]; exact K6.out, NE4.out⟩, A6.out, B6.out, z6⟩
      case measure => simp [intOf]; omega
    · obtain rfl : k = nn := by omega
      have HTN := hid (show N.take k = N by rw [← HNN.out, List.take_length])
      rw [HTN.out] at HFA K3 G3
      clear A3 NE3
      go_wp2_with fail
      refine (gr_edges (HG.out.below B3.out hhi) (by omega) (by rw [HNN.out]; omega) (by omega)).mono ?_
      rintro e w6 ⟨v6, rfl, h6, b6⟩
      obtain ⟨a6, c6, rfl, hm6⟩ := h6.sl.ex
      generalize hen : E.length = en at *
      have HEN := hid hen
      have A6 := hid (show Sl w6 w6.heap.size 3 (.slice a6 en c6) en (E.flatMap trC) by have := h6.sl; rw [hen] at this; exact this)
      have M6 := hid (M3.out.below b6 (by omega))
      have K6 := hid (K3.out.keep (Keep.of_below b6))
      have G6 := hid ((G3.out.below b6 (Nat.le_refl _)).raise (hi' := w6.heap.size) b6.size)
      have B6 := hid (B3.out.trans (b6.mono (by omega)))
      have z6 : w.heap.size + 1 ≤ w6.heap.size := Nat.le_trans hz b6.size
      clear h6 b6 M3 G3 B3 K3 hen
      have G6 := hid (show GrAt w6 _ _ p1 (gM q N (E.take 0)).1 (gM q N (E.take 0)).2 from G6.out)
      go_wp2_with fail
      go_loopw [34] (fun i wr => ∃ j : Nat, j ≤ en ∧ i = .int .i64 j ∧ MapI wr w.heap.size F ∧ GrAt wr (w.heap.size + 1) wr.heap.size p1 (gM q N (E.take j)).1 (gM q N (E.take j)).2 ∧ Ask wr qa qb w.heap.size d va N ∧ Sl wr wr.heap.size 3 (.slice a6 en c6) en (E.flatMap trC) ∧ Below qa w wr ∧ w.heap.size + 1 ≤ wr.heap.size) (fun i _ => en - (intOf i).toNat)
      case atStart => exact ⟨0, by omega, by go_num, M6.out, G6.out, K6.out, A6.out, B6.out, z6⟩
      case round =>
        obtain ⟨j, hj, rfl, hM, hG, hK, hA, hB, hz⟩ := hrel
        have K7 := hid hK
        have M7 := hid hM
        have G7 := hid hG
        have A7 := hid hA
        have B7 := hid hB
        clear hM hG hA hB hK M6 G6 A6 B6 K6 z6
        by_cases hje : j < en
        · obtain ⟨b, off, x, rfl, hb, hx, c1, c2, c3⟩ := A7.out.trs hje HEN.out
          have hxE := List.mem_of_getElem? hx
          have hx1 := (HOK.out.sub x hxE).1
          have hx2 := (HOK.out.sub x hxE).2
          have hd1 := HDN.out _ hx1
          have hd2 := HDN.out _ hx2
          have hd3 := HDE.out x hxE
          have HT := hid (take_step hx)
          have HGT := hid (gM_snoc q N (E.take j) x)
          have hGl := gM_len q N (E.take j)
          rw [List.length_take, HEN.out, HNN.out] at hGl
          have hG1 : (gM q N (E.take j)).1.length ≤ 900000 := by omega
          have hG2 : (gM q N (E.take j)).2.length ≤ 900000 := by omega
          clear hGl
          have hq1 := hqd2 _ hd1
          have hq2 := hqd2 _ hd2
          have lk1 := lookI (M7.out.alloc (.cells #[.int .i64 x.1, .int .i64 x.2.1, .int .i64 x.2.2] 96)) HFD.out hd1
          have lk2 := lookI (M7.out.alloc (.cells #[.int .i64 x.1, .int .i64 x.2.1, .int .i64 x.2.2] 96)) HFD.out hd2
          rw [HFA.out _ hx1] at lk1
          rw [HFA.out _ hx2] at lk2
          simp only [Option.getD_some] at lk1 lk2
          have HX12 := hid hx1
          clear hx hxE hx1 hx2
          go_wp2_with fail
          have ba := (Below.refl wr.heap.size wr).alloc (Nat.le_refl _) (.cells #[.int .i64 x.1, .int .i64 x.2.1, .int .i64 x.2.2] 96)
          have G8 := hid ((G7.out.below ba (Nat.le_refl _)).raise ba.size)
          have A8 := hid (Sl.up A7.out (Keep.of_below ba))
          have M8 := hid (M7.out.below ba (by omega))
          have K8 := hid (K7.out.keep (Keep.of_below ba))
          have B8 := hid (B7.out.trans (ba.mono (by omega)))
          have z8 : w.heap.size + 1 ≤ (wr.alloc (.cells #[.int .i64 x.1, .int .i64 x.2.1, .int .i64 x.2.2] 96)).heap.size := Nat.le_trans hz ba.size
          clear ba lk1 lk2 c1 c2 c3 M7 G7 A7 B7 K7
          refine (gr_edge G8.out (Nat.le_refl _) hG1 hG2 (q x.1) (q x.2.1) x.2.2 hq1 hq2 hd3).mono ?_
          rintro e w9 ⟨rfl, g9, k9, b9⟩
          have M9 := hid (M8.out.below b9 (by omega))
          have A9 := hid (Sl.up A8.out k9)
          have K9 := hid (K8.out.keep k9)
          have B9 := hid (B8.out.trans (b9.mono (by omega)))
          have z9 : w.heap.size + 1 ≤ w9.heap.size := Nat.le_trans z8 k9.size
          have G9 := hid g9
          clear g9 k9 b9 M8 A8 B8 G8 K8 z8
          go_wp2_with fail
          go_roundw
          case rel => exact ⟨j + 1, by omega, by go_num, M9.out, by rw [HT.out, HGT.out]; exact G9.out, K9.out, A9.out, B9.out, z9⟩
          case measure => simp [intOf]; omega
        · obtain rfl : j = en := by omega
          have HTE := hid (show E.take j = E by rw [← HEN.out, List.take_length])
          rw [HTE.out] at G7
          go_wp2
          go_ret
          exact ⟨p1, va, rfl, G7.out.lower (by omega), K7.out, B7.out⟩
end
/-- The letter of a number, as a name. -/
def letter (x : Int) : Int := x % 8 - 8
theorem letter_dom (x : Int) : dS (letter x) := by unfold dS letter; omega
def Rstr : RdU
  | .string b => some (.lit (.string b.data.toList), [])
  | _ => none
theorem elem_str : ElemT Rstr (fun x : Int => nmV x) (fun x => .lit (nmL x)) (.string ⟨#[]⟩) (.lit (.string [])) where
  of x := ⟨[], by simp [Rstr, nmV, nmB, nmL]⟩
  zero := ⟨[], rfl⟩
  inv v x ps h := by
    unfold Rstr at h
    split at h
    · rename_i b
      simp only [nmL, Option.some.injEq, Prod.mk.injEq, DataW.lit.injEq, Lit.string.injEq] at h
      obtain ⟨h, -⟩ := h
      unfold nmV nmB
      rw [← h]
    · cases h
  invz v ps h := by
    unfold Rstr at h
    split at h
    · rename_i b
      simp only [Option.some.injEq, Prod.mk.injEq, DataW.lit.injEq, Lit.string.injEq] at h
      obtain ⟨h, -⟩ := h
      have hb : b.data = #[] := by rw [← Array.toList_eq_nil_iff]; exact h
      cases b
      simp only at hb
      rw [hb]
    · cases h
abbrev MapS (w : World) (b : Nat) (M : List (Int × Int)) : Prop := IsMapK Try.prog 3 Rstr (.int .i64) (fun n : Int => .lit (nmL n)) w b M.length M
theorem zeroS (w : World) : (zeroValue 9).run Try.prog w = .ok (.string ⟨#[]⟩) w := by kernel_rfl
theorem lookS {w : World} {f : Nat} {F : List (Int × Int)} (h : MapS w f F) (hd : KDom dI F) {a b : Int} (ha : dI a) (hb : fnd a F = some b) : (Instr.lookup 130 (.map (some f)) (.int .i64 a) false).run Try.prog w = .ok (nmV b) w := by
  have := h.look keyI elem_str hd Try.underlying130 (zeroS w) ha
  rw [this, hb]
theorem gr_letter (x : Int) (w : World) : Calls Try.prog 73 #[.int .i64 x] w fun e w' => e = .returned (nmV (letter x)) ∧ w = w' := by
  have h7 := and7 x
  obtain ⟨r, hr⟩ : ∃ r, r = x % 8 := ⟨_, rfl⟩
  have hl : letter x = r - 8 := by unfold letter; rw [hr]
  rw [← hr] at h7
  rw [hl]
  have h8 : r = 0 ∨ r = 1 ∨ r = 2 ∨ r = 3 ∨ r = 4 ∨ r = 5 ∨ r = 6 ∨ r = 7 := by omega
  clear hr hl
  rcases h8 with rfl | rfl | rfl | rfl | rfl | rfl | rfl | rfl <;>
  · go_enter Try.func73, Try.ntmps73
    go_wp2
    go_ret
    exact ⟨rfl, rfl⟩
section
variable {w : World} {lo hi p : Nat} {N : List Int} {E : List Tr}
set_option maxRecDepth 100000 in
set_option maxHeartbeats 2000000 in
theorem gr_mapS (h : GrAt w lo hi p N E) (hhi : hi ≤ w.heap.size) (hN : N.length ≤ 30000) (hE : E.length ≤ 30000) : Calls Try.prog 72 #[.pointer (some ⟨p, 0, none⟩), .func (.func 73) #[] #[]] w fun e w' =>
    ∃ p', e = .returned (.pointer (some ⟨p', 0, none⟩)) ∧ Gx.GrAt w' w.heap.size w'.heap.size p' (gM letter N E).1 (gM letter N E).2 ∧ Below w.heap.size w w' := by
  have HG := hid h
  have HOK := hid h.ok
  have HDN := hid h.domN
  have HDE := hid h.domE
  have hmm := @run_makeMap Try.prog
  clear h
  go_enter Try.func72, Try.ntmps72
  go_wp2_with fail
  have M0 := hid ((IsMapK.made w) : MapS _ _ [])
  have B0 := hid ((Below.refl w.heap.size w).alloc (Nat.le_refl _) (.map #[] 0))
  obtain ⟨w0, hw0⟩ : ∃ w0, w0 = w.alloc (.map #[] 0) := ⟨_, rfl⟩
  have z0 : w.heap.size + 1 ≤ w0.heap.size := by rw [hw0, World.size_alloc]; exact Nat.le_refl _
  rw [← hw0] at M0 B0 ⊢
  clear hw0
  refine (Gx.gr_new w0).mono ?_
  rintro e w1 ⟨p1, rfl, g1, b1⟩
  have M1 := hid (M0.out.below b1 (by omega))
  have B1 := hid (B0.out.trans (b1.mono (by omega)))
  have G1 := hid (g1.lower (lo' := w.heap.size + 1) z0)
  have z1 : w.heap.size + 1 ≤ w1.heap.size := Nat.le_trans z0 b1.size
  clear g1 b1 M0 B0
  go_wp2_with fail
  refine (gr_nodes (HG.out.below B1.out hhi) (by omega)).mono ?_
  rintro e w2 ⟨v2, rfl, h2, b2⟩
  obtain ⟨a2, c2, rfl, hm2⟩ := h2.sl.ex
  generalize hnn : N.length = nn at *
  have HNN := hid hnn
  have A2 := hid (show Sl w2 w2.heap.size 1 (.slice a2 nn c2) nn (N.flatMap intC) by have := h2.sl; rw [hnn] at this; exact this)
  have M2 := hid (M1.out.below b2 (by omega))
  have B2 := hid (B1.out.trans (b2.mono (by omega)))
  have G2 := hid ((G1.out.below b2 (Nat.le_refl _)).raise (hi' := w2.heap.size) b2.size)
  have z2 : w.heap.size + 1 ≤ w2.heap.size := Nat.le_trans z1 b2.size
  clear h2 b2 M1 G1 B1 hnn
  go_wp2_with fail
  go_loopw [16] (fun i wr => ∃ (k : Nat) (F : List (Int × Int)), k ≤ nn ∧ i = .int .i64 k ∧ MapS wr w.heap.size F ∧ KSrt F ∧ KDom dI F ∧ F.length ≤ k ∧ (∀ a ∈ N.take k, fnd a F = some (letter a)) ∧ Gx.GrAt wr (w.heap.size + 1) wr.heap.size p1 (gN [] ((N.take k).map letter)) [] ∧ Sl wr wr.heap.size 1 (.slice a2 nn c2) nn (N.flatMap intC) ∧ Below w.heap.size w wr ∧ w.heap.size + 1 ≤ wr.heap.size) (fun i _ => nn - (intOf i).toNat)
  case atStart => exact ⟨0, [], by omega, by go_num, M2.out, List.Pairwise.nil, fun q hq => by simp at hq, by simp, fun a ha => by simp at ha, G2.out, A2.out, B2.out, z2⟩
  case round =>
    obtain ⟨k, F, hk, rfl, hM, hFs, hFd, hFl, hFa, hG, hA, hB, hz⟩ := hrel
    have M3 := hid hM
    have HFS := hid hFs
    have HFD := hid hFd
    have HFA := hid hFa
    have G3 := hid hG
    have A3 := hid hA
    have B3 := hid hB
    clear hM hFs hFd hFa hG hA hB M2 G2 A2 B2
    by_cases hlt : k < nn
    · obtain ⟨b, off, x, rfl, hb, hx, c1⟩ := A3.out.ints hlt HNN.out
      have hxd := HDN.out x (List.mem_of_getElem? hx)
      have HX := hid hx
      have HT := hid (take_step hx)
      clear hx
      go_wp2_with fail
      refine (gr_letter x wr).mono ?_
      rintro e w3 ⟨rfl, rfl⟩
      go_wp2_with (at_mapUpdate; refine Stop.halt ?_)
      refine Stop.go ?_
      refine M3.out.wpList_store keyI elem_str HFD.out HFS.out Try.underlying130 (v := letter x) (by unfold maxLen; omega) hxd rfl rfl (by rfl) (by rfl) (by rfl) ?_
      intro w5 h5 t5
      have M5 := hid h5.tight
      have HFS5 := hid (srt_upd (a := x) (v := letter x) HFS.out)
      have HFD5 := hid (fun q (hq : q ∈ upd x (letter x) F) => by
        rcases (mem_upd HFS.out).1 hq with e | ⟨hq, -⟩
        · rw [e]; exact hxd
        · exact HFD.out q hq : KDom dI (upd x (letter x) F))
      have hFl5 : (upd x (letter x) F).length ≤ k + 1 := Nat.le_trans length_upd_le (by omega)
      have HFX := hid (fnd_upd_same (a := x) (v := letter x) HFS.out)
      have HFA5 := hid (fun a (ha : a ∈ N.take (k + 1)) => by
        by_cases e : a = x
        · rw [e]; exact HFX.out
        · rw [fnd_upd_other HFS.out e]
          rcases (mem_take_step HX.out).1 ha with h | h
          · exact HFA.out a h
          · exact absurd h e : ∀ a ∈ N.take (k + 1), fnd a (upd x (letter x) F) = some (letter a))
      have lk := lookS M5.out HFD5.out hxd HFX.out
      have k5 := Keep.turned t5
      have z5 : w.heap.size + 1 ≤ w5.heap.size := Nat.le_trans hz k5.size
      have G5 := hid ((Gx.GrAt.from2 G3.out (w' := w5) (fun q h1 h2 => turned_other t5 (by omega))).raise k5.size)
      have A5 := hid (Sl.up A3.out k5)
      have B5 := hid (B3.out.trans (Below.turned t5 (Nat.le_refl _)))
      have hNl : (gN [] ((N.take k).map letter)).length ≤ 100000 := by
        have h1 := gN_len [] ((N.take k).map letter)
        have h2 : ((N.take k).map letter).length ≤ nn := by rw [List.length_map, List.length_take, HNN.out]; omega
        simp only [List.length_nil] at h1
        omega
      have HGN := hid (gN_snoc [] ((N.take k).map letter) (letter x))
      have hqx := letter_dom x
      clear h5 t5 k5 c1 M3 G3 A3 B3
      go_wp2_with fail
      refine (Gx.gr_node G5.out (Nat.le_refl _) (by omega) (letter x) hqx).mono ?_
      rintro e w6 ⟨rfl, g6, k6, b6⟩
      have M6 := hid (M5.out.below b6 (by omega))
      have A6 := hid (Sl.up A5.out k6)
      have B6 := hid (B5.out.trans (b6.mono (by omega)))
      have z6 : w.heap.size + 1 ≤ w6.heap.size := Nat.le_trans z5 k6.size
      have G6 := hid g6
      clear g6 k6 b6 lk M5 A5 B5 G5
      go_wp2_with fail
      go_roundw
      case rel => exact ⟨k + 1, upd x (letter x) F, by omega, by go_num, M6.out, HFS5.out, HFD5.out, hFl5, HFA5.out, by rw [mapq_step HT.out, HGN.out]; exact G6.out, A6.out, B6.out, z6⟩
      case measure => simp [intOf]; omega
    · obtain rfl : k = nn := by omega
      have HTN := hid (show N.take k = N by rw [← HNN.out, List.take_length])
      rw [HTN.out] at HFA G3
      clear A3
      go_wp2_with fail
      refine (gr_edges (HG.out.below B3.out hhi) (by omega) (by rw [HNN.out]; omega) (by omega)).mono ?_
      rintro e w6 ⟨v6, rfl, h6, b6⟩
      obtain ⟨a6, c6, rfl, hm6⟩ := h6.sl.ex
      generalize hen : E.length = en at *
      have HEN := hid hen
      have A6 := hid (show Sl w6 w6.heap.size 3 (.slice a6 en c6) en (E.flatMap trC) by have := h6.sl; rw [hen] at this; exact this)
      have M6 := hid (M3.out.below b6 (by omega))
      have G6 := hid ((G3.out.below b6 (Nat.le_refl _)).raise (hi' := w6.heap.size) b6.size)
      have B6 := hid (B3.out.trans (b6.mono (by omega)))
      have z6 : w.heap.size + 1 ≤ w6.heap.size := Nat.le_trans hz b6.size
      clear h6 b6 M3 G3 B3 hen
      have G6 := hid (show Gx.GrAt w6 _ _ p1 (gM letter N (E.take 0)).1 (gM letter N (E.take 0)).2 from G6.out)
      go_wp2_with fail
      go_loopw [34] (fun i wr => ∃ j : Nat, j ≤ en ∧ i = .int .i64 j ∧ MapS wr w.heap.size F ∧ Gx.GrAt wr (w.heap.size + 1) wr.heap.size p1 (gM letter N (E.take j)).1 (gM letter N (E.take j)).2 ∧ Sl wr wr.heap.size 3 (.slice a6 en c6) en (E.flatMap trC) ∧ Below w.heap.size w wr ∧ w.heap.size + 1 ≤ wr.heap.size) (fun i _ => en - (intOf i).toNat)
      case atStart => exact ⟨0, by omega, by go_num, M6.out, G6.out, A6.out, B6.out, z6⟩
      case round =>
        obtain ⟨j, hj, rfl, hM, hG, hA, hB, hz⟩ := hrel
        have M7 := hid hM
        have G7 := hid hG
        have A7 := hid hA
        have B7 := hid hB
        clear hM hG hA hB M6 G6 A6 B6 z6
        by_cases hje : j < en
        · obtain ⟨b, off, x, rfl, hb, hx, c1, c2, c3⟩ := A7.out.trs hje HEN.out
          have hxE := List.mem_of_getElem? hx
          have hx1 := (HOK.out.sub x hxE).1
          have hx2 := (HOK.out.sub x hxE).2
          have hd1 := HDN.out _ hx1
          have hd2 := HDN.out _ hx2
          have hd3 := HDE.out x hxE
          have HT := hid (take_step hx)
          have HGT := hid (gM_snoc letter N (E.take j) x)
          have hGl := gM_len letter N (E.take j)
          rw [List.length_take, HEN.out, HNN.out] at hGl
          have hG1 : (gM letter N (E.take j)).1.length ≤ 900000 := by omega
          have hG2 : (gM letter N (E.take j)).2.length ≤ 900000 := by omega
          clear hGl
          have lk1 := lookS (M7.out.alloc (.cells #[.int .i64 x.1, .int .i64 x.2.1, .int .i64 x.2.2] 96)) HFD.out hd1 (HFA.out _ hx1)
          have lk2 := lookS (M7.out.alloc (.cells #[.int .i64 x.1, .int .i64 x.2.1, .int .i64 x.2.2] 96)) HFD.out hd2 (HFA.out _ hx2)
          have HX12 := hid hx1
          clear hx hxE hx1 hx2
          go_wp2_with fail
          have ba := (Below.refl wr.heap.size wr).alloc (Nat.le_refl _) (.cells #[.int .i64 x.1, .int .i64 x.2.1, .int .i64 x.2.2] 96)
          have G8 := hid ((G7.out.below ba (Nat.le_refl _)).raise ba.size)
          have A8 := hid (Sl.up A7.out (Keep.of_below ba))
          have M8 := hid (M7.out.below ba (by omega))
          have B8 := hid (B7.out.trans (ba.mono (by omega)))
          have z8 : w.heap.size + 1 ≤ (wr.alloc (.cells #[.int .i64 x.1, .int .i64 x.2.1, .int .i64 x.2.2] 96)).heap.size := Nat.le_trans hz ba.size
          clear ba lk1 lk2 c1 c2 c3 M7 G7 A7 B7
          refine (Gx.gr_edge G8.out (Nat.le_refl _) hG1 hG2 (letter x.1) (letter x.2.1) x.2.2 (letter_dom _) (letter_dom _) hd3).mono ?_
          rintro e w9 ⟨rfl, g9, k9, b9⟩
          have M9 := hid (M8.out.below b9 (by omega))
          have A9 := hid (Sl.up A8.out k9)
          have B9 := hid (B8.out.trans (b9.mono (by omega)))
          have z9 : w.heap.size + 1 ≤ w9.heap.size := Nat.le_trans z8 k9.size
          have G9 := hid g9
          clear g9 k9 b9 M8 A8 B8 G8 z8
          go_wp2_with fail
          go_roundw
          case rel => exact ⟨j + 1, by omega, by go_num, M9.out, by rw [HT.out, HGT.out]; exact G9.out, A9.out, B9.out, z9⟩
          case measure => simp [intOf]; omega
        · obtain rfl : j = en := by omega
          have HTE := hid (show E.take j = E by rw [← HEN.out, List.take_length])
          rw [HTE.out] at G7
          go_wp2
          go_ret
          exact ⟨p1, rfl, G7.out.lower (by omega), B7.out⟩
end
end Go.Proofs.Ytlmeblhcipkgmaa
