/- The law that writes over what a graph has told. Conditions: those of each theorem, as typed. -/
import Derived.Test.YtlmeblhcipkgmaaEither
import Derived.Test.YtlmeblhcipkgmaaGsT
import Derived.Test.YtlmeblhcipkgmaaGsS
import Derived.ArgAppend
import Derived.Test.YtlmeblhcipkgmaaGmI
import Derived.Test.YtlmeblhcipkgmaaGrR
namespace Go.Proofs.Ytlmeblhcipkgmaa
open Go.RowKit Go.Maps
set_option linter.unusedVariables false
set_option linter.unusedSimpArgs false
attribute [local irreducible] wpL

/-- append(s, y), s full: a new block; what lay there stays. -/
theorem wpList_appC {ops : Array Oper} {rest : List Oper} {o : Oper} {a : Act} {Q : Exit → Act → World → Prop} (hgd : o.guard = none) (s x : Operand)
    (ho : o.op = .call { callee := .builtin .append, args := #[s, x], argTypes := #[23, 23] }) {w0 : World} {B g n : Nat} (hown : SomeC w0 B n (.slice (some ⟨g, 0, none⟩) n n)) (y : Int)
    (hs : a.eval s = .slice (some ⟨g, 0, none⟩) n n) {g0 : Nat} (hx : a.eval x = .slice (some ⟨g0, 0, none⟩) 1 1) (hg0 : g0 = w0.heap.size)
    (hK : ∀ gn cn w', Below w0.heap.size w0 w' → wpList Try.prog ops Q rest (a.put o.dst (.slice (some ⟨gn, 0, none⟩) (n + 1) cn)) w') :
    wpList Try.prog ops Q (o :: rest) a (w0.alloc (.cells (intC y).toArray 3)) := by
  subst hg0
  obtain ⟨l, hl, hc⟩ := hown
  obtain ⟨g', e, hlt, hn9, hcell⟩ := hc.one'
  simp only [Value.slice.injEq, Option.some.injEq, Addr.mk.injEq, and_true] at e
  obtain ⟨rfl, -⟩ := e
  obtain ⟨i0, hi, hz0, hz1, hz2⟩ := info_parts infoI
  have hadd : ∀ (b j : Nat), ((⟨b, 0, none⟩ : Addr).add j) = ⟨b, j, none⟩ := fun b j => by unfold Addr.add; split <;> simp_all
  refine wpList_append_grows (w0.alloc (.cells (intC y).toArray 3)) hgd s x 23 ho 3 i0 (.int .i64 0) 1 8 Try.underlying23 hi hz0 hz1 hz2 rfl (by decide) (some ⟨g, 0, none⟩) n n (l.map (Value.int .i64)) hs (by simp) (by simpa using hl) (fun b hb j u hu => ?_)
    ⟨w0.heap.size, 0, none⟩ 1 1 (intC y) hx rfl (fun j u hu => ?_) (in_one y) (by omega) (by unfold maxLen; omega) (by omega) (fun v' w' h1 h2 => ?_)
  · obtain rfl := Option.some.inj hb
    rw [hadd, cell_old w0 _ _ _ hlt]
    rw [List.getElem?_map] at hu
    cases hj : l[j]? with
    | none => rw [hj] at hu; cases hu
    | some z => rw [hj] at hu; rw [hcell j z hj]; simpa using hu
  · rw [hadd, cell_new]
    simpa using hu
  · obtain ⟨-, h1⟩ := h1
    rcases h1 with ⟨-, h1⟩ | ⟨gn, cn, cur, rfl, -⟩
    · omega
    refine hK gn cn w' ?_
    have ha := (Below.refl w0.heap.size w0).alloc (Nat.le_refl _) (.cells (intC y).toArray 3)
    refine ha.trans ?_
    exact ⟨h2.os, h2.tape, h2.output, by have := h2.size; exact this, fun k hk => h2.block k (by simp; omega) (by simp)⟩

/-- A list of lists; those from j on are these, and lie here. -/
structure Prt (w : World) (B g cap : Nat) (Q : List (List Int)) (j : Nat) (vs : List Value) : Prop where
  own : OwnV w B (.slice (some ⟨g, 0, none⟩) Q.length cap) vs
  len : vs.length = Q.length
  at' : ∀ (i : Nat) (u : Value) (l : List Int), j ≤ i → vs[i]? = some u → Q[i]? = some l → OwnC w B u l
def PrtE (w : World) (B : Nat) (v : Value) (Q : List (List Int)) (j : Nat) : Prop := ∃ vs, vs.length = Q.length ∧ OwnV w B v vs ∧ ∀ (i : Nat) (u : Value) (l : List Int), j ≤ i → vs[i]? = some u → Q[i]? = some l → OwnC w B u l
theorem PrtE.of {w : World} {B : Nat} {v : Value} {vs : List Value} {Q : List (List Int)} (h : OwnV w B v vs) (hl : Lists w B vs Q) : PrtE w B v Q 0 := ⟨vs, hl.1, h, fun i u l _ hu hq => hl.2 i u l hu hq⟩
theorem PrtE.base {w : World} {B B' : Nat} {v : Value} {Q : List (List Int)} {j : Nat} (h : PrtE w B v Q j) (hB : B' ≤ B) : PrtE w B' v Q j := let ⟨vs, h1, h2, h3⟩ := h; ⟨vs, h1, OwnF.base h2 hB, fun i u l hi hu hl => (h3 i u l hi hu hl).base hB⟩
theorem PrtE.at {w : World} {B n c j : Nat} {a : Option Addr} {Q : List (List Int)} (h : PrtE w B (.slice a n c) Q j) (hn : Q.length = n) (hj : j < n) :
    ∃ g gu m q vs, a = some ⟨g, 0, none⟩ ∧ w.cell? ⟨g, j, none⟩ = some (.slice (some ⟨gu, 0, none⟩) m m) ∧ w.frozen? ⟨g, j, none⟩ = false ∧ m ≤ 1000000 ∧ OwnC w B (.slice (some ⟨gu, 0, none⟩) m m) q ∧ q.length = m ∧
      Q[j]? = some q ∧ vs[j]? = some (.slice (some ⟨gu, 0, none⟩) m m) ∧ Prt w B g c Q j vs := by
  subst hn
  obtain ⟨vs, h1, h2, h3⟩ := h
  have hq : Q[j]? = some Q[j] := List.getElem?_eq_getElem hj
  have hu : vs[j]? = some vs[j] := List.getElem?_eq_getElem (by omega)
  have hc := h3 j _ _ (Nat.le_refl _) hu hq
  obtain ⟨g, rfl, hg, hcell⟩ := OwnV.val h2 h1 hu
  obtain ⟨gu, e, -, hm, -⟩ := hc.one'
  rw [e] at hc hu hcell
  exact ⟨g, gu, _, _, vs, rfl, hcell, OwnF.free h2 j, hm, hc, rfl, hq, hu, h2, h1, h3⟩
theorem Prt.spo {w w' : World} {B g c j : Nat} {Q : List (List Int)} {vs : List Value} {u : Value} {q : List Int} (h : Prt w B g c Q j vs) (hc : OwnC w B u q) (hu : vs[j]? = some u) (hq : Q[j]? = some q) (hs : Spo w w' u)
    (hne : ∀ q ∈ Q, 0 < q.length) (hap : Q.Pairwise fun q q' => ∀ x ∈ q, x ∉ q') : Prt w' B g c Q (j + 1) vs := by
  refine ⟨?_, h.len, fun i x l hi hx hl => ?_⟩
  · refine OwnF.spo h.own hs fun k hk e => ?_
    obtain ⟨c1, h1⟩ := h.own.keepObj k hk
    obtain ⟨g', cur, hv, -, hh, -⟩ := hc
    subst hv
    simp only [Value.ownBlock, Option.some.injEq] at e
    subst e
    rw [hh] at h1
    simp only [Option.some.injEq, Obj.cells.injEq] at h1
    exact absurd h1.2.1 (by decide)
  · have hcl := h.at' i x l (by omega) hx hl
    have hx2 : ∀ y ∈ l, y ∉ q := by
      have hji : j < Q.length := (List.getElem?_eq_some_iff.1 hq).1
      have hii : i < Q.length := (List.getElem?_eq_some_iff.1 hl).1
      have e1 : Q[j] = q := by rw [List.getElem?_eq_getElem hji] at hq; exact Option.some.inj hq
      have e2 : Q[i] = l := by rw [List.getElem?_eq_getElem hii] at hl; exact Option.some.inj hl
      have := List.pairwise_iff_getElem.1 hap j i hji hii (by omega)
      rw [e1, e2] at this
      exact fun y hy hy2 => this y hy2 hy
    have hap2 := OwnC.apart hcl hc (hne l (List.mem_of_getElem? hl)) (hne q (List.mem_of_getElem? hq)) hx2
    obtain ⟨g1, cur, hv, h1, h2, h3⟩ := hcl
    exact ⟨g1, cur, hv, h1, (hs.block g1 (by rw [hv] at hap2; exact fun e => hap2 g1 rfl e)).trans h2, h3⟩
theorem Prt.keep {w w' : World} {B g c j : Nat} {Q : List (List Int)} {vs : List Value} (h : Prt w B g c Q j vs) (hb : Below w.heap.size w w') : Prt w' B g c Q j vs :=
  ⟨OwnF.below h.own hb, h.len, fun i u l hi hu hl => (h.at' i u l hi hu hl).keep (Keep.of_below hb)⟩
theorem Prt.set {w : World} {B g c j : Nat} {Q : List (List Int)} {vs : List Value} (h : Prt w B g c Q (j + 1) vs) (u : Value) : PrtE (w.setCell ⟨g, j, none⟩ u) B (.slice (some ⟨g, 0, none⟩) Q.length c) Q (j + 1) := by
  refine ⟨vs.set j u, by simp [h.len], OwnV.set h.own, fun i x l hi hx hl => ?_⟩
  rw [List.getElem?_set_ne (by omega)] at hx
  obtain ⟨g', cur, hv, h1, h2, h3⟩ := h.at' i x l hi hx hl
  refine ⟨g', cur, hv, h1, row_other h2 fun e => ?_, h3⟩
  obtain ⟨c1, h4⟩ := h.own.keepObj g rfl
  rw [e, h2] at h4
  simp only [Option.some.injEq, Obj.cells.injEq] at h4
  exact absurd h4.2.1 (by decide)
theorem Prt.cell {w : World} {B g c j : Nat} {Q : List (List Int)} {vs : List Value} {u : Value} (h : Prt w B g c Q (j + 1) vs) (hu : vs[j]? = some u) : w.cell? ⟨g, j, none⟩ = some u ∧ w.frozen? ⟨g, j, none⟩ = false := by
  obtain ⟨g', e, -, h3⟩ := OwnV.val h.own h.len hu
  simp only [Option.some.injEq, Addr.mk.injEq, and_true] at e
  subst e
  exact ⟨h3, OwnF.free h.own j⟩
theorem SomeT.below {w w' : World} {B n : Nat} {v : Value} (h : SomeT w B n v) (hb : Below w.heap.size w w') : SomeT w' B n v := let ⟨l, h1, h2⟩ := h; ⟨l, h1, OwnF.below h2 hb⟩
theorem SomeI.below {w w' : World} {B n : Nat} {v : Value} (h : SomeI w B n v) (hb : Below w.heap.size w w') : SomeI w' B n v := let ⟨l, h1, h2⟩ := h; ⟨l, h1, OwnF.below h2 hb⟩
theorem Below.setV {K B : Nat} {w w' : World} {g c j : Nat} {Q : List (List Int)} {vs : List Value} (hb : Below K w w') (h : Prt w' B g c Q j vs) (hK : K ≤ B) (u : Value) (i : Nat) : Below K w (w'.setCell ⟨g, i, none⟩ u) :=
  hb.setCell (p := ⟨g, i, none⟩) (by have := (h.own.lt g rfl).1; exact Nat.le_trans hK this) u
theorem SomeI.setV {w : World} {B B2 n : Nat} {v : Value} {g c j : Nat} {Q : List (List Int)} {vs : List Value} (h : SomeI w B n v) (hp : Prt w B2 g c Q j vs) (u : Value) (i : Nat) : SomeI (w.setCell ⟨g, i, none⟩ u) B n v := by
  obtain ⟨l, h1, h2⟩ := h
  refine ⟨l, h1, OwnF.other h2 (fun e => ?_) u⟩
  obtain ⟨c1, h4⟩ := hp.own.keepObj g rfl
  obtain ⟨c2, h5⟩ := h2.keepObj g e
  rw [h4] at h5
  simp only [Option.some.injEq, Obj.cells.injEq] at h5
  exact absurd h5.2.1 (by decide)
theorem SomeT.setV {w : World} {B B2 n : Nat} {v : Value} {g c j : Nat} {Q : List (List Int)} {vs : List Value} (h : SomeT w B n v) (hp : Prt w B2 g c Q j vs) (u : Value) (i : Nat) : SomeT (w.setCell ⟨g, i, none⟩ u) B n v := by
  obtain ⟨l, h1, h2⟩ := h
  refine ⟨l, h1, OwnF.other h2 (fun e => ?_) u⟩
  obtain ⟨c1, h4⟩ := hp.own.keepObj g rfl
  obtain ⟨c2, h5⟩ := h2.keepObj g e
  rw [h4] at h5
  simp only [Option.some.injEq, Obj.cells.injEq] at h5
  exact absurd h5.2.1 (by decide)
/-- A triple of such a list, its last number written over. -/
theorem SomeT.set {w : World} {B n g c j : Nat} (h : SomeT w B n (.slice (some ⟨g, 0, none⟩) n c)) : SomeT (w.setCell ⟨g, j, none⟩ (.int .i64 (-9))) B n (.slice (some ⟨g, 0, none⟩) n c) :=
  SomeT.spo (u := .slice (some ⟨g, 0, none⟩) n c) h (Spo.refl _ _).set
theorem SomeT.at {w : World} {B n c j : Nat} {a : Option Addr} (h : SomeT w B n (.slice a n c)) (hj : j < n) : ∃ g x, a = some ⟨g, 0, none⟩ ∧ B ≤ g ∧ w.cell? ⟨g, j * 3 + 2, none⟩ = some (.int .i64 x) ∧ w.frozen? ⟨g, j * 3 + 2, none⟩ = false := by
  obtain ⟨l, hl, ho⟩ := h
  have hs : Sl w w.heap.size 3 (.slice a n c) n (l.flatMap trC) := by rw [← hl] at ho ⊢; exact ho.sl
  rcases ho.form with ⟨-, rfl⟩ | ⟨g, cap', e, hB, hg⟩
  · simp at hl; omega
  · simp only [Value.slice.injEq, Option.some.injEq] at e
    obtain ⟨rfl, -, rfl⟩ := e
    obtain ⟨b, off, x, ha, hb, hx, hc⟩ := Sl.atF (sz := 3) (fun _ => rfl) hs hl hj
    simp only [Option.some.injEq, Addr.mk.injEq, and_true] at ha
    obtain ⟨rfl, rfl⟩ := ha
    refine ⟨g, x.2.2, rfl, hB, ?_, OwnF.free ho _⟩
    have := hc 2 (by decide)
    rw [Nat.zero_add] at this
    rw [this]; rfl

section
variable {w : World} {vd vi : Value}
set_option maxRecDepth 100000 in
set_option maxHeartbeats 4000000 in
theorem law_grown {l : List Tr} {nd : List Int} {n m B : Nat} (h : Sl w B 3 vd n (l.flatMap trC)) (hn : l.length = n) (hB : B ≤ w.heap.size) (hi : Sl w B 1 vi m (nd.flatMap intC)) (hm : nd.length = m) (hd : ∀ x ∈ l, dI x.1 ∧ dI x.2.1 ∧ dI x.2.2) (hdi : ∀ x ∈ nd, dI x) (a c : Int) (ha : dI a) (hc : dI c) :
    Calls Try.prog 14 #[vd, vi, .int .i64 a, .int .i64 c] w fun e w' => e = .returned (.bool true) ∧ Below w.heap.size w w' := by
  obtain ⟨al, cl, rfl, hal⟩ := h.ex
  obtain ⟨ai, ci, rfl, hai⟩ := hi.ex
  have H := hid h
  have HI := hid hi
  have HN := hid hn
  have HM := hid hm
  have HD := hid hd
  have HDI := hid hdi
  clear h hi hn hm hd hdi
  go_enter Try.func14, Try.ntmps14
  go_wp2_with fail
  refine (gr_first w).mono ?_
  rintro e w0 ⟨rfl, b0⟩
  have B0 := hid b0
  have z0 : w.heap.size ≤ w0.heap.size := b0.size
  have hB0 : B ≤ w0.heap.size := by omega
  clear b0
  by_cases hn1 : n ≤ 40
  · by_cases hm1 : m ≤ 40
    · go_wp2_with fail
      refine (gr_made (H.out.below (B0.out.mono hB)) HN.out hB0 (HI.out.below (B0.out.mono hB)) HM.out HD.out HDI.out (by omega) (by omega)).mono ?_
      rintro e w1 ⟨p, vn, ve, rfl, g1, q1, b1⟩
      have HED := hid (fun x (hx : x ∈ l) => edge_in (nd := nd) hx)
      have HOK := hid (gN_ok nd (gE_ok l))
      have hL1 := gE_len l
      have hL2 := gN_len (gE l).1 nd
      rw [HN.out] at hL1
      rw [HM.out] at hL2
      obtain ⟨an, cn, rfl, -⟩ := Sl.ex q1.n
      obtain ⟨ae, ce, rfl, -⟩ := Sl.ex q1.e
      generalize gN (gE l).1 nd = N at *
      generalize (gE l).2 = E at *
      have hN9 : N.length ≤ 200 := by omega
      have hE9 : E.length ≤ 40 := by omega
      have z1 : w0.heap.size ≤ w1.heap.size := b1.size
      have B2 := hid ((B0.out.trans (b1.mono z0)).alloc (by omega) (.cells #[.slice an N.length cn, .slice ae E.length ce] 63))
      have G2 := hid ((g1.below ((Below.refl w1.heap.size w1).alloc (Nat.le_refl _) (.cells #[.slice an N.length cn, .slice ae E.length ce] 63)) (Nat.le_refl _)).raise (hi' := (w1.alloc (.cells #[.slice an N.length cn, .slice ae E.length ce] 63)).heap.size) (by simp))
      have HDN := hid g1.domN
      have HRG := hid (q1.below ((Below.refl w1.heap.size w1).alloc (Nat.le_refl _) (.cells #[.slice an N.length cn, .slice ae E.length ce] 63)))
      have HR1 := hid (row_new w1 (.cells #[.slice an N.length cn, .slice ae E.length ce] 63))
      clear g1 q1 b1 hL1 hL2 B0
      generalize hnl : N.length = nl at *
      generalize hel : E.length = el at *
      have HNL := hid hnl
      clear hnl
      have hel' : E.length ≤ 40 := by omega
      have hnl' : N.length ≤ 200 := by rw [HNL.out]; omega
      obtain ⟨w2, hw2⟩ : ∃ w2, w2 = w1.alloc (.cells #[.slice an nl cn, .slice ae el ce] 63) := ⟨_, rfl⟩
      rw [← hw2] at G2 B2 HRG HR1
      have z2 : w1.heap.size + 1 ≤ w2.heap.size := by rw [hw2, World.size_alloc]; omega
      have HW2 := hid hw2
      clear hw2 hel
      go_wp2_with fail
      rw [← HW2.out]
      have hnl2 : nl ≤ 200 := hN9
      have hel2 : E.length ≤ 40 := hel'
      refine (gr_mapId G2.out (Nat.le_refl _) (by omega) (by omega)).mono ?_
      rintro e w3 ⟨p2, rfl, g3, b3⟩
      have M3 := hid g3
      have G3 := hid (G2.out.below b3 (Nat.le_refl _))
      have RG3 := hid (HRG.out.below b3)
      have R3 := hid (row_below HR1.out b3 (by omega))
      have B3 := hid (B2.out.trans (b3.mono B2.out.size))
      have z3 : w2.heap.size ≤ w3.heap.size := b3.size
      clear g3 b3 G2 HRG HR1 B2 HW2
      go_wp2_with fail
      refine (gr_edge M3.out (Nat.le_refl _) (by omega) (by omega) a c 99 ha hc (by unfold dI Lit.wf; decide)).mono ?_
      rintro e w4 ⟨rfl, -, k4, b4⟩
      have G4 := hid (G3.out.below b4 (Nat.le_refl _))
      have RG4 := hid (RG3.out.keep k4)
      have R4 := hid (row_below R3.out b4 (by omega))
      have B4 := hid (B3.out.trans (b4.mono (by omega)))
      have z4 : w2.heap.size ≤ w4.heap.size := Nat.le_trans z3 k4.size
      clear k4 b4 M3 G3 RG3 R3 B3
      go_wp2_with fail
      go_loopw [13] (fun i wr => ∃ q : Nat, q ≤ 2 ∧ i = .int .i64 q ∧ Below w4.heap.size w4 wr) (fun i _ => 2 - (intOf i).toNat)
      case atStart => exact ⟨0, by omega, by go_num, Below.refl _ _⟩
      case round =>
        obtain ⟨q, hq, rfl, hB⟩ := hrel
        have B5 := hid hB
        have z5 := hB.size
        clear hB
        by_cases hlt : q < 2
        · have G5 := hid ((G4.out.below (B5.out.mono z4) (Nat.le_refl _)))
          have hz25 : w2.heap.size ≤ wr.heap.size := Nat.le_trans z4 z5
          obtain ⟨W5, rfl⟩ : ∃ W5, W5 = wr := ⟨_, rfl⟩
          go_wp2_with fail
          refine (gr_nodes G5.out (by omega)).mono ?_
          rintro e w6 ⟨v6, rfl, h6, b6⟩
          have N6 := hid h6
          have B6 := hid b6
          have z6 := b6.size
          clear h6 b6
          go_wp2_with fail
          refine (gr_edges (G5.out.below (B6.out.mono hz25) (Nat.le_refl _)) (by omega) (by omega) (by omega)).mono ?_
          rintro e w7 ⟨v7, rfl, h7, b7⟩
          have N7 := hid (N6.out.below b7)
          have E7 := hid h7
          have B7 := hid (B6.out.trans (b7.mono z6))
          have z7 := B7.out.size
          clear h7 b7 N6 B6
          go_wp2_with fail
          refine (gr_out (G5.out.below (B7.out.mono hz25) (Nat.le_refl _)) (by omega) a ha).mono ?_
          rintro e w8 ⟨v8, rfl, h8, b8⟩
          have N8 := hid (N7.out.below b8)
          have E8 := hid (E7.out.below b8)
          have O8 := hid h8
          have B8 := hid (B7.out.trans (b8.mono z7))
          have z8 := B8.out.size
          clear h8 b8 N7 E7 B7
          go_wp2_with fail
          refine (gr_reach (G5.out.below (B8.out.mono hz25) (Nat.le_refl _)) (by omega) (by omega) a ha).mono ?_
          rintro e w9 ⟨v9, R9, rfl, h9, -, b9⟩
          have N9 := hid (N8.out.below b9)
          have E9 := hid (E8.out.below b9)
          have O9 := hid (O8.out.below b9)
          have X9 := hid h9
          have B9 := hid (B8.out.trans (b9.mono z8))
          have z9 := B9.out.size
          clear h9 b9 N8 E8 O8 B8
          go_wp2_with fail
          refine (gr_cycle (G5.out.below (B9.out.mono hz25) (Nat.le_refl _)) (by omega) (by omega) (by omega)).mono ?_
          rintro e w10 ⟨v10, c10, rfl, h10, -, b10⟩
          have N10 := hid (N9.out.below b10)
          have E10 := hid (E9.out.below b10)
          have O10 := hid (O9.out.below b10)
          have X10 := hid (X9.out.below b10)
          have C10 := hid h10
          have B10 := hid (B9.out.trans (b10.mono z9))
          have z10 := B10.out.size
          clear h10 b10 N9 E9 O9 X9 B9
          go_wp2_with fail
          refine (gr_topo (G5.out.below (B10.out.mono hz25) (Nat.le_refl _)) (by omega) (by omega) (by omega)).mono ?_
          rintro e w11 ⟨v11, o11, rfl, h11, -, b11⟩
          have N11 := hid (N10.out.below b11)
          have E11 := hid (E10.out.below b11)
          have O11 := hid (O10.out.below b11)
          have X11 := hid (X10.out.below b11)
          have C11 := hid (C10.out.below b11)
          have T11 := hid h11
          have B11 := hid (B10.out.trans (b11.mono z10))
          have z11 := B11.out.size
          clear h11 b11 N10 E10 O10 X10 C10 B10
          go_wp2_with fail
          refine (gr_parts (G5.out.below (B11.out.mono hz25) (Nat.le_refl _)) (by omega) (by omega) (by omega)).mono ?_
          rintro e w12 ⟨v12, vs, Q, rfl, h12, hL, hQ, b12⟩
          have N12 := hid (N11.out.below b12)
          have E12 := hid (E11.out.below b12)
          have O12 := hid (O11.out.below b12)
          have X12 := hid (X11.out.below b12)
          have C12 := hid (C11.out.below b12)
          have T12 := hid (T11.out.below b12)
          have V12 := hid h12
          have Q12 := hid hL
          have HQ := hid hQ
          have B12 := hid (B11.out.trans (b12.mono z11))
          have LN := hid (fun k (hk : v6.ownBlock = some k) => (N11.out.lt k hk).2)
          have LO := hid (fun k (hk : v8.ownBlock = some k) => (O11.out.lt k hk).2)
          have LX := hid (fun k (hk : v9.ownBlock = some k) => (X11.out.lt k hk).2)
          have LC := hid (fun k (hk : v10.ownBlock = some k) => (C11.out.lt k hk).2)
          have LT' := hid (fun k (hk : v11.ownBlock = some k) => (T11.out.lt k hk).2)
          clear h12 hL hQ b12 N11 E11 O11 X11 C11 T11 B11
          have SN0 := hid (show SomeI w12 W5.heap.size N.length v6 from ⟨N, rfl, N12.out⟩)
          have SE0 := hid (show SomeT w12 W5.heap.size E.length v7 from ⟨E, rfl, E12.out.base z6⟩)
          have SO0 := hid (show SomeI w12 W5.heap.size (row (prs E) a).length v8 from ⟨_, rfl, O12.out.base z7⟩)
          have SX0 := hid (show SomeI w12 W5.heap.size R9.length v9 from ⟨_, rfl, X12.out.base z8⟩)
          have SC0 := hid (show SomeI w12 W5.heap.size c10.length v10 from ⟨_, rfl, C12.out.base z9⟩)
          have ST0 := hid (show SomeI w12 W5.heap.size (o11.getD []).length v11 from ⟨_, rfl, T12.out.base z10⟩)
          have HL5 := hid (fun (u : Value) (n : Nat) (wq : World) (h : SomeI wq W5.heap.size n u) => (let ⟨_, _, h2⟩ := h; fun k hk => (h2.lt k hk).1 : ∀ k, u.ownBlock = some k → W5.heap.size ≤ k))
          clear N12 E12 O12 X12 C12 T12
          go_wp2_with fail
          refine (gr_spoilS SN0.out).mono ?_
          rintro e y1 ⟨rfl, sN, sp⟩
          have SO1 := hid (SO0.out.spo sp)
          have SX1 := hid (SX0.out.spo sp)
          have SC1 := hid (SC0.out.spo sp)
          have ST1 := hid (ST0.out.spo sp)
          have SN1 := hid sN
          have SE1 := hid (SE0.out.spo sp)
          have V1y := hid (OwnV.spoS V12.out SN0.out sp)
          have Q1y := hid (Q12.out.spo sp LN.out)
          have B1y := hid (B12.out.trans (sp.below W5.heap.size (HL5.out _ _ _ SN0.out)))
          clear sN sp SN0 SE0 SO0 SX0 SC0 ST0 V12 Q12 B12
          go_wp2_with fail
          refine (gr_spoilS SO1.out).mono ?_
          rintro e y2 ⟨rfl, sO, sp⟩
          have SN2 := hid (SN1.out.spo sp)
          have SX2 := hid (SX1.out.spo sp)
          have SC2 := hid (SC1.out.spo sp)
          have ST2 := hid (ST1.out.spo sp)
          have SO2 := hid sO
          have SE2 := hid (SE1.out.spo sp)
          have V2y := hid (OwnV.spoS V1y.out SO1.out sp)
          have Q2y := hid (Q1y.out.spo sp LO.out)
          have B2y := hid (B1y.out.trans (sp.below W5.heap.size (HL5.out _ _ _ SO1.out)))
          clear sO sp SN1 SE1 SO1 SX1 SC1 ST1 V1y Q1y B1y
          go_wp2_with fail
          refine (gr_spoilS SX2.out).mono ?_
          rintro e y3 ⟨rfl, sX, sp⟩
          have SN3 := hid (SN2.out.spo sp)
          have SO3 := hid (SO2.out.spo sp)
          have SC3 := hid (SC2.out.spo sp)
          have ST3 := hid (ST2.out.spo sp)
          have SX3 := hid sX
          have SE3 := hid (SE2.out.spo sp)
          have V3y := hid (OwnV.spoS V2y.out SX2.out sp)
          have Q3y := hid (Q2y.out.spo sp LX.out)
          have B3y := hid (B2y.out.trans (sp.below W5.heap.size (HL5.out _ _ _ SX2.out)))
          clear sX sp SN2 SE2 SO2 SX2 SC2 ST2 V2y Q2y B2y
          go_wp2_with fail
          refine (gr_spoilS SC3.out).mono ?_
          rintro e y4 ⟨rfl, sC, sp⟩
          have SN4 := hid (SN3.out.spo sp)
          have SO4 := hid (SO3.out.spo sp)
          have SX4 := hid (SX3.out.spo sp)
          have ST4 := hid (ST3.out.spo sp)
          have SC4 := hid sC
          have SE4 := hid (SE3.out.spo sp)
          have V4y := hid (OwnV.spoS V3y.out SC3.out sp)
          have Q4y := hid (Q3y.out.spo sp LC.out)
          have B4y := hid (B3y.out.trans (sp.below W5.heap.size (HL5.out _ _ _ SC3.out)))
          clear sC sp SN3 SE3 SO3 SX3 SC3 ST3 V3y Q3y B3y
          go_wp2_with fail
          refine (gr_spoilS ST4.out).mono ?_
          rintro e y5 ⟨rfl, sT, sp⟩
          have SN5 := hid (SN4.out.spo sp)
          have SO5 := hid (SO4.out.spo sp)
          have SX5 := hid (SX4.out.spo sp)
          have SC5 := hid (SC4.out.spo sp)
          have ST5 := hid sT
          have SE5 := hid (SE4.out.spo sp)
          have V5y := hid (OwnV.spoS V4y.out ST4.out sp)
          have Q5y := hid (Q4y.out.spo sp LT'.out)
          have B5y := hid (B4y.out.trans (sp.below W5.heap.size (HL5.out _ _ _ ST4.out)))
          clear sT sp SN4 SE4 SO4 SX4 SC4 ST4 V4y Q4y B4y
          go_wp2_with fail
          have hpn := hid (fun q (hq : q ∈ Q) => (by
            rw [HQ.out] at hq
            obtain ⟨a, ha, rfl⟩ := parts_mem hq
            exact List.length_pos_of_mem (mem_partOf.2 ⟨ha, Mut.refl _ a⟩) : 0 < q.length))
          have hap := hid (show Q.Pairwise fun q q' => ∀ x ∈ q, x ∉ q' by rw [HQ.out]; exact parts_apart)
          obtain ⟨a12, c12, rfl, hm12⟩ : ∃ a c, v12 = .slice a Q.length c ∧ Q.length ≤ 9223372036854775807 := by rw [← Q5y.out.1]; exact (OwnF.sl V5y.out).ex
          have P5 := hid ((PrtE.of V5y.out Q5y.out).base z11)
          obtain ⟨qn, hqn⟩ : ∃ qn, Q.length = qn := ⟨_, rfl⟩
          have HQN := hid hqn
          rw [hqn] at hm12 P5 ⊢
          obtain ⟨a6, c6, rfl, hm6⟩ : ∃ a c, v6 = .slice a nl c ∧ nl ≤ 9223372036854775807 := by
            obtain ⟨l, hl, ho⟩ := SN5.out
            rw [HNL.out] at hl
            rw [← hl]
            exact (OwnF.sl ho).ex
          obtain ⟨a7, c7, rfl, hm7⟩ : ∃ a c, v7 = .slice a E.length c ∧ E.length ≤ 9223372036854775807 := by
            obtain ⟨l, hl, ho⟩ := SE5.out
            rw [← hl]
            exact (OwnF.sl ho).ex
          rw [HNL.out] at SN5
          clear SO5 SX5 SC5 ST5 V5y Q5y HL5 LN LO LX LC LT' hqn
          go_wp2_with fail
          go_loopw [22] (fun i wr => ∃ j : Nat, j ≤ qn ∧ i = .int .i64 j ∧ PrtE wr W5.heap.size (.slice a12 qn c12) Q j ∧ SomeI wr W5.heap.size nl (.slice a6 nl c6) ∧ SomeT wr W5.heap.size E.length (.slice a7 E.length c7) ∧ Below W5.heap.size W5 wr) (fun i _ => qn - (intOf i).toNat)
          case atStart => exact ⟨0, by omega, by go_num, P5.out, SN5.out, SE5.out, B5y.out⟩
          case round =>
            obtain ⟨j, hj, rfl, hP, hSN, hSE, hB⟩ := hrel
            have P0 := hid hP
            have N0 := hid hSN
            have E0 := hid hSE
            have B0 := hid hB
            clear hP hSN hSE hB P5 SN5 SE5 B5y
            by_cases hlj : j < qn
            · obtain ⟨g, gu, m, q, vs2, rfl, d0, hf0, hm, hc, hql, hqj, huj, hPr⟩ := P0.out.at HQN.out hlj
              have HC := hid hc
              have HQJ := hid hqj
              have HUJ := hid huj
              have HPR := hid hPr
              have SC := hid (show SomeC wr W5.heap.size m (.slice (some ⟨gu, 0, none⟩) m m) from ⟨q, hql, hc⟩)
              have HGU := hid (show W5.heap.size ≤ gu by
                obtain ⟨g', cur, e, hg', -⟩ := hc
                simp only [Value.slice.injEq, Option.some.injEq, Addr.mk.injEq, and_true] at e
                omega)
              clear hc hqj huj hPr hql
              go_wp2_with fail
              refine (gr_spoilC SC.out).mono ?_
              rintro e x1 ⟨rfl, sC, sp⟩
              have SC1 := hid sC
              have PR1 := hid (HPR.out.spo HC.out HUJ.out HQJ.out sp hpn.out hap.out)
              have N1 := hid (N0.out.spo sp)
              have E1 := hid (E0.out.spo sp)
              have B1 := hid (B0.out.trans (sp.below W5.heap.size (by rintro k e; cases e; exact HGU.out)))
              obtain ⟨d1, hf1⟩ := PR1.out.cell HUJ.out
              clear sC sp N0 E0 B0 HPR P0 SC HC d0 hf0
              go_wp2_with (at_builtin; refine wpList_appC rfl _ _ rfl SC1.out 1 rfl rfl rfl ?_; refine Stop.halt ?_)
              refine Stop.go ?_
              intro gn cn x2 hb2
              have PR2 := hid (PR1.out.keep hb2)
              have N2 := hid (N1.out.below hb2)
              have E2 := hid (E1.out.below hb2)
              have B2 := hid (B1.out.trans (hb2.mono B1.out.size))
              obtain ⟨d2, hf2⟩ := PR2.out.cell HUJ.out
              clear hb2 PR1 N1 E1 B1 d1 hf1 SC1
              go_wp2_with fail
              go_roundw
              case rel => exact ⟨j + 1, by omega, by go_num, by have := PR2.out.set (.slice (some ⟨gn, 0, none⟩) (m + 1) cn); rw [HQN.out] at this; exact this, N2.out.setV PR2.out _ _, E2.out.setV PR2.out _ _, Below.setV B2.out PR2.out (Nat.le_refl _) _ _⟩
              case measure => simp [intOf]; omega
            · obtain rfl : j = qn := by omega
              obtain ⟨X3, rfl⟩ : ∃ X3, X3 = wr := ⟨_, rfl⟩
              clear P0 hj hlj
              go_wp2_with fail
              go_loopw [23] (fun i wr => ∃ j : Nat, j ≤ E.length ∧ i = .int .i64 j ∧ SomeI wr W5.heap.size nl (.slice a6 nl c6) ∧ SomeT wr W5.heap.size E.length (.slice a7 E.length c7) ∧ Below W5.heap.size W5 wr) (fun i _ => E.length - (intOf i).toNat)
              case atStart => exact ⟨0, by omega, by go_num, N0.out, E0.out, B0.out⟩
              case round =>
                obtain ⟨j, hj, rfl, hSN, hSE, hB⟩ := hrel
                have N0 := hid hSN
                have E0 := hid hSE
                have B0 := hid hB
                clear hSN hSE hB
                by_cases hlj : j < E.length
                · obtain ⟨g7, x7, rfl, hg7, d0, hf0⟩ := E0.out.at hlj
                  go_wp2_with fail
                  go_roundw
                  case rel => exact ⟨j + 1, by omega, by go_num, SomeI.spo (u := .slice (some ⟨g7, 0, none⟩) E.length c7) N0.out (Spo.refl _ _).set, E0.out.set, B0.out.setCell (p := ⟨g7, _, none⟩) hg7 _⟩
                  case measure => simp [intOf]; omega
                · obtain rfl : j = E.length := by omega
                  obtain ⟨l6, hl6, hO6⟩ := N0.out
                  have O6 := hid hO6
                  have HL6 := hid hl6
                  have z8 : W5.heap.size ≤ wr.heap.size := B0.out.size
                  have hl69 : l6.length ≤ 200 := by rw [hl6]; exact hnl2
                  clear hl6 hO6
                  go_wp2_with (at_builtin; refine wpList_appF rfl _ _ _ rfl _ 8 Try.underlying23 infoI rfl O6.out 1 z8 (by rfl) (by rfl) (by first | rfl | simp) rfl (in_one _) (by first | omega | (simp only [List.length_append, List.length_cons, List.length_nil, List.length_replicate]; omega)) (by first | omega | (simp only [List.length_append, List.length_cons, List.length_nil, List.length_replicate]; omega)) ?_; refine Stop.halt ?_)
                  refine Stop.go ?_
                  intro gn cn x8 hn Gn
                  obtain ⟨l7, hl7, hO7⟩ := E0.out
                  have O7 := hid (OwnF.grwT hO7 O6.out (by decide) Gn)
                  have N8 := hid hn
                  have B8 := hid (B0.out.trans (Gn.below z8 fun k h => (O6.out.lt k h).1))
                  have HL7 := hid hl7
                  have z9 : W5.heap.size ≤ x8.heap.size := Nat.le_trans z8 Gn.size
                  have hl79 : l7.length ≤ 40 := by rw [hl7]; exact hel2
                  clear hn Gn hl7 hO7 O6 E0 N0 B0
                  generalize hk1 : l6.length + 1 = k1 at *
                  have HK1 := hid hk1
                  have hk19 : k1 ≤ 201 := by omega
                  clear hk1
                  go_wp2_with (at_builtin; refine wpList_appF rfl _ _ _ rfl _ 24 Try.underlying93 infoG rfl O7.out (0, 0, 1) z9 (by rfl) (by rfl) (by first | rfl | simp) rfl (tr_one _) (by first | omega | (simp only [List.length_append, List.length_cons, List.length_nil, List.length_replicate]; omega)) (by first | omega | (simp only [List.length_append, List.length_cons, List.length_nil, List.length_replicate]; omega)) ?_; refine Stop.halt ?_)
                  refine Stop.go ?_
                  intro gm cm x9 hm Gm
                  have N9 := hid (OwnF.grwT N8.out O7.out (by decide) Gm)
                  have E9 := hid hm
                  have B9 := hid (B8.out.trans (Gm.below z9 fun k h => (O7.out.lt k h).1))
                  clear hm Gm N8 O7 B8
                  obtain ⟨g1, y, e1, -, -, hy, cy⟩ := OwnI.at N9.out (by rw [List.length_append, List.length_singleton]; exact HK1.out) (k := k1 - 1) (by have := HK1.out; omega)
                  simp only [Option.some.injEq, Addr.mk.injEq, and_true] at e1
                  subst e1
                  obtain rfl : y = 1 := by
                    rw [← HK1.out] at hy
                    simpa using hy.symm
                  generalize hk2 : l7.length + 1 = k2 at *
                  have HK2 := hid hk2
                  have hk29 : k2 ≤ 41 := by omega
                  obtain ⟨g2, t2, e1, -, -, ht, -, -, ct⟩ := OwnT.at E9.out (by rw [List.length_append, List.length_singleton]; exact HK2.out) (k := k2 - 1) (by have := HK2.out; omega)
                  simp only [Option.some.injEq, Addr.mk.injEq, and_true] at e1
                  subst e1
                  obtain rfl : t2 = (0, 0, 1) := by
                    rw [← HK2.out] at ht
                    simpa using ht.symm
                  have hk11 : 1 ≤ k1 := by have := HK1.out; omega
                  have hk21 : 1 ≤ k2 := by omega
                  simp only [] at ct
                  clear hy ht hk2 N9 E9
                  go_wp2_with fail
                  go_roundw
                  case rel => exact ⟨q + 1, by omega, by go_num, B5.out.trans (B9.out.mono z5)⟩
                  case measure => simp [intOf]; omega
        · obtain rfl : q = 2 := by omega
          have G6 := hid ((G4.out.below (B5.out.mono z4) (Nat.le_refl _)).raise (hi' := wr.heap.size) (by omega))
          have RG6 := hid ((RG4.out.below B5.out))
          have R6 := hid (row_below R4.out B5.out (by omega))
          have B6 := hid (B4.out.trans (B5.out.mono B4.out.size))
          have d0 : wr.cell? ⟨w1.heap.size, 0, none⟩ = some (.slice an nl cn) := row_cell R6.out 0
          have d1 : wr.cell? ⟨w1.heap.size, 1, none⟩ = some (.slice ae el ce) := row_cell R6.out 1
          clear G4 RG4 R4 B4 B5
          go_wp2_with fail
          refine (gr_topo G6.out (Nat.le_refl _) (by omega) (by omega)).mono ?_
          rintro e w7 ⟨v7, o7, rfl, h7, e7, b7⟩
          obtain ⟨a7, c7, rfl, hm7⟩ := h7.sl.ex
          have L7 := hid (show LI w7 (.slice a7 (o7.getD []).length c7) (o7.getD []) from h7.sl)
          have E7 := hid e7
          have G7 := hid ((G6.out.below b7 (Nat.le_refl _)).raise (hi' := w7.heap.size) b7.size)
          have RG7 := hid (RG6.out.below b7)
          have R7 := hid (row_below R6.out b7 (by omega))
          have B7 := hid (B6.out.trans (b7.mono B6.out.size))
          have z7 : wr.heap.size ≤ w7.heap.size := b7.size
          have d0 : w7.cell? ⟨w1.heap.size, 0, none⟩ = some (.slice an nl cn) := row_cell R7.out 0
          have d1 : w7.cell? ⟨w1.heap.size, 1, none⟩ = some (.slice ae el ce) := row_cell R7.out 1
          have hbe : ∀ q : Bool, (q == q) = true := fun q => by cases q <;> rfl
          have hbq := hbe o7.isSome
          clear h7 e7 b7 G6 RG6 R6 B6 hbe
          generalize hl7 : (o7.getD []).length = n7 at *
          have HL7 := hid hl7
          clear hl7
          go_wp2_with fail
          refine (rg_topo RG7.out (by omega)).mono ?_
          rintro e w8 ⟨v8, o8, rfl, h8, e8, b8⟩
          rw [← E7.out] at e8
          subst e8
          have L8 := hid h8
          have L78 := hid (show LI w8 (.slice a7 n7 c7) (o8.getD []) from Sl.up L7.out (Keep.of_below b8))
          have G8 := hid ((G7.out.below b8 (Nat.le_refl _)).raise (hi' := w8.heap.size) b8.size)
          have RG8 := hid (RG7.out.below b8)
          have R8 := hid (row_below R7.out b8 (by omega))
          have B8 := hid (B7.out.trans (b8.mono B7.out.size))
          have z8 : wr.heap.size ≤ w8.heap.size := Nat.le_trans z7 b8.size
          clear h8 b8 G7 RG7 R7 B7 L7 d0 d1
          go_wp2_with fail
          refine (same_ints (l := o8.getD []) L78.out L8.out).mono ?_
          rintro e w9 ⟨rfl, b9⟩
          have G9 := hid ((G8.out.below b9 (Nat.le_refl _)).raise (hi' := w9.heap.size) b9.size)
          have RG9 := hid (RG8.out.below b9)
          have R9 := hid (row_below R8.out b9 (by omega))
          have B9 := hid (B8.out.trans (b9.mono B8.out.size))
          have d0 : w9.cell? ⟨w1.heap.size, 0, none⟩ = some (.slice an nl cn) := row_cell R9.out 0
          have d1 : w9.cell? ⟨w1.heap.size, 1, none⟩ = some (.slice ae el ce) := row_cell R9.out 1
          clear b9 G8 RG8 R8 B8 L8 L78
          go_wp2_with fail
          refine (gr_is G9.out (Nat.le_refl _) (by omega) (by omega) RG9.out).mono ?_
          rintro e wA ⟨rfl, bA⟩
          have BA := hid (B9.out.trans (bA.mono B9.out.size))
          clear bA d0 d1
          go_wp2
          go_ret
          exact ⟨rfl, BA.out⟩
    · go_wp2
      go_ret
      exact ⟨rfl, B0.out⟩
  · go_wp2
    go_ret
    exact ⟨rfl, B0.out⟩
end
end Go.Proofs.Ytlmeblhcipkgmaa
