/- What the program's relations of whole numbers do: Len, Pairs, Ahead. Conditions: those of each theorem, as typed. -/
import Derived.Test.YtlmeblhcipkgmaaRelF
namespace Go.Proofs.Ytlmeblhcipkgmaa
open Go.RowKit Go.Maps

abbrev RngO (w : World) (b r : Nat) (M : List (Int × Nat)) (S : Int → Bool) (cnt : Nat) : Prop := Rng Try.prog 3 Rmap (.int .i64) (fun r : Nat => .lit (.int .i64 r)) w b r M.length M S cnt
theorem below_next {B r : Nat} {w w1 w2 : World} (h : Below B w w1) (hg : w1.grownBy w2 (some r)) (hB : B ≤ w1.heap.size) (hr : B ≤ r) : Below B w w2 :=
  h.grown hg hB fun k e => by cases e; exact hr
theorem below_ranged {B : Nat} {w w1 w2 : World} (h : Below B w w1) (hg : w1.grownBy w2 none) (hB : B ≤ w1.heap.size) : Below B w w2 :=
  h.grown hg hB fun k e => by cases e

section
variable {w : World} {lo hi p : Nat} {L : List Pr}
theorem rel_len (h : RelAt w lo hi p L) (hhi : hi ≤ w.heap.size) (hL : L.length ≤ 1000000) : Calls Try.prog 31 #[.pointer (some ⟨p, 0, none⟩)] w fun e w' => e = .returned (.int .i64 L.length) ∧ Below w.heap.size w w' := by
  obtain ⟨b, M, h⟩ := h
  have hp := row_cell h.ptr 0
  have H := hid h
  clear h
  go_enter Try.func31, Try.ntmps31
  go_wp2_with (at_range; refine Stop.halt ?_)
  refine Stop.go ?_
  refine H.out.out.wpList_range keyI H.out.domM H.out.srtM Try.underlying98 rfl rfl (by rfl) ?_
  intro w1 hr1 hg1 hz1
  have hB1 := hid (below_ranged (Below.refl w.heap.size w) hg1 (Nat.le_refl _))
  have HR := hid hr1
  clear hr1 hg1
  go_wp2_with fail
  go_frame
  go_loopw [3] (fun n wr => ∃ S cnt, RngO wr b w.heap.size M S cnt ∧ n = .int .i64 (upto L fun x => !S x) ∧ Below w.heap.size w wr) (fun _ wr => wr.rangeLeft b w.heap.size)
  case atStart => exact ⟨_, _, HR.out, by rw [upto_none _ _ (fun _ _ => rfl)]; rfl, hB1.out⟩
  case round =>
    obtain ⟨S, cnt, hrg, rfl, hB⟩ := hrel
    have HG := hid hrg
    have HB := hid hB
    clear hrg hB HR hB1 hz1
    have hle : upto L (fun x => !S x) ≤ L.length := List.length_filter_le _ _
    go_wp2_with (at_next; refine Stop.halt ?_)
    refine Stop.go ?_
    refine HG.out.wpList_next keyI elem_map H.out.domM H.out.srtM rfl rfl (by rfl) ?_ ?_
    · intro hd
      have e : upto L (fun x => !S x) = L.length := upto_all _ _ fun x hx => by
        have : x.1 ∈ M.map (·.1) := by rw [H.out.keys]; exact mem_heads.2 ⟨x.2, hx⟩
        obtain ⟨q, hq, hq2⟩ := List.mem_map.1 this
        rw [← hq2, hd q hq]; rfl
      have E := hid e
      clear e hd
      go_wp2
      go_ret
      exact ⟨by rw [← E.out]; rfl, HB.out⟩
    · intro x u w2 cnt2 hm hS hrg2 hlt2 hg2 hz2 hen
      have B2 := hid (below_next HB.out hg2 HB.out.size (Nat.le_refl _))
      have hm2 := ((H.out.below B2.out hhi).inn x u hm).2
      have hln := fun ty => hm2.len Try.underlying110 ty
      rw [units_length] at hln
      have e := upto_one L (fun x => !S x) (fun z => !(S z && !(z == x))) x (by rw [hS]; rfl) (fun z => by cases S z <;> simp)
      have hle2 : upto L (fun z => !(S z && !(z == x))) ≤ L.length := List.length_filter_le _ _
      have hb : upto L (fun x => !S x) + (row L x).length ≤ 1000000 := by omega
      have E := hid e
      have HG2 := hid hrg2
      clear e hrg2 hm2 hg2 hS hm
      go_wp2
      go_roundw
      case rel => exact ⟨_, _, HG2.out, by rw [E.out]; go_num, B2.out⟩
      case measure => rw [HG2.out.left_eq, HG.out.left_eq]; omega
end

/-! ### lists of pairs -/
def pairC (x : Pr) : List Value := [.int .i64 x.1, .int .i64 x.2]
abbrev OwnP := OwnF pairC 51 2
abbrev OwnD := OwnF pairC 46 2
theorem infoP : (Try.prog.info? 51).map (fun i => (i.zero, i.size, i.bytes)) = some (some (.agg #[.int .i64 0, .int .i64 0]), 2, 16) := by kernel_rfl
theorem infoD : (Try.prog.info? 46).map (fun i => (i.zero, i.size, i.bytes)) = some (some (.agg #[.int .i64 0, .int .i64 0]), 2, 16) := by kernel_rfl
theorem pr_one (x : Pr) : ∀ u ∈ pairC x, u.oneCell' = true := by intro u hu; simp [pairC] at hu; rcases hu with rfl | rfl <;> rfl
theorem in_one (x : Int) : ∀ u ∈ intC x, u.oneCell' = true := by intro u hu; simp [intC] at hu; subst hu; rfl
theorem pairC_len (x : Pr) : (pairC x).length = 2 := rfl
theorem intC_len (x : Int) : (intC x).length = 1 := rfl

/-- A list of numbers that can be read. -/
theorem Sl.ints {w : World} {B n cap : Nat} {a : Option Addr} {l : List Int} (h : Sl w B 1 (.slice a n cap) n (l.flatMap intC)) {k : Nat} (hk : k < n) (hl : l.length = n) :
    ∃ b off x, a = some ⟨b, off, none⟩ ∧ b < B ∧ l[k]? = some x ∧ w.cell? ⟨b, off + k, none⟩ = some (.int .i64 x) := by
  obtain ⟨b, off, x, ha, hb, hx, hc⟩ := h.atF intC_len hl hk
  exact ⟨b, off, x, ha, hb, hx, by have := hc 0 (by omega); simpa [intC] using this⟩
theorem Sl.pairs {w : World} {B n cap : Nat} {a : Option Addr} {l : List Pr} (h : Sl w B 2 (.slice a n cap) n (l.flatMap pairC)) {k : Nat} (hk : k < n) (hl : l.length = n) :
    ∃ b off x, a = some ⟨b, off, none⟩ ∧ b < B ∧ l[k]? = some x ∧ w.cell? ⟨b, off + k * 2, none⟩ = some (.int .i64 x.1) ∧ w.cell? ⟨b, off + k * 2 + 1, none⟩ = some (.int .i64 x.2) := by
  obtain ⟨b, off, x, ha, hb, hx, hc⟩ := h.atF pairC_len hl hk
  exact ⟨b, off, x, ha, hb, hx, hc 0 (by omega), hc 1 (by omega)⟩
theorem OwnI.at {w : World} {B n cap : Nat} {a : Option Addr} {l : List Int} (h : OwnI w B (.slice a n cap) l) (hl : l.length = n) {k : Nat} (hk : k < n) : ∃ g x, a = some ⟨g, 0, none⟩ ∧ B ≤ g ∧ g < w.heap.size ∧ l[k]? = some x ∧ w.cell? ⟨g, k, none⟩ = some (.int .i64 x) := by
  have h0 := h.sl
  rcases h.form with ⟨-, rfl⟩ | ⟨g, cap', e, hB, hg⟩
  · simp at hl; omega
  · simp only [Value.slice.injEq] at e
    obtain ⟨rfl, e2, rfl⟩ := e
    subst hl
    obtain ⟨b, off, x, ha, hb, hx, hc⟩ := h0.ints hk rfl
    simp only [Option.some.injEq, Addr.mk.injEq, and_true] at ha
    obtain ⟨rfl, rfl⟩ := ha
    exact ⟨g, x, rfl, hB, hg, hx, by simpa using hc⟩

/-- The pairs of the rows of those up to the i-th. -/
def accR (L : List Pr) (i : Nat) : List Pr := ((heads L).take i).flatMap fun a => (row L a).map fun b => (a, b)
theorem accR_zero (L : List Pr) : accR L 0 = [] := by simp [accR]
theorem accR_succ {L : List Pr} {i : Nat} {a : Int} (h : (heads L)[i]? = some a) : accR L (i + 1) = accR L i ++ (row L a).map fun b => (a, b) := by
  unfold accR
  rw [List.take_add_one, h]
  simp
theorem accR_all {L : List Pr} (h : Srt L) : accR L (heads L).length = L := by
  unfold accR
  rw [List.take_length, flat_rows h]
theorem accR_le {L : List Pr} (h : Srt L) (i : Nat) : (accR L i).length ≤ L.length := by
  have h1 := congrArg List.length (flat_rows h)
  rw [← List.take_append_drop i (heads L), List.flatMap_append, List.length_append] at h1
  unfold accR
  omega
theorem take_pairs {l : List Int} {a x : Int} {j : Nat} (h : l[j]? = some x) : (l.take (j + 1)).map (fun b => (a, b)) = (l.take j).map (fun b => (a, b)) ++ [(a, x)] := by
  rw [List.take_add_one, h]
  simp

section
variable {w : World} {lo hi p : Nat} {L : List Pr}
set_option maxHeartbeats 400000 in
theorem rel_pairs (h : RelAt w lo hi p L) (hhi : hi ≤ w.heap.size) (hL : L.length ≤ 1000000) : Calls Try.prog 32 #[.pointer (some ⟨p, 0, none⟩)] w fun e w' => ∃ v, e = .returned v ∧ OwnP w' w.heap.size v L ∧ Below w.heap.size w w' := by
  have HR := hid h
  obtain ⟨b, M, h⟩ := h
  have hp := row_cell h.ptr 0
  have hM := h.len
  have hsrt := hid h.srt
  have hdom := hid h.dom
  have hky := hid h.keys
  have ho := hid h.out
  have hs := hid h.srtM
  clear h
  go_enter Try.func32, Try.ntmps32
  go_wp2_with fail
  refine (keysM (some b) _).mono ?_
  rintro e w1 ⟨rfl, rfl⟩
  go_wp2_with fail
  refine (sortedM ho.out hs.out (by omega)).mono ?_
  rintro e w1 ⟨v, rfl, h1, h2⟩
  rw [hky.out] at h1
  obtain ⟨ak, ck, rfl, hkm⟩ := h1.sl.ex
  have K1 := hid (h1.base (B' := w.heap.size) (by omega))
  have B1 := hid (((Below.refl w.heap.size w).alloc (Nat.le_refl _) (.cells #[.map (some b)] 98)).trans (h2.mono (by omega)))
  have z1 := B1.out.size
  clear h1 h2 ho hs hky hM
  go_wp2_with fail
  go_loopw [3, 15] (fun v i wr => ∃ k : Nat, k ≤ (heads L).length ∧ i = .int .i64 k ∧ OwnP wr w1.heap.size v (accR L k) ∧ Below w1.heap.size w1 wr) (fun _ i _ => (heads L).length - (intOf i).toNat)
  case atStart => exact ⟨0, by omega, by go_num, by rw [accR_zero]; exact OwnF.nil _ _, Below.refl _ _⟩
  case round =>
    obtain ⟨k, hk, rfl, hO, hB⟩ := hrel
    obtain ⟨ao, co, rfl, -⟩ := hO.sl.ex
    have HO := hid hO
    have HB := hid hB
    have hz := hB.size
    clear hO hB
    by_cases hlt : k < (heads L).length
    · obtain ⟨g, x, rfl, -, hg, hx, hc⟩ := OwnI.at (K1.out.below HB.out) rfl hlt
      have hxd : dI x := by
        obtain ⟨y, hy⟩ := mem_heads.1 (List.mem_of_getElem? hx)
        exact (hdom.out _ hy).1
      have hac := accR_succ hx
      have hal := accR_le hsrt.out (k + 1)
      rw [hac, List.length_append, List.length_map] at hal
      have HX := hid hac
      clear hx hac
      go_wp2_with fail
      refine (rel_behind ((HR.out.below (B1.out.trans (HB.out.mono z1)) hhi)) hL x hxd).mono ?_
      rintro e w2 ⟨v2, rfl, h2, b2⟩
      obtain ⟨ar, cr, rfl, hrm⟩ := h2.sl.ex
      have hne : ∀ q, (Value.slice ar (row L x).length cr).ownBlock = some q → (Value.slice ao (accR L k).length co).ownBlock ≠ some q := fun q h3 h4 => by
        have := h2.lt q h3
        have := HO.out.lt q h4
        omega
      have HO2 := hid (HO.out.below b2)
      have R2 := hid h2
      have HN := hid hne
      have HB2 := hid (HB.out.trans (b2.mono hz))
      clear h2 b2 hne HO HB hc
      generalize hm : (row L x).length = m at *
      have Hm := hid hm
      clear hm
      generalize accR L k = A0 at *
      go_wp2_with fail
      go_loopw [3, 23] (fun v i wq => ∃ j : Nat, j ≤ m ∧ i = .int .i64 j ∧ OwnP wq w1.heap.size v (A0 ++ ((row L x).take j).map fun b => (x, b)) ∧ OwnI wq wr.heap.size (.slice ar m cr) (row L x) ∧ (∀ q, (Value.slice ar m cr).ownBlock = some q → v.ownBlock ≠ some q) ∧ Below w1.heap.size w1 wq) (fun _ i _ => m - (intOf i).toNat)
      case atStart => exact ⟨0, by omega, by go_num, by simpa using HO2.out, R2.out, HN.out, HB2.out⟩
      case round =>
        obtain ⟨j, hj, rfl, hO, hR, hN, hB⟩ := hrel
        obtain ⟨aq, cq, rfl, -⟩ := hO.sl.ex
        generalize hAq : A0 ++ ((row L x).take j).map (fun b => (x, b)) = Aq at *
        have HA := hid hAq
        clear hAq
        have HO := hid hO
        have HR2 := hid hR
        have HN := hid hN
        have HB := hid hB
        have hz := hB.size
        clear hO hR hN hB HO2 R2 HB2
        by_cases hlj : j < m
        · obtain ⟨g2, y, rfl, -, hg2, hy, hcy⟩ := OwnI.at HR2.out Hm.out hlj
          have hla : Aq.length ≤ 1000000 := by
            rw [← HA.out, List.length_append, List.length_map, List.length_take]
            omega
          have HT := hid (take_pairs (a := x) hy)
          clear hy
          go_wp2_with (at_builtin; refine wpList_appF rfl _ _ _ rfl _ 16 Try.underlying48 infoP rfl HO.out (x, y) (by first | omega | (simp <;> omega)) (by rfl) (by rfl) (by first | rfl | simp) rfl (pr_one _) (by first | omega | (simp only [List.length_append, List.length_cons, List.length_nil, List.length_replicate]; omega)) (by first | omega | (simp only [List.length_append, List.length_cons, List.length_nil, List.length_replicate]; omega)) ?_; refine Stop.halt ?_)
          refine Stop.go ?_
          intro gn cn wn hn Gn
          have HN2 := hid (fun q (h3 : (Value.slice (some ⟨g2, 0, none⟩) m cr).ownBlock = some q) (h4 : (Value.slice (some ⟨gn, 0, none⟩) (Aq.length + 1) cn).ownBlock = some q) => by
            rcases Gn.own q h4 with h5 | h5
            · exact HN.out q h3 h5
            · have := (HR2.out.lt q h3).2; omega)
          have HR3 := hid (HR2.out.grw Gn HN.out)
          have HO3 := hid hn
          have HB3 := hid (HB.out.trans (Gn.below hz fun q h => (HO.out.lt q h).1))
          clear hn Gn hcy
          go_wp2_with fail
          go_roundw
          case rel => exact ⟨j + 1, by omega, by go_num, by rw [HT.out, ← List.append_assoc, HA.out]; exact HO3.out, HR3.out, HN2.out, HB3.out⟩
          case measure => simp [intOf]; omega
        · obtain rfl : j = m := by omega
          have HE : Hid (A0 ++ (row L x).map (fun b => (x, b)) = Aq) := hid (by rw [← HA.out, ← Hm.out, List.take_length])
          go_wp2_with fail
          go_roundw
          case rel => exact ⟨k + 1, by omega, by go_num, by rw [HX.out, HE.out]; exact HO.out, HB.out⟩
          case measure => simp [intOf]; omega
    · obtain rfl : k = (heads L).length := by omega
      go_wp2
      go_ret
      refine ⟨_, rfl, ?_, B1.out.trans (HB.out.mono z1)⟩
      rw [accR_all hsrt.out] at HO ⊢
      exact HO.out.base z1
end
end Go.Proofs.Ytlmeblhcipkgmaa
