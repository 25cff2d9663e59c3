/- What the program's graphs do: Edges. Conditions: those of each theorem, as typed. -/
import Derived.Test.YtlmeblhcipkgmaaGrF
namespace Go.Proofs.Ytlmeblhcipkgmaa
open Go.RowKit Go.Maps
set_option linter.unusedVariables false

def trC (x : Tr) : List Value := [.int .i64 x.1, .int .i64 x.2.1, .int .i64 x.2.2]
theorem trC_len (x : Tr) : (trC x).length = 3 := rfl
theorem tr_one (x : Tr) : ∀ u ∈ trC x, u.oneCell' = true := by intro u hu; simp [trC] at hu; rcases hu with rfl | rfl | rfl <;> rfl
abbrev OwnT := OwnF trC 96 3
theorem infoG : (Try.prog.info? 96).map (fun i => (i.zero, i.size, i.bytes)) = some (some (.agg #[.int .i64 0, .int .i64 0, .int .i64 0]), 3, 24) := by kernel_rfl
theorem Sl.trs {w : World} {B n cap : Nat} {a : Option Addr} {l : List Tr} (h : Sl w B 3 (.slice a n cap) n (l.flatMap trC)) {k : Nat} (hk : k < n) (hl : l.length = n) :
    ∃ b off x, a = some ⟨b, off, none⟩ ∧ b < B ∧ l[k]? = some x ∧ w.cell? ⟨b, off + k * 3, none⟩ = some (.int .i64 x.1) ∧ w.cell? ⟨b, off + k * 3 + 1, none⟩ = some (.int .i64 x.2.1) ∧ w.cell? ⟨b, off + k * 3 + 2, none⟩ = some (.int .i64 x.2.2) := by
  obtain ⟨b, off, x, ha, hb, hx, hc⟩ := h.atF trC_len hl hk
  exact ⟨b, off, x, ha, hb, hx, hc 0 (by omega), hc 1 (by omega), hc 2 (by omega)⟩
theorem OwnT.at {w : World} {B n cap : Nat} {a : Option Addr} {e : TypeId} {l : List Tr} (h : OwnF trC e 3 w B (.slice a n cap) l) (hl : l.length = n) {k : Nat} (hk : k < n) : ∃ g x, a = some ⟨g, 0, none⟩ ∧ B ≤ g ∧ g < w.heap.size ∧ l[k]? = some x ∧ w.cell? ⟨g, k * 3, none⟩ = some (.int .i64 x.1) ∧ w.cell? ⟨g, k * 3 + 1, none⟩ = some (.int .i64 x.2.1) ∧ w.cell? ⟨g, k * 3 + 2, none⟩ = some (.int .i64 x.2.2) := by
  have h0 := h.sl
  rcases h.form with ⟨-, rfl⟩ | ⟨g, cap', e, hB, hg⟩
  · simp at hl; omega
  · simp only [Value.slice.injEq] at e
    obtain ⟨rfl, e2, rfl⟩ := e
    subst hl
    obtain ⟨b, off, x, ha, hb, hx, hc, hd, he⟩ := Sl.trs h0 hk rfl
    simp only [Option.some.injEq, Addr.mk.injEq, and_true] at ha
    obtain ⟨rfl, rfl⟩ := ha
    exact ⟨g, x, rfl, hB, hg, hx, by simpa using hc, by simpa using hd, by simpa using he⟩
theorem flat_step {α β : Type} {l : List α} {f : α → List β} {k : Nat} {x : α} (h : l[k]? = some x) : (l.take (k + 1)).flatMap f = (l.take k).flatMap f ++ f x := by
  rw [List.take_add_one, h]
  simp
theorem flat_le {α β : Type} (l : List α) (f : α → List β) (k : Nat) : ((l.take k).flatMap f).length ≤ (l.flatMap f).length := by
  conv => rhs; rw [← List.take_append_drop k l]
  rw [List.flatMap_append, List.length_append]
  omega
theorem map_step {α β : Type} {l : List α} {f : α → β} {k : Nat} {x : α} (h : l[k]? = some x) : (l.take (k + 1)).map f = (l.take k).map f ++ [f x] := by
  rw [List.take_add_one, h]
  simp
section
variable {w : World} {lo hi p : Nat} {N : List Int} {E : List Tr}
set_option maxHeartbeats 1000000 in
theorem gr_edges (h : GrAt w lo hi p N E) (hhi : hi ≤ w.heap.size) (hN : N.length ≤ 1000000) (hE : E.length ≤ 1000000) : Calls Try.prog 76 #[.pointer (some ⟨p, 0, none⟩)] w fun e w' => ∃ v, e = .returned v ∧ OwnT w' w.heap.size v E ∧ Below w.heap.size w w' := by
  have HG := hid h
  have HOK := hid h.ok
  have HDN := hid h.domN
  clear h
  have hFL := flat_edges HOK.out
  have HFL := hid hFL
  have hle1 := fun k => flat_le N (edgesFrom E) k
  rw [hFL] at hle1
  have HLE := hid hle1
  clear hFL hle1
  go_enter Try.func76, Try.ntmps76
  go_wp2_with fail
  refine (gr_nodes HG.out hN).mono ?_
  rintro e w1 ⟨v, rfl, h1, b1⟩
  obtain ⟨ak, ck, rfl, hkm⟩ := h1.sl.ex
  have K1 := hid h1
  have B1 := hid b1
  have z1 := b1.size
  clear h1 b1
  obtain ⟨nN, hnN⟩ : ∃ n, n = N.length := ⟨_, rfl⟩
  rw [← hnN] at hN hkm K1 ⊢
  have HNN := hid hnN.symm
  clear hnN
  go_wp2_with fail
  go_loopw [3, 13] (fun v i wr => ∃ k : Nat, k ≤ nN ∧ i = .int .i64 k ∧ OwnT wr w1.heap.size v ((N.take k).flatMap (edgesFrom E)) ∧ Below w1.heap.size w1 wr) (fun _ i _ => nN - (intOf i).toNat)
  case atStart => exact ⟨0, by omega, by go_num, OwnF.nil _ _, Below.refl _ _⟩
  case round =>
    obtain ⟨k, hk, rfl, hO, hB⟩ := hrel
    obtain ⟨ao, co, rfl, -⟩ := hO.sl.ex
    have HO := hid hO
    have HB := hid hB
    have hz := hB.size
    clear hO hB
    by_cases hlt : k < nN
    · obtain ⟨g, a, rfl, -, hg, hx, hc⟩ := OwnI.at (K1.out.below HB.out) HNN.out hlt
      have had : dI a := HDN.out a (List.mem_of_getElem? hx)
      have HX := hid (flat_step (f := edgesFrom E) hx)
      have hle2 := HLE.out (k + 1)
      rw [HX.out, List.length_append] at hle2
      clear hx
      generalize (N.take k).flatMap (edgesFrom E) = A0 at *
      go_wp2_with fail
      refine (gr_out (HG.out.below (B1.out.trans (HB.out.mono z1)) hhi) hE a had).mono ?_
      rintro e w2 ⟨v2, rfl, h2, b2⟩
      obtain ⟨ar, cr, rfl, hrm⟩ := h2.sl.ex
      have HO2 := hid (HO.out.below b2)
      have R2 := hid h2
      have HN := hid (fun q (h3 : (Value.slice ar (row (prs E) a).length cr).ownBlock = some q) => (fun h4 => by
        have := h2.lt q h3
        have := HO.out.lt q h4
        omega : (Value.slice ao A0.length co).ownBlock ≠ some q))
      have HB2 := hid (HB.out.trans (b2.mono hz))
      have HRD := hid (fun c (hc : c ∈ row (prs E) a) => HDN.out c (HOK.out.pair (mem_row.1 hc)).2)
      have HRF : Hid ((row (prs E) a).flatMap (edgesAt E a) = edgesFrom E a) := hid rfl
      have hle3 := fun j => flat_le (row (prs E) a) (edgesAt E a) j
      rw [HRF.out] at hle3
      have HLE3 := hid hle3
      clear h2 b2 HO HB hc hle3
      generalize edgesFrom E a = EF at *
      generalize row (prs E) a = R at *
      obtain ⟨m, hm⟩ : ∃ m, m = R.length := ⟨_, rfl⟩
      rw [← hm] at hrm R2 HN ⊢
      have Hm := hid hm.symm
      clear hm
      go_wp2_with fail
      go_loopw [3, 21] (fun v i wq => ∃ j : Nat, j ≤ m ∧ i = .int .i64 j ∧ OwnT wq w1.heap.size v (A0 ++ (R.take j).flatMap (edgesAt E a)) ∧ (∃ B, OwnI wq B (.slice ar m cr) R) ∧ (∀ q, (Value.slice ar m cr).ownBlock = some q → v.ownBlock ≠ some q) ∧ Below w1.heap.size w1 wq) (fun _ i _ => m - (intOf i).toNat)
      case atStart => exact ⟨0, by omega, by go_num, by simpa using HO2.out, ⟨_, R2.out⟩, HN.out, HB2.out⟩
      case round =>
        obtain ⟨j, hj, rfl, hO, ⟨BR, hR⟩, hN2, hB⟩ := hrel
        obtain ⟨aq, cq, rfl, -⟩ := hO.sl.ex
        have hle4 := HLE3.out j
        have hAq : (A0 ++ (R.take j).flatMap (edgesAt E a)).length ≤ 1000000 := by rw [List.length_append]; omega
        have HO := hid hO
        have HR2 := hid hR
        have HN := hid hN2
        have HB := hid hB
        have hz := hB.size
        obtain ⟨Hw, hHw⟩ : ∃ x, x = wr.heap.size := ⟨_, rfl⟩
        clear hO hR hN2 hB HO2 R2 HB2
        by_cases hlj : j < m
        · obtain ⟨g2, c, rfl, -, hg2, hy, hcy⟩ := OwnI.at HR2.out Hm.out hlj
          have hcd : dI c := HRD.out c (List.mem_of_getElem? hy)
          have HT := hid (flat_step (f := edgesAt E a) hy)
          have hle5 := HLE3.out (j + 1)
          rw [HT.out, List.length_append] at hle5
          clear hy
          generalize hAA : A0 ++ (R.take j).flatMap (edgesAt E a) = Aq at *
          have HAA := hid hAA
          clear hAA
          go_wp2_with fail
          refine (gr_kinds (HG.out.below (B1.out.trans (HB.out.mono z1)) hhi) hE a c had hcd).mono ?_
          rintro e w3 ⟨v3, rfl, h3, b3⟩
          obtain ⟨ax, cx, rfl, hsm⟩ := h3.sl.ex
          have HO3 := hid (HO.out.below b3)
          have R3 := hid (HR2.out.below b3)
          have S3 := hid h3
          have HN3 := hid (fun q (h4 : (Value.slice ax (kindsOf E a c).length cx).ownBlock = some q) => (fun h5 => by
            have := h3.lt q h4
            have := HO.out.lt q h5
            omega : (Value.slice aq Aq.length cq).ownBlock ≠ some q))
          have HB3 := hid (HB.out.trans (b3.mono hz))
          have HKF : Hid ((kindsOf E a c).map (fun k => (a, c, k)) = edgesAt E a c) := hid rfl
          have hKL : (kindsOf E a c).length = (edgesAt E a c).length := by unfold edgesAt; rw [List.length_map]
          clear h3 b3 HO HR2 HB hcy
          generalize edgesAt E a c = EA at *
          generalize kindsOf E a c = Kx at *
          obtain ⟨s, hs⟩ : ∃ s, s = Kx.length := ⟨_, rfl⟩
          rw [← hs] at hsm S3 HN3 hKL ⊢
          have Hs := hid hs.symm
          have HKL := hid hKL
          have hAs : Aq.length + s ≤ 2000000 := by omega
          clear hs hKL
          generalize wr.heap.size = H9 at *
          go_wp2_with fail
          go_loopw [3, 30] (fun v i wq => ∃ l : Nat, l ≤ s ∧ i = .int .i64 l ∧ OwnT wq w1.heap.size v (Aq ++ (Kx.take l).map fun k => (a, c, k)) ∧ (∃ B, OwnI wq B (.slice (some ⟨g2, 0, none⟩) m cr) R) ∧ (∃ B, OwnI wq B (.slice ax s cx) Kx) ∧ (∀ q, (Value.slice (some ⟨g2, 0, none⟩) m cr).ownBlock = some q → v.ownBlock ≠ some q) ∧ (∀ q, (Value.slice ax s cx).ownBlock = some q → v.ownBlock ≠ some q) ∧ Below w1.heap.size w1 wq) (fun _ i _ => s - (intOf i).toNat)
          case atStart => exact ⟨0, by omega, by go_num, by simpa using HO3.out, ⟨_, R3.out⟩, ⟨_, S3.out⟩, HN.out, HN3.out, HB3.out⟩
          case round =>
            obtain ⟨l, hl, rfl, hO, ⟨BR2, hR⟩, ⟨BS, hS⟩, hN5, hN6, hB⟩ := hrel
            obtain ⟨an, cn, rfl, -⟩ := hO.sl.ex
            have hAn : (Aq ++ (Kx.take l).map fun k => (a, c, k)).length ≤ 2000000 := by rw [List.length_append, List.length_map, List.length_take]; omega
            generalize hAN : Aq ++ (Kx.take l).map (fun k => (a, c, k)) = An at *
            have HAN := hid hAN
            have HO := hid hO
            have HR := hid hR
            have HS := hid hS
            have HN5 := hid hN5
            have HN6 := hid hN6
            have HB := hid hB
            have hz := hB.size
            clear hAN hO hR hS hN5 hN6 hB HO3 R3 S3 HN HN3 HB3
            by_cases hls : l < s
            · obtain ⟨g3, kk, rfl, -, hg3, hyk, hck⟩ := OwnI.at HS.out Hs.out hls
              have HT2 := hid (map_step (f := fun k => (a, c, k)) hyk)
              clear hyk
              go_wp2_with (at_builtin; refine wpList_appF rfl _ _ _ rfl _ 24 Try.underlying93 infoG rfl HO.out (a, c, kk) hz (by rfl) (by rfl) (by first | rfl | simp) rfl (tr_one _) (by first | omega | (simp only [List.length_append, List.length_cons, List.length_nil, List.length_replicate]; omega)) (by first | omega | (simp only [List.length_append, List.length_cons, List.length_nil, List.length_replicate]; omega)) ?_; refine Stop.halt ?_)
              refine Stop.go ?_
              intro gn cn2 wn hn Gn
              have HR3 := hid (HR.out.grw Gn HN5.out)
              have HS3 := hid (HS.out.grw Gn HN6.out)
              have HN7 := hid (fun q (h3 : (Value.slice (some ⟨g2, 0, none⟩) m cr).ownBlock = some q) => (fun h4 => by
                rcases Gn.own q h4 with h5 | h5
                · exact HN5.out q h3 h5
                · have := (HR.out.lt q h3).2; omega : (Value.slice (some ⟨gn, 0, none⟩) (An.length + 1) cn2).ownBlock ≠ some q))
              have HN8 := hid (fun q (h3 : (Value.slice (some ⟨g3, 0, none⟩) s cx).ownBlock = some q) => (fun h4 => by
                rcases Gn.own q h4 with h5 | h5
                · exact HN6.out q h3 h5
                · have := (HS.out.lt q h3).2; omega : (Value.slice (some ⟨gn, 0, none⟩) (An.length + 1) cn2).ownBlock ≠ some q))
              have HO3 := hid hn
              have HB3 := hid (HB.out.trans (Gn.below hz fun q h => (HO.out.lt q h).1))
              clear hn Gn hck HO HR HS HN5 HN6 HB
              go_wp2_with fail
              go_roundw
              case rel => exact ⟨l + 1, by omega, by go_num, by rw [HT2.out, ← List.append_assoc, HAN.out]; exact HO3.out, ⟨_, HR3.out⟩, ⟨_, HS3.out⟩, HN7.out, HN8.out, HB3.out⟩
              case measure => simp [intOf]; omega
            · obtain rfl : l = s := by omega
              have HE : Hid (Aq ++ EA = An) := hid (by rw [← HAN.out, ← Hs.out, List.take_length, HKF.out])
              go_wp2_with fail
              go_roundw
              case rel => exact ⟨j + 1, by omega, by go_num, by rw [HT.out, ← List.append_assoc, HAA.out, HE.out]; exact HO.out, ⟨_, HR.out⟩, HN5.out, HB.out⟩
              case measure => simp [intOf]; omega
        · obtain rfl : j = m := by omega
          have HE : Hid (A0 ++ EF = A0 ++ (R.take j).flatMap (edgesAt E a)) := hid (by rw [← Hm.out, List.take_length, HRF.out])
          go_wp2_with fail
          go_roundw
          case rel => exact ⟨k + 1, by omega, by go_num, by rw [HX.out, HE.out]; exact HO.out, HB.out⟩
          case measure => simp [intOf]; omega
    · obtain rfl : k = nN := by omega
      go_wp2
      go_ret
      refine ⟨_, rfl, ?_, B1.out.trans (HB.out.mono z1)⟩
      have hE2 : (N.take k).flatMap (edgesFrom E) = E := by rw [List.take_of_length_le (by rw [HNN.out]; exact Nat.le_refl _)]; exact HFL.out
      rw [hE2] at HO ⊢
      exact HO.out.base z1
end
end Go.Proofs.Ytlmeblhcipkgmaa
