/- What the program's graphs do: Cycle. Conditions: those of each theorem, as typed. -/
import Derived.Test.YtlmeblhcipkgmaaGrX
namespace Go.Proofs.Ytlmeblhcipkgmaa
open Go.RowKit Go.Maps
set_option linter.unusedVariables false

theorem IsFar.fnd {P : List Pr} {k : Int} {F : List (Int × Int)} (h : IsFar P k F) {a d : Int} : fnd a F = some d ↔ ∃ m : Nat, d = m ∧ Dist P k m a := by rw [fnd_some h.srt, h.mem]
theorem IsFar.fnd_none {P : List Pr} {k : Int} {F : List (Int × Int)} (h : IsFar P k F) {a : Int} : Go.Proofs.Ytlmeblhcipkgmaa.fnd a F = none ↔ ¬ Tc P a k := by
  rw [Go.Proofs.Ytlmeblhcipkgmaa.fnd_none, tc_iff_dist]
  constructor
  · rintro hf ⟨m, hm⟩
    exact hf m ((h.mem a m).2 ⟨m, rfl, hm⟩)
  · rintro hf u hu
    obtain ⟨m, -, hm⟩ := (h.mem a u).1 hu
    exact hf ⟨m, hm⟩
theorem row_lt_take {P : List Pr} {x b c : Int} {j : Nat} (hb : (row P x)[j]? = some b) (hP : Srt P) (hc : c < b) (hm : (x, c) ∈ P) : c ∈ (row P x).take j := by
  have hs := srt_row hP x
  obtain ⟨i, hi, e⟩ := List.getElem_of_mem (mem_row.2 hm)
  have hj := (List.getElem?_eq_some_iff.1 hb).1
  have hbj : (row P x)[j] = b := (List.getElem?_eq_some_iff.1 hb).2
  have : i < j := by
    rcases Nat.lt_trichotomy i j with h | h | h
    · exact h
    · subst h; rw [hbj] at e; omega
    · have := List.pairwise_iff_getElem.1 hs j i hj hi h
      rw [hbj, e] at this
      omega
  exact List.mem_iff_getElem?.2 ⟨i, by rw [List.getElem?_take_of_lt this, List.getElem?_eq_getElem hi, e]⟩
section
variable {w : World} {lo hi p : Nat} {N : List Int} {E : List Tr}
set_option maxRecDepth 100000 in
set_option maxHeartbeats 2000000 in
theorem gr_cycle (h : GrAt w lo hi p N E) (hhi : hi ≤ w.heap.size) (hN : N.length ≤ 900000) (hE : E.length ≤ 900000) : Calls Try.prog 47 #[.pointer (some ⟨p, 0, none⟩)] w fun e w' =>
    ∃ v c, e = .returned v ∧ OwnI w' w.heap.size v c ∧ IsCyc (prs E) N c ∧ Below w.heap.size w w' := by
  have HG := hid h
  have HOK := hid h.ok
  have HDN := hid h.domN
  have HPN := hid (fun (x : Pr) (hx : x ∈ prs E) => (h.ok.pair hx).1)
  have HPN2 := hid (fun (x : Pr) (hx : x ∈ prs E) => (h.ok.pair hx).2)
  clear h
  go_enter Try.func47, Try.ntmps47
  go_wp2_with fail
  refine (gr_nodes HG.out (by omega)).mono ?_
  rintro e w1 ⟨v, rfl, h1, b1⟩
  obtain ⟨ak, ck, rfl, hkm⟩ := h1.sl.ex
  have K1 := hid h1
  have B1 := hid b1
  have z1 := b1.size
  clear h1 b1
  obtain ⟨nN, hnN⟩ : ∃ n, n = N.length := ⟨_, rfl⟩
  rw [← hnN] at hN hkm K1 ⊢
  have HNN := hid hnN.symm
  clear hnN
  go_wp2_with fail
  go_loopw [16] (fun i wr => ∃ j : Nat, j ≤ nN ∧ i = .int .i64 j ∧ (∀ x ∈ N.take j, ¬ Tc (prs E) x x) ∧ Below w1.heap.size w1 wr) (fun i _ => nN - (intOf i).toNat)
  case atStart => exact ⟨0, by omega, by go_num, fun x hx => by simp at hx, Below.refl _ _⟩
  case round =>
    obtain ⟨j, hj, rfl, hno, hB⟩ := hrel
    have HNo := hid hno
    have HB := hid hB
    have hz := hB.size
    clear hno hB
    by_cases hlt : j < nN
    · obtain ⟨g, k, rfl, -, hg, hx, hc⟩ := OwnI.at (K1.out.below HB.out) HNN.out hlt
      have hkN := List.mem_of_getElem? hx
      have hkd : dI k := HDN.out k hkN
      have HX := hid hx
      have HKN := hid hkN
      clear hx hkN
      go_wp2_with fail
      refine (gr_far (HG.out.below (B1.out.trans (HB.out.mono z1)) hhi) (Nat.le_trans hhi (Nat.le_trans z1 hz)) (by have := HNN.out; omega) k hkd).mono ?_
      rintro e w2 ⟨f, F, rfl, hf0, hf, hF, b2⟩
      have F2 := hid hf
      have HF := hid hF
      have B2 := hid (HB.out.trans (b2.mono hz))
      have z2 := b2.size
      have HFD := hid (fun q (hq : q ∈ F) => by
        obtain ⟨m, -, hd⟩ := (hF.mem q.1 q.2).1 hq
        obtain ⟨c, hc⟩ := hd.head
        exact HDN.out _ (HPN.out (q.1, c) hc) : KDom dI F)
      clear hf hF b2 HB hc
      have lk := lookOkI F2.out HFD.out hkd rfl
      cases hfk : fnd k F with
      | none =>
        rw [hfk] at lk
        simp only [Option.getD_none, Option.isSome_none] at lk
        have hnk := HF.out.fnd_none.1 hfk
        have HNK := hid (fun x (hx : x ∈ N.take (j + 1)) => by
          rcases (mem_take_step HX.out).1 hx with h | rfl
          · exact HNo.out x h
          · exact hnk : ∀ x ∈ N.take (j + 1), ¬ Tc (prs E) x x)
        clear hfk hnk
        go_wp2_with fail
        go_roundw
        case rel => exact ⟨j + 1, by omega, by go_num, HNK.out, B2.out⟩
        case measure => simp [intOf]; omega
      | some d =>
        rw [hfk] at lk
        simp only [Option.getD_some, Option.isSome_some] at lk
        obtain ⟨m, rfl, hdm⟩ := HF.out.fnd.1 hfk
        have hmN : m ≤ 900000 := by have := hdm.le HPN.out; have := HNN.out; omega
        have hm1 := hdm.1
        have HDM := hid hdm
        have HLeast := hid (fun x (hx : x ∈ N) (hlt : x < k) => by
          have hs := HOK.out.srtN
          obtain ⟨i, hi, e⟩ := List.getElem_of_mem hx
          have hj' := (List.getElem?_eq_some_iff.1 HX.out).1
          have hkj : N[j] = k := (List.getElem?_eq_some_iff.1 HX.out).2
          refine HNo.out x (List.mem_iff_getElem?.2 ⟨i, ?_⟩)
          have hij : i < j := by
            rcases Nat.lt_trichotomy i j with h | h | h
            · exact h
            · subst h; rw [hkj] at e; omega
            · have := List.pairwise_iff_getElem.1 hs j i hj' hi h
              rw [hkj, e] at this
              omega
          rw [List.getElem?_take_of_lt hij, List.getElem?_eq_getElem hi, e] : ∀ x ∈ N, x < k → ¬ Tc (prs E) x x)
        clear hfk hdm
        go_wp2_with fail
        have O2 := hid (OwnF.lit (f := intC) (e := 3) (sz := 1) w2 w2.heap.size (Nat.le_refl _) [k] intC_len (by simp))
        have F3 := hid (F2.out.alloc (.cells ([k].flatMap intC).toArray 3))
        have B3 := hid (B2.out.alloc B2.out.size (.cells ([k].flatMap intC).toArray 3))
        have C2 : Hid (∀ r, Chain (prs E) k m k r → Chain (prs E) k m k ([] ++ r)) := hid (fun r h => h)
        go_loopw [6, 8] (fun nv v wq => ∃ (q : Nat) (l : List Int) (x : Int), 1 ≤ q ∧ q ≤ m ∧ nv = .int .i64 q ∧ (k :: l)[l.length]? = some x ∧ Dist (prs E) k q x ∧ (∀ r, Chain (prs E) k q x r → Chain (prs E) k m k (l ++ r)) ∧ l.length + q = m ∧ OwnI wq w2.heap.size v (k :: l) ∧ MapI wq f F ∧ Below w1.heap.size w1 wq) (fun nv _ _ => (intOf nv).toNat)
        case atStart => exact ⟨m, [], k, hm1, Nat.le_refl _, rfl, rfl, HDM.out, C2.out, by simp, O2.out, F3.out, B3.out⟩
        case round =>
          obtain ⟨q, l, x, hq1, hqm, rfl, hlx, hdx, hch, hlq, hO, hMF, hB⟩ := hrel
          have HLX := hid hlx
          have HDX := hid hdx
          have HCH := hid hch
          have HO := hid hO
          have F4 := hid hMF
          have HB := hid hB
          have hz := hB.size
          obtain ⟨ao, co, rfl, hom⟩ := hO.sl.ex
          clear hlx hdx hch hO hMF hB O2 F3 B3 C2
          by_cases hq2 : 2 ≤ q
          · obtain ⟨nc, hnc⟩ : ∃ nc, nc = (k :: l).length := ⟨_, rfl⟩
            rw [← hnc] at hom HO ⊢
            have hnc2 : nc = l.length + 1 := by rw [hnc]; simp
            have hnc3 : 1 ≤ nc := by omega
            have hncm : nc ≤ 900000 := by omega
            have hl9 : l.length ≤ 900000 := by omega
            obtain ⟨g4, y, rfl, hgB, hg4, hy, hcl⟩ := OwnI.at HO.out hnc.symm (k := nc - 1) (by omega)
            obtain rfl : x = y := by
              rw [show nc - 1 = l.length by omega, HLX.out] at hy
              exact Option.some.inj hy
            have HNC := hid hnc.symm
            have HLQ := hid hlq
            have HNC2 := hid hnc2
            obtain ⟨xb, hxb⟩ := HDX.out.head
            have hxd : dI x := HDN.out x (HPN.out (x, xb) hxb)
            clear hnc hy hxb hlq hnc2
            go_wp2_with fail
            refine (gr_out (HG.out.below (B1.out.trans (HB.out.mono z1)) hhi) (by omega) x hxd).mono ?_
            rintro e w5 ⟨v5, rfl, h5, b5⟩
            obtain ⟨ar, cr, rfl, hrm⟩ := h5.sl.ex
            have H6 := hid (HO.out.below b5)
            have R6 := hid h5
            have F6 := hid (F4.out.below b5 F4.out.lt)
            have HB6 := hid (HB.out.trans (b5.mono hz))
            have HRX : Hid (∀ c, c ∈ row (prs E) x ↔ (x, c) ∈ prs E) := hid (fun c => mem_row)
            have HRL := hid (fun (b c : Int) (j : Nat) (hb : (row (prs E) x)[j]? = some b) (hc : c < b) (hm : (x, c) ∈ prs E) => row_lt_take hb (srt_prs E) hc hm)
            clear h5 b5 HO F4 HB hcl
            generalize row (prs E) x = R at *
            obtain ⟨mR, hmR⟩ : ∃ m, m = R.length := ⟨_, rfl⟩
            rw [← hmR] at hrm R6 ⊢
            have HMR := hid hmR.symm
            clear hmR
            generalize wr.heap.size = H9 at *
            go_wp2_with fail
            go_loopw [8, 46] (fun v i wq => ∃ j2 : Nat, j2 ≤ mR ∧ i = .int .i64 j2 ∧ v = .slice (some ⟨g4, 0, none⟩) nc co ∧ OwnI wq w2.heap.size (.slice (some ⟨g4, 0, none⟩) nc co) (k :: l) ∧ OwnI wq H9 (.slice ar mR cr) R ∧ MapI wq f F ∧ (∀ c ∈ R.take j2, ¬ (c ≠ k ∧ Dist (prs E) k (q - 1) c)) ∧ Below w1.heap.size w1 wq) (fun _ i _ => mR - (intOf i).toNat)
            case atStart => exact ⟨0, by omega, by go_num, rfl, H6.out, R6.out, F6.out, fun c hc => by simp at hc, HB6.out⟩
            case round =>
              obtain ⟨j2, hj2, rfl, rfl, hO, hR, hMF, hM, hB⟩ := hrel
              have H7 := hid hO
              have R7 := hid hR
              have F7 := hid hMF
              have HM := hid hM
              have HB7 := hid hB
              have hz7 := hB.size
              have zb7 : w2.heap.size ≤ wr.heap.size := by have := H7.out.lt g4 rfl; omega
              clear hO hR hMF hM hB H6 R6 F6 HB6
              by_cases hlj : j2 < mR
              · obtain ⟨g5, b0, rfl, -, hg5, hyb, hcb⟩ := OwnI.at R7.out HMR.out hlj
                have HY := hid hyb
                have hxb := hid ((HRX.out b0).1 (List.mem_of_getElem? hyb))
                have hbd : dI b0 := HDN.out b0 (HPN2.out (x, b0) hxb.out)
                clear hyb
                have lk := lookOkI F7.out HFD.out hbd rfl
                cases hfb : fnd b0 F with
                | none =>
                  rw [hfb] at lk
                  simp only [Option.getD_none, Option.isSome_none] at lk
                  have HNB := hid (fun (h : b0 ≠ k ∧ Dist (prs E) k (q - 1) b0) => by
                    exact (HF.out.fnd_none.1 hfb) (tc_iff_dist.2 ⟨_, h.2⟩) : ¬ (b0 ≠ k ∧ Dist (prs E) k (q - 1) b0))
                  clear hfb
                  go_wp2_with fail
                  go_roundw
                  case rel => exact ⟨j2 + 1, by omega, by go_num, rfl, H7.out, R7.out, F7.out, fun c hc => by
                    rcases (mem_take_step HY.out).1 hc with hc | rfl
                    · exact HM.out c hc
                    · exact HNB.out, HB7.out⟩
                  case measure => simp [intOf]; omega
                | some d =>
                  rw [hfb] at lk
                  simp only [Option.getD_some, Option.isSome_some] at lk
                  by_cases e3 : d = (q : Int) - 1
                  · have q3 : (d == (q : Int) - 1) = true := by simpa using e3
                    have HDB := hid (show Dist (prs E) k (q - 1) b0 by
                      obtain ⟨m', e4, hd⟩ := HF.out.fnd.1 hfb
                      obtain rfl : m' = q - 1 := by omega
                      exact hd)
                    clear e3
                    by_cases e1 : b0 = k
                    · have q1 : (b0 != k) = false := by simpa using e1
                      have HNB := hid (fun (h : b0 ≠ k ∧ Dist (prs E) k (q - 1) b0) => by
                        exact h.1 e1 : ¬ (b0 ≠ k ∧ Dist (prs E) k (q - 1) b0))
                      clear hfb e1
                      go_wp2_with fail
                      go_roundw
                      case rel => exact ⟨j2 + 1, by omega, by go_num, rfl, H7.out, R7.out, F7.out, fun c hc => by
                        rcases (mem_take_step HY.out).1 hc with hc | rfl
                        · exact HM.out c hc
                        · exact HNB.out, HB7.out⟩
                      case measure => simp [intOf]; omega
                    · have q1 : (b0 != k) = true := by simpa using e1
                      have HBK := hid e1
                      clear hfb e1
                      go_wp2_with (at_builtin; refine wpList_appF rfl _ _ _ rfl _ 8 Try.underlying23 infoI rfl H7.out b0 zb7 (by rfl) (by rfl) (by first | rfl | simp) rfl (in_one _) (by first | omega | (simp only [List.length_append, List.length_cons, List.length_nil, List.length_replicate]; omega)) (by first | omega | (simp only [List.length_append, List.length_cons, List.length_nil, List.length_replicate]; omega)) ?_; refine Stop.halt ?_)
                      refine Stop.go ?_
                      intro gn cn wn hn Gn
                      have O8 := hid hn
                      have F8 := hid (F7.out.grw H7.out Gn)
                      have B8 := hid (HB7.out.trans (Gn.below hz7 fun q h => by have := (H7.out.lt q h).1; omega))
                      have HCH2 := hid (fun r (hr : Chain (prs E) k (q - 1) b0 r) => by
                        have := HCH.out (b0 :: r) (by
                          obtain ⟨q', rfl⟩ : ∃ q', q = q' + 2 := ⟨q - 2, by omega⟩
                          exact ⟨b0, r, rfl, hxb.out, HBK.out, HDB.out, fun c hc hm hd => HM.out c (HRL.out b0 c j2 HY.out hc hm) hd, hr⟩)
                        simpa using this : ∀ r, Chain (prs E) k (q - 1) b0 r → Chain (prs E) k m k ((l ++ [b0]) ++ r))
                      clear hn Gn H7 F7 HB7 R7 HM
                      go_wp2_with fail
                      go_roundw
                      case rel => exact ⟨q - 1, l ++ [b0], b0, by omega, by omega, by go_num, by simp, HDB.out, HCH2.out, by have := HLQ.out; simp; omega, by simpa using O8.out, F8.out, B8.out⟩
                      case measure => simp [intOf]; omega
                  · have q3 : (d == (q : Int) - 1) = false := by simpa using e3
                    have HNB := hid (fun (h : b0 ≠ k ∧ Dist (prs E) k (q - 1) b0) => by
                      obtain ⟨m', e4, hd⟩ := HF.out.fnd.1 hfb
                      have := hd.uniq h.2
                      omega : ¬ (b0 ≠ k ∧ Dist (prs E) k (q - 1) b0))
                    clear hfb e3
                    go_wp2_with fail
                    go_roundw
                    case rel => exact ⟨j2 + 1, by omega, by go_num, rfl, H7.out, R7.out, F7.out, fun c hc => by
                      rcases (mem_take_step HY.out).1 hc with hc | rfl
                      · exact HM.out c hc
                      · exact HNB.out, HB7.out⟩
                    case measure => simp [intOf]; omega
              · obtain rfl : j2 = mR := by omega
                exfalso
                obtain ⟨q', rfl⟩ : ∃ q', q = q' + 2 := ⟨q - 2, by omega⟩
                obtain ⟨b, hb, hbk, hd⟩ := HDX.out.next (by omega)
                refine HM.out b ?_ ⟨hbk, hd⟩
                rw [← HMR.out, List.take_length]
                exact (HRX.out b).2 hb
          · obtain rfl : q = 1 := by omega
            have HC := hid (HCH.out [] (by unfold Chain; rfl))
            go_wp2
            go_ret
            refine ⟨_, k :: l, rfl, HO.out.base (by omega), .inr ⟨k, m, l, HKN.out, HLeast.out, HDM.out, by simpa using HC.out, rfl⟩, B1.out.trans (HB.out.mono z1)⟩
    · obtain rfl : j = nN := by omega
      have HE : Hid (N.take j = N) := hid (by rw [← HNN.out, List.take_length])
      go_wp2
      go_ret
      exact ⟨_, [], rfl, OwnF.nil _ _, .inl ⟨rfl, fun x hx => HNo.out x (by rw [HE.out]; exact hx)⟩, B1.out.trans (HB.out.mono z1)⟩
end
end Go.Proofs.Ytlmeblhcipkgmaa
