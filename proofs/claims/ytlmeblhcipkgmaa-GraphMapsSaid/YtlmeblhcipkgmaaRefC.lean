/- The document's search along pairs. Conditions: those of each theorem, as typed. -/
import Derived.Test.YtlmeblhcipkgmaaRefB
import Derived.Test.YtlmeblhcipkgmaaRefM
import Derived.Deep.LoopGhost
namespace Go.Proofs.Ytlmeblhcipkgmaa
open Go.RowKit Go.Maps
attribute [local irreducible] wpL

section
variable {w : World} {v : Value}
set_option maxHeartbeats 1000000 in
theorem ref_reach {L : List Pr} (h : LP w v L) (hL : L.length ≤ 1000000) (a : Int) : Calls Try.prog 78 #[v, .int .i64 a] w fun e w' => ∃ v' R, e = .returned v' ∧ OwnI w' w.heap.size v' R ∧ IsReach L a R ∧ Below w.heap.size w w' := by
  obtain ⟨al, cl, n, rfl, hn, hm, h⟩ := LP.open h
  rw [hn] at hL
  have hT : (tails L).length ≤ 1000000 := Nat.le_trans (nodup_le (m := L.map (·.2)) (srt_tails L).nodup fun z hz => by
    obtain ⟨y, hy⟩ := mem_tails.1 hz
    exact List.mem_map.2 ⟨_, hy, rfl⟩) (by rw [List.length_map]; omega)
  have H := hid h
  have HN := hid hn
  clear h hn
  go_enter Try.func78, Try.ntmps78
  go_wp2_with fail
  have h0 := hid (OwnF.lit (f := intC) (e := 3) (sz := 1) w w.heap.size (Nat.le_refl _) [a] intC_len (by simp))
  go_loopg [5, 6, 7] ((tails L).length + 1) (fun g v5 v6 i wr => ∃ (k : Nat) (R T : List Int), i = .int .i64 k ∧ k ≤ T.length ∧ OwnI wr w.heap.size v5 R ∧ OwnI wr w.heap.size v6 T ∧ (∀ q, v5.ownBlock = some q → v6.ownBlock ≠ some q) ∧ RInv L a R T k 0 ∧ Below w.heap.size w wr ∧ (tails L).length + 1 - k ≤ g)
  case atStart => exact ⟨0, [], [a], by go_num, by omega, OwnF.nil _ _, h0.out, fun q h => by simp [Value.ownBlock] at h, RInv.start L a, (Below.refl _ _).alloc (Nat.le_refl _) _, by omega⟩
  case round =>
    obtain ⟨k, R, T, rfl, hk, h5, h6, hd, hI, hB, hg⟩ := hrel
    obtain ⟨a5, c5, rfl, -⟩ := h5.sl.ex
    obtain ⟨a6, c6, rfl, -⟩ := h6.sl.ex
    have hRl := hI.le
    have hTl := hI.len
    have H5 := hid h5
    have H6 := hid h6
    have HD := hid hd
    have HI := hid hI
    have HB := hid hB
    have hTl2 : T.length ≤ 1000001 := by omega
    have HTL := hid hTl
    clear h5 h6 hd hI hB h0 hTl
    generalize hq : T.length = q at *
    have HQ := hid hq
    clear hq
    by_cases hlt : k < q
    · go_wp2_with fail
      go_loopg [5, 6, 8] n (fun g v5 v6 i wq => ∃ (j : Nat) (R T : List Int), i = .int .i64 j ∧ j ≤ n ∧ k < T.length ∧ OwnI wq w.heap.size v5 R ∧ OwnI wq w.heap.size v6 T ∧ (∀ q, v5.ownBlock = some q → v6.ownBlock ≠ some q) ∧ RInv L a R T k j ∧ Below w.heap.size w wq ∧ n - j ≤ g)
      case atStart => exact ⟨0, R, T, by go_num, by omega, by rw [HQ.out]; exact hlt, H5.out, H6.out, HD.out, HI.out, HB.out, by omega⟩
      case round =>
        clear H5 H6 HD HI HB HTL HQ hlt hTl2 hk hRl R
        obtain ⟨j, R, T, rfl, hj, hkT, h5, h6, hd, hI, hB, hgj⟩ := hrel
        obtain ⟨a5, c5, rfl, -⟩ := h5.sl.ex
        obtain ⟨a6, c6, rfl, -⟩ := h6.sl.ex
        have hRl := hI.le
        have hTl := hI.len
        have hTl2 : T.length ≤ 1000001 := by omega
        have H5 := hid h5
        have H6 := hid h6
        have HD := hid hd
        have HI := hid hI
        have HB := hid hB
        have hz := hB.size
        have HTL := hid hTl
        clear h5 h6 hd hI hB hTl
        by_cases hlj : j < n
        · obtain ⟨b, off, x, rfl, hb, hx, c1, c2⟩ := (H.out.below HB.out).pairs hlj HN.out
          obtain ⟨gt, t, rfl, -, hgt, ht, ct⟩ := OwnI.at H6.out rfl hkT
          have HX := hid hx
          have HT := hid ht
          clear hx ht
          by_cases e : x.1 = t
          · have t1 : (x.1 != t) = false := by simpa using e
            have HE := hid e
            clear e
            go_wp2
            refine wp_region_x [0, 0, 0, 0, 1, 0, 0, 0, 1, 0] [0, 1, 2, 3, 4, 5, 6, 7, 8, 9] (by kernel_rfl) (by kernel_rfl) rfl (by kernel_rfl) ?_
            simp only [selX, guardAt, List.getElem?_cons_zero, List.getElem?_cons_succ, List.getD_cons_zero, List.getD_cons_succ]
            repeat (first
              | (refine wpL_p (fun K hK => ?_); go_simp; refine hK _ _ ?_; clear hK K)
              | (refine wpL_r (fun K hK => ?_); apply Exists.intro; refine ⟨fun w2 hw2 => ?_, hK _ _ ?_⟩; (have hk1 := hw2.cell; have hk3 := hw2.heap; clear hw2; go_simp; with_reducible rfl); clear hK K; simp only [Act.put, List.setIfInBounds_toArray, List.set_cons_zero, List.set_cons_succ])
              | (refine wpL_yes rfl rfl ?_)
              | (refine wpL_no rfl rfl (fun K hK => ?_); simp only [Act.put, List.setIfInBounds_toArray, List.set_cons_zero, List.set_cons_succ]; refine hK _ _ ?_; clear hK K)
              | (refine wpL_nil ?_))
            go_wp2_with fail
            have hxt : T[k]? = some x.1 := by rw [HT.out, HE.out]
            have hIs := HI.out.srt
            have HXT := hid hxt
            refine (ref_putInt H5.out.drew.sl hIs (by omega) x.2).mono ?_
            rintro e w2 ⟨v2, rfl, hli, hor, b2⟩
            have hsz : wr.drew.heap.size = wr.heap.size := rfl
            have h52 : OwnI w2 w.heap.size v2 (insI x.2 R) ∧ (∀ q, v2.ownBlock = some q → (Value.slice (some ⟨gt, 0, none⟩) T.length c6).ownBlock ≠ some q) := by
              rcases hor with rfl | h
              · have h1 := H5.out.drew.below b2
                have hin : x.2 ∈ R := by
                  obtain ⟨a9, c9, e9, -⟩ := Sl.ex hli
                  simp only [Value.slice.injEq] at e9
                  have h2 := e9.2.1
                  by_cases h3 : x.2 ∈ R
                  · exact h3
                  · rw [length_insI_new h3] at h2; omega
                rw [insI_of_mem HI.out.srt hin]
                exact ⟨h1, HD.out⟩
              · exact ⟨h.base (by omega), fun q h1 h2 => by
                  have h3 := (h.lt q h1).1
                  have h4 := (H6.out.lt q h2).2
                  omega⟩
            obtain ⟨h52, hd2⟩ := h52
            have B2 := hid (HB.out.drew.trans (b2.mono (by omega)))
            have H62 := hid (H6.out.drew.below b2)
            have c1' : w2.cell? ⟨b, off + j * 2, none⟩ = some (.int .i64 x.1) := cell_below b2 (by omega) c1
            have c2' : w2.cell? ⟨b, off + j * 2 + 1, none⟩ = some (.int .i64 x.2) := cell_below b2 (by omega) c2
            have z2 : w.heap.size ≤ w2.heap.size := B2.out.size
            by_cases hin : x.2 ∈ R
            · rw [insI_of_mem HI.out.srt hin] at h52
              obtain ⟨a8, c8, rfl, -⟩ := h52.sl.ex
              have H52 := hid h52
              have HD2 := hid hd2
              have HI2 := hid (HI.out.old HX.out hxt hin)
              clear h52 hd2 hli hor b2 hin hxt hIs H5 H6 HD HI HB hsz
              go_wp2_with fail
              go_roundg (gk - 1)
              case measure => omega
              case rel => exact ⟨j + 1, R, T, by go_num, by omega, hkT, H52.out, H62.out, HD2.out, HI2.out, B2.out, by omega⟩
            · have hl2 := length_insI_new hin
              obtain ⟨a8, c8, rfl, -⟩ := h52.sl.ex
              have H52 := hid h52
              have HD2 := hid hd2
              have HI2 := hid (HI.out.new HX.out hxt hin)
              rw [hl2] at HD2
              rw [hl2] at H52
              rw [hl2]
              clear h52 hd2 hli hor b2 hin hxt hIs H5 H6 HD HI HB hsz hl2
              go_wp2_with (at_builtin; refine wpList_appF rfl _ _ _ rfl _ 8 Try.underlying23 infoI rfl H62.out x.2 (by first | omega | (simp <;> omega)) (by rfl) (by rfl) (by first | rfl | simp) rfl (in_one _) (by first | omega | (simp only [List.length_append, List.length_cons, List.length_nil, List.length_replicate]; omega)) (by first | omega | (simp only [List.length_append, List.length_cons, List.length_nil, List.length_replicate]; omega)) ?_; refine Stop.halt ?_)
              refine Stop.go ?_
              intro gn cn wn hn Gn
              have H63 := hid hn
              have H53 := hid (H52.out.grw Gn HD2.out)
              have HD3 := hid (fun q (h3 : (Value.slice a8 (R.length + 1) c8).ownBlock = some q) (h4 : (Value.slice (some ⟨gn, 0, none⟩) (T.length + 1) cn).ownBlock = some q) => by
                rcases Gn.own q h4 with h5 | h5
                · exact HD2.out q h3 h5
                · have := (H52.out.lt q h3).2; omega)
              have B3 := hid (B2.out.trans (Gn.below z2 fun q h => (H62.out.lt q h).1))
              clear hn Gn H52 H62 HD2 B2
              go_wp2_with fail
              go_roundg (gk - 1)
              case measure => omega
              case rel => exact ⟨j + 1, _, _, by go_num, by omega, by rw [List.length_append]; omega, H53.out, H63.out, HD3.out, HI2.out, B3.out, by omega⟩
          · have t1 : (x.1 != t) = true := by simpa using e
            have HE := hid e
            clear e
            go_wp2
            refine wp_region_x [0, 0, 0, 0, 1, 0, 0, 0, 1, 0] [0, 1, 2, 3, 4, 5, 6, 7, 8, 9] (by kernel_rfl) (by kernel_rfl) rfl (by kernel_rfl) ?_
            simp only [selX, guardAt, List.getElem?_cons_zero, List.getElem?_cons_succ, List.getD_cons_zero, List.getD_cons_succ]
            repeat (first
              | (refine wpL_p (fun K hK => ?_); go_simp; refine hK _ _ ?_; clear hK K)
              | (refine wpL_r (fun K hK => ?_); apply Exists.intro; refine ⟨fun w2 hw2 => ?_, hK _ _ ?_⟩; (have hk1 := hw2.cell; have hk3 := hw2.heap; clear hw2; go_simp; with_reducible rfl); clear hK K; simp only [Act.put, List.setIfInBounds_toArray, List.set_cons_zero, List.set_cons_succ])
              | (refine wpL_yes rfl rfl ?_)
              | (refine wpL_no rfl rfl (fun K hK => ?_); simp only [Act.put, List.setIfInBounds_toArray, List.set_cons_zero, List.set_cons_succ]; refine hK _ _ ?_; clear hK K)
              | (refine wpL_nil ?_))
            go_wp2_with fail
            go_roundg (gk - 1)
            case measure => omega
            case rel => exact ⟨j + 1, R, T, by go_num, by omega, hkT, H5.out.drew, H6.out.drew, HD.out, HI.out.skip HX.out HT.out HE.out, HB.out.drew, by omega⟩
        · obtain rfl : j = n := by omega
          have hkn : k < (tails L).length + 1 := by have := HTL.out; omega
          go_wp2_with fail
          go_roundg ((tails L).length + 1 - (k + 1))
          case measure => omega
          case rel => exact ⟨k + 1, R, T, by go_num, hkT, H5.out, H6.out, HD.out, HI.out.next (by rw [HN.out]; exact Nat.le_refl _), HB.out, Nat.le_refl _⟩
    · have hr := hid (HI.out.reach (by rw [HQ.out]; omega))
      go_wp2
      go_ret
      exact ⟨_, R, rfl, H5.out, hr.out, HB.out⟩
end
end Go.Proofs.Ytlmeblhcipkgmaa
