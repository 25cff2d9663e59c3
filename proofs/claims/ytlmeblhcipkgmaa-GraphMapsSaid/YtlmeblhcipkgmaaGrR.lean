/- What the program's graphs do: reached, Reach. Conditions: those of each theorem, as typed. -/
import Derived.Test.YtlmeblhcipkgmaaGrG
import Derived.Test.YtlmeblhcipkgmaaQueue
import Derived.Deep.LoopGhost
namespace Go.Proofs.Ytlmeblhcipkgmaa
open Go.RowKit Go.Maps
set_option linter.unusedVariables false

/-- While what a leads to is sought: R is what was found, t the queue. -/
structure SInv (P : List Pr) (a : Int) (R t : List Int) : Prop where
  srt : SrtI R
  tc : ∀ y ∈ R, Tc P a y
  queue : ∀ y ∈ t, Tc P a y
  first : ∀ y, (a, y) ∈ P → y ∈ R ∨ y ∈ t
  step : ∀ y ∈ R, ∀ z, (y, z) ∈ P → z ∈ R ∨ z ∈ t
section
variable {P : List Pr} {a y : Int} {R t : List Int}
theorem SInv.start (P : List Pr) (a : Int) : SInv P a [] (row P a) := ⟨List.Pairwise.nil, fun _ h => by simp at h, fun y hy => .one (mem_row.1 hy), fun y hy => .inr (mem_row.2 hy), fun _ h => by simp at h⟩
theorem SInv.seen (h : SInv P a R (y :: t)) (hy : y ∈ R) : SInv P a R t where
  srt := h.srt
  tc := h.tc
  queue z hz := h.queue z (by simp [hz])
  first z hz := by
    rcases h.first z hz with h1 | h1
    · exact .inl h1
    · rcases List.mem_cons.1 h1 with rfl | h1
      · exact .inl hy
      · exact .inr h1
  step x hx z hz := by
    rcases h.step x hx z hz with h1 | h1
    · exact .inl h1
    · rcases List.mem_cons.1 h1 with rfl | h1
      · exact .inl hy
      · exact .inr h1
theorem SInv.fresh (h : SInv P a R (y :: t)) : SInv P a (insI y R) (t ++ row P y) where
  srt := srt_insI h.srt
  tc x hx := by
    rcases mem_insI.1 hx with rfl | hx
    · exact h.queue x (by simp)
    · exact h.tc x hx
  queue z hz := by
    rcases List.mem_append.1 hz with hz | hz
    · exact h.queue z (by simp [hz])
    · exact (h.queue y (by simp)).more (mem_row.1 hz)
  first z hz := by
    rcases h.first z hz with h1 | h1
    · exact .inl (mem_insI.2 (.inr h1))
    · rcases List.mem_cons.1 h1 with rfl | h1
      · exact .inl (mem_insI.2 (.inl rfl))
      · exact .inr (List.mem_append.2 (.inl h1))
  step x hx z hz := by
    rcases mem_insI.1 hx with rfl | hx
    · exact .inr (List.mem_append.2 (.inr (mem_row.2 hz)))
    · rcases h.step x hx z hz with h1 | h1
      · exact .inl (mem_insI.2 (.inr h1))
      · rcases List.mem_cons.1 h1 with rfl | h1
        · exact .inl (mem_insI.2 (.inl rfl))
        · exact .inr (List.mem_append.2 (.inl h1))
theorem SInv.done (h : SInv P a R []) : IsReach P a R := ⟨h.srt, fun b => ⟨h.tc b, fun hb => hb.closed (O := fun z => z ∈ R) (fun b hb => by simpa using h.first b hb) (fun b hb c hc => by simpa using h.step b hb c hc)⟩⟩
theorem SInv.le (h : SInv P a R t) : R.length ≤ (tails P).length := nodup_le h.srt.nodup fun z hz => (h.tc z hz).ends.2
end
theorem length_tails (P : List Pr) : (tails P).length ≤ P.length := by
  have h : (tails P).length ≤ (P.map (·.2)).length := nodup_le (srt_tails P).nodup fun z hz => by
    obtain ⟨y, hy⟩ := mem_tails.1 hz
    exact List.mem_map.2 ⟨_, hy, rfl⟩
  simpa using h

section
variable {w : World} {lo hi p : Nat} {N : List Int} {E : List Tr}
set_option maxRecDepth 100000 in
set_option maxHeartbeats 400000 in
theorem gr_reached (h : GrAt w lo hi p N E) (hhi : hi ≤ w.heap.size) (hE : E.length ≤ 1000000) (a : Int) (ha : dI a) : Calls Try.prog 92 #[.pointer (some ⟨p, 0, none⟩), .int .i64 a] w fun e w' =>
    ∃ q R, e = .returned (.map (some q)) ∧ w.heap.size ≤ q ∧ MapB w' q (units R) ∧ IsReach (prs E) a R ∧ Below w.heap.size w w' := by
  have HG := hid h
  have HOK := hid h.ok
  have HDN := hid h.domN
  have hmm := @run_makeMap Try.prog
  have hT : (tails (prs E)).length ≤ 1000000 := by
    have h1 := length_tails (prs E)
    have h2 := length_prs E
    omega
  clear h
  go_enter Try.func92, Try.ntmps92
  go_wp2_with fail
  refine (gr_out (HG.out.below ((Below.refl w.heap.size w).alloc (Nat.le_refl _) (.map #[] 0)) hhi) hE a ha).mono ?_
  rintro e w1 ⟨v1, rfl, h1, b1⟩
  have M1 := hid (((IsMapK.made w) : MapB _ _ (units [])).below b1 (by simp))
  have Q1 := hid (OwnQ.of_own (fun _ => rfl) h1)
  have B1 := hid (((Below.refl w.heap.size w).alloc (Nat.le_refl _) (.map #[] 0)).trans (b1.mono (by simp)))
  have z1 := b1.size
  rw [World.size_alloc] at z1
  have hrl := row_tails (m := prs E) (srt_prs E) a fun z hz => mem_tails.2 ⟨a, hz⟩
  have HQ0 : Hid ((row (prs E) a).length ≤ (1 + ([] : List Int).length) * (tails (prs E)).length) := hid (by simpa using hrl)
  have HMS : Hid (((tails (prs E)).length - ([] : List Int).length) * ((tails (prs E)).length + 1) + (row (prs E) a).length ≤ ((tails (prs E)).length - ([] : List Int).length) * ((tails (prs E)).length + 1) + (row (prs E) a).length) := hid (Nat.le_refl _)
  have I1 := hid (SInv.start (prs E) a)
  clear h1 b1 hrl
  rw [World.size_alloc] at Q1
  go_wp2_with fail
  go_loopg [6] (((tails (prs E)).length - ([] : List Int).length) * ((tails (prs E)).length + 1) + (row (prs E) a).length) (fun k v wq => ∃ Rq t, OwnQ (.int .i64) 3 wq (w.heap.size + 1) v t ∧ MapB wq w.heap.size (units Rq) ∧ SInv (prs E) a Rq t ∧
    Below w.heap.size w wq ∧ t.length ≤ (1 + Rq.length) * (tails (prs E)).length ∧ ((tails (prs E)).length - Rq.length) * ((tails (prs E)).length + 1) + t.length ≤ k ∧ w.heap.size + 1 ≤ wq.heap.size)
  case atStart => exact ⟨[], _, Q1.out, M1.out, I1.out, B1.out, HQ0.out, HMS.out, z1⟩
  case round =>
    obtain ⟨Rq, t, hq, hM, hI, hB, hlt, hk, hz⟩ := hrel
    have HM := hid hM
    have HI := hid hI
    have HB := hid hB
    have HLT := hid hlt
    have HK := hid hk
    clear hM hI hB hlt hk Q1 M1 B1 HQ0 HMS I1
    cases t with
    | nil =>
      obtain ⟨at', ct, rfl, -⟩ := hq.ex
      clear hq
      go_wp2
      go_ret
      exact ⟨_, Rq, rfl, Nat.le_refl _, HM.out, HI.out.done, HB.out⟩
    | cons y t =>
      obtain ⟨at', ct, rfl, -⟩ := hq.ex
      obtain ⟨g, off, rfl, hn, hc1, hcm, hg0, hg1, hcell, hp3, hp4⟩ := hq.pop
      obtain ⟨y0, hy0⟩ := (HI.out.queue y (by simp)).last
      have hyd : dI y := HDN.out y (HOK.out.pair hy0).2
      have HDR := hid (fun x (hx : x ∈ Rq) => by
        obtain ⟨y1, hy1⟩ := (HI.out.tc x hx).last
        exact HDN.out x (HOK.out.pair hy1).2 : ∀ x ∈ Rq, dI x)
      have hRl := HI.out.le
      have hyl := row_tails (m := prs E) (srt_prs E) y fun z hz => mem_tails.2 ⟨y, hz⟩
      have HYl := hid hyl
      have hcm2 : ct ≤ 9223372036854775807 := by unfold maxLen at hcm; omega
      have HP3 := hid hp3
      have HP4 := hid hp4
      have lk := look_bool HM.out HDR.out hyd
      simp only [List.length_cons] at HLT HK ⊢
      clear hq hn hy0 hp3 hp4 hcm hyl
      rcases (show ct = 1 ∨ 1 < ct by omega) with rfl | hlc
      · have Q5 := hid (HP4.out rfl)
        clear HP3 HP4
        by_cases hin : y ∈ Rq
        · have hd : decide (y ∈ Rq) = true := by simpa using hin
          have HI2 := hid (HI.out.seen hin)
          rw [hd] at lk
          clear hd hin HI
          go_wp2_with fail
          go_roundg (gk - 1)
          case measure => have := HK.out; omega
          case rel => exact ⟨Rq, t, Q5.out, HM.out, HI2.out, HB.out, by have := HLT.out; omega, by have := HK.out; omega, hz⟩
        · have hd : decide (y ∈ Rq) = false := by simpa using hin
          have HI2 := hid HI.out.fresh
          have hr1 := length_insI_new hin
          have hr2 : Rq.length + 1 ≤ (tails (prs E)).length := by rw [← hr1]; exact HI2.out.le
          have e1 : (1 + (Rq.length + 1)) * (tails (prs E)).length = (1 + Rq.length) * (tails (prs E)).length + (tails (prs E)).length := by rw [show 1 + (Rq.length + 1) = (1 + Rq.length) + 1 from by omega, Nat.add_mul, Nat.one_mul]
          have e2 : ((tails (prs E)).length - Rq.length) * ((tails (prs E)).length + 1) = ((tails (prs E)).length - (Rq.length + 1)) * ((tails (prs E)).length + 1) + ((tails (prs E)).length + 1) := by
            rw [show (tails (prs E)).length - Rq.length = ((tails (prs E)).length - (Rq.length + 1)) + 1 from by omega, Nat.add_mul, Nat.one_mul]
          have hbig : (1 + Rq.length) * (tails (prs E)).length ≤ 1000000 * 1000000 := Nat.mul_le_mul (by omega) hT
          have n1 : t.length + (row (prs E) y).length ≤ (1 + (Rq.length + 1)) * (tails (prs E)).length := by
            have h1 := HLT.out
            have h2 := HYl.out
            rw [e1]
            omega
          have n2 : ((tails (prs E)).length - (Rq.length + 1)) * ((tails (prs E)).length + 1) + (t.length + (row (prs E) y).length) < gk := by
            have h1 := HK.out
            have h2 := HYl.out
            rw [e2] at h1
            omega
          have n3 : t.length + (row (prs E) y).length ≤ 1000001000000 := by
            have h1 := HLT.out
            have h2 := HYl.out
            omega
          rw [← hr1] at n1 n2
          have N1 := hid n1
          have N2 := hid n2
          rw [hd] at lk
          clear hd hin hr1 e1 e2 hbig n1 n2
          go_wp2_with (at_mapUpdate; refine Stop.halt ?_)
          refine Stop.go ?_
          refine HM.out.wpList_store keyI elem_bool (units_dom HDR.out) (units_srt HI.out.srt) Try.underlying110 (v := ()) (by rw [units_length]; unfold maxLen; omega) hyd rfl rfl (by rfl) (by rfl) (by rfl) ?_
          intro w5 h5 t5
          rw [units_upd] at h5
          have M5 := hid h5.tight
          have z5 := turned_size t5
          have Q6 := hid (Q5.out.keep fun k cs hk hh => (turned_other t5 (by have := (Q5.out.lt k hk).1; omega)).trans hh)
          have B5 := hid (HB.out.trans (Below.turned t5 (Nat.le_refl _)))
          clear h5 t5 lk HM HB Q5 HI HDR
          go_wp2_with fail
          refine (gr_out (HG.out.below B5.out hhi) hE y hyd).mono ?_
          rintro e w6 ⟨v6, rfl, h6, b6⟩
          have R6 := hid h6
          have Q7 := hid (Q6.out.below b6)
          have M6 := hid (M5.out.below b6 M5.out.lt)
          have B6 := hid (B5.out.trans (b6.mono B5.out.size))
          have z6 := b6.size
          clear h6 b6 Q6 M5 B5
          go_wp2_with (at_builtin; (refine wpList_appQ rfl _ _ _ rfl _ 8 Try.underlying23 infoI rfl (fun _ => rfl) Q7.out (by omega) (f := intC) (fun _ => rfl) R6.out (by rfl) (by rfl) (by omega) (by omega) ?_); refine Stop.halt ?_)
          refine Stop.go ?_
          intro an cn wn hn Gn
          have M7 := hid (M6.out.obj (Gn.grown.block _ M6.out.lt fun e => by have := Q7.out.lt _ e.symm; omega))
          have B7 := hid (B6.out.trans (Gn.below B6.out.size fun k hk => by have := (Q7.out.lt k hk).1; omega))
          have Q8 := hid hn
          have z8 := Gn.size
          clear hn Gn Q7 M6 B6 R6
          go_wp2_with fail
          go_roundg (((tails (prs E)).length - (insI y Rq).length) * ((tails (prs E)).length + 1) + (t.length + (row (prs E) y).length))
          case measure => exact N2.out
          case rel => exact ⟨_, _, Q8.out, M7.out, HI2.out, B7.out, by rw [List.length_append]; exact N1.out, by rw [List.length_append]; exact Nat.le_refl _, by omega⟩
      · have Q5 := hid (HP3.out hlc)
        clear HP3 HP4
        by_cases hin : y ∈ Rq
        · have hd : decide (y ∈ Rq) = true := by simpa using hin
          have HI2 := hid (HI.out.seen hin)
          rw [hd] at lk
          clear hd hin HI
          go_wp2_with fail
          go_roundg (gk - 1)
          case measure => have := HK.out; omega
          case rel => exact ⟨Rq, t, Q5.out, HM.out, HI2.out, HB.out, by have := HLT.out; omega, by have := HK.out; omega, hz⟩
        · have hd : decide (y ∈ Rq) = false := by simpa using hin
          have HI2 := hid HI.out.fresh
          have hr1 := length_insI_new hin
          have hr2 : Rq.length + 1 ≤ (tails (prs E)).length := by rw [← hr1]; exact HI2.out.le
          have e1 : (1 + (Rq.length + 1)) * (tails (prs E)).length = (1 + Rq.length) * (tails (prs E)).length + (tails (prs E)).length := by rw [show 1 + (Rq.length + 1) = (1 + Rq.length) + 1 from by omega, Nat.add_mul, Nat.one_mul]
          have e2 : ((tails (prs E)).length - Rq.length) * ((tails (prs E)).length + 1) = ((tails (prs E)).length - (Rq.length + 1)) * ((tails (prs E)).length + 1) + ((tails (prs E)).length + 1) := by
            rw [show (tails (prs E)).length - Rq.length = ((tails (prs E)).length - (Rq.length + 1)) + 1 from by omega, Nat.add_mul, Nat.one_mul]
          have hbig : (1 + Rq.length) * (tails (prs E)).length ≤ 1000000 * 1000000 := Nat.mul_le_mul (by omega) hT
          have n1 : t.length + (row (prs E) y).length ≤ (1 + (Rq.length + 1)) * (tails (prs E)).length := by
            have h1 := HLT.out
            have h2 := HYl.out
            rw [e1]
            omega
          have n2 : ((tails (prs E)).length - (Rq.length + 1)) * ((tails (prs E)).length + 1) + (t.length + (row (prs E) y).length) < gk := by
            have h1 := HK.out
            have h2 := HYl.out
            rw [e2] at h1
            omega
          have n3 : t.length + (row (prs E) y).length ≤ 1000001000000 := by
            have h1 := HLT.out
            have h2 := HYl.out
            omega
          rw [← hr1] at n1 n2
          have N1 := hid n1
          have N2 := hid n2
          rw [hd] at lk
          clear hd hin hr1 e1 e2 hbig n1 n2
          go_wp2_with (at_mapUpdate; refine Stop.halt ?_)
          refine Stop.go ?_
          refine HM.out.wpList_store keyI elem_bool (units_dom HDR.out) (units_srt HI.out.srt) Try.underlying110 (v := ()) (by rw [units_length]; unfold maxLen; omega) hyd rfl rfl (by rfl) (by rfl) (by rfl) ?_
          intro w5 h5 t5
          rw [units_upd] at h5
          have M5 := hid h5.tight
          have z5 := turned_size t5
          have Q6 := hid (Q5.out.keep fun k cs hk hh => (turned_other t5 (by have := (Q5.out.lt k hk).1; omega)).trans hh)
          have B5 := hid (HB.out.trans (Below.turned t5 (Nat.le_refl _)))
          clear h5 t5 lk HM HB Q5 HI HDR
          go_wp2_with fail
          refine (gr_out (HG.out.below B5.out hhi) hE y hyd).mono ?_
          rintro e w6 ⟨v6, rfl, h6, b6⟩
          have R6 := hid h6
          have Q7 := hid (Q6.out.below b6)
          have M6 := hid (M5.out.below b6 M5.out.lt)
          have B6 := hid (B5.out.trans (b6.mono B5.out.size))
          have z6 := b6.size
          clear h6 b6 Q6 M5 B5
          go_wp2_with (at_builtin; (refine wpList_appQ rfl _ _ _ rfl _ 8 Try.underlying23 infoI rfl (fun _ => rfl) Q7.out (by omega) (f := intC) (fun _ => rfl) R6.out (by rfl) (by rfl) (by omega) (by omega) ?_); refine Stop.halt ?_)
          refine Stop.go ?_
          intro an cn wn hn Gn
          have M7 := hid (M6.out.obj (Gn.grown.block _ M6.out.lt fun e => by have := Q7.out.lt _ e.symm; omega))
          have B7 := hid (B6.out.trans (Gn.below B6.out.size fun k hk => by have := (Q7.out.lt k hk).1; omega))
          have Q8 := hid hn
          have z8 := Gn.size
          clear hn Gn Q7 M6 B6 R6
          go_wp2_with fail
          go_roundg (((tails (prs E)).length - (insI y Rq).length) * ((tails (prs E)).length + 1) + (t.length + (row (prs E) y).length))
          case measure => exact N2.out
          case rel => exact ⟨_, _, Q8.out, M7.out, HI2.out, B7.out, by rw [List.length_append]; exact N1.out, by rw [List.length_append]; exact Nat.le_refl _, by omega⟩

theorem gr_reach (h : GrAt w lo hi p N E) (hhi : hi ≤ w.heap.size) (hE : E.length ≤ 1000000) (a : Int) (ha : dI a) : Calls Try.prog 53 #[.pointer (some ⟨p, 0, none⟩), .int .i64 a] w fun e w' =>
    ∃ v R, e = .returned v ∧ OwnI w' w.heap.size v R ∧ IsReach (prs E) a R ∧ Below w.heap.size w w' := by
  go_enter Try.func53, Try.ntmps53
  go_wp2_with fail
  refine (gr_reached h hhi hE a ha).mono ?_
  rintro e w1 ⟨q, R, rfl, hq, h1, hr, b1⟩
  have M1 := hid h1
  have HR := hid hr
  have B1 := hid b1
  have z1 := b1.size
  have hRl : R.length ≤ 1000000 := by
    have h1 := length_tails (prs E)
    have h2 := length_prs E
    have h3 : R.length ≤ (tails (prs E)).length := nodup_le hr.1.nodup fun z hz => ((hr.2 z).1 hz).ends.2
    omega
  clear h1 hr b1 h
  go_wp2_with fail
  refine (keysB (some q) _).mono ?_
  rintro e w2 ⟨rfl, rfl⟩
  go_wp2_with fail
  refine (sortedB M1.out (units_srt HR.out.1) (by rw [units_length]; omega)).mono ?_
  rintro e w2 ⟨v, rfl, h1, h2⟩
  rw [units_keys] at h1
  have H1 := hid h1
  have H2 := hid h2
  clear h1 h2
  go_wp2
  go_ret
  exact ⟨v, R, rfl, H1.out.base (by omega), HR.out, B1.out.trans ((((Below.refl _ _).alloc (Nat.le_refl _) _).trans (H2.out.mono (by omega))).mono z1)⟩
end
end Go.Proofs.Ytlmeblhcipkgmaa
