/- What the program's graphs do: Parts. Conditions: those of each theorem, as typed. -/
import Derived.Test.YtlmeblhcipkgmaaGrW
import Derived.Test.YtlmeblhcipkgmaaGrQ
namespace Go.Proofs.Ytlmeblhcipkgmaa
open Go.RowKit Go.Maps
set_option linter.unusedVariables false

/-- A list of the call's own without room at its end. -/
def OwnC (w : World) (B : Nat) (v : Value) (l : List Int) : Prop :=
  ∃ g cur, v = .slice (some ⟨g, 0, none⟩) l.length l.length ∧ B ≤ g ∧ w.heap[g]? = some (.cells cur 3 (0, 0)) ∧ l.length ≤ cur.size ∧ l.length ≤ 1000000 ∧ cur.toList.take l.length = l.map (.int .i64)
section
variable {w w' : World} {B B' : Nat} {v : Value} {l : List Int}
theorem OwnC.keep (h : OwnC w B v l) (hk : Keep w w') : OwnC w' B v l := let ⟨g, cur, h1, h2, h3, h4⟩ := h; ⟨g, cur, h1, h2, hk.cells h3, h4⟩
theorem OwnC.base (h : OwnC w B v l) (hB : B' ≤ B) : OwnC w B' v l := let ⟨g, cur, h1, h2, h3, h4⟩ := h; ⟨g, cur, h1, Nat.le_trans hB h2, h3, h4⟩
theorem OwnC.sl (h : OwnC w B v l) : Sl w w.heap.size 1 v l.length (l.flatMap intC) := by
  obtain ⟨g, cur, rfl, h1, h2, h3, h4, h5⟩ := h
  refine ⟨_, _, rfl, by omega, by rw [flat_int]; simp, fun _ => ⟨g, 0, rfl, row_lt h2, fun j u hu => ?_⟩⟩
  rw [flat_int] at hu
  have hj : j < l.length := by have := (List.getElem?_eq_some_iff.1 hu).1; simpa using this
  rw [← h5, List.getElem?_take_of_lt hj] at hu
  rw [row_cell h2]
  simpa using hu
theorem OwnC.grw {f : Value → List Value} {e : TypeId} {sz B2 : Nat} {u u' : Value} {vs : List Value} (h : OwnC w B v l) (ho : OwnF f e sz w B2 u vs) (he : e ≠ 3) (hg : Grw w w' u u') : OwnC w' B v l := by
  obtain ⟨g, cur, h1, h2, h3, h4⟩ := h
  refine ⟨g, cur, h1, h2, row_grw h3 hg fun e2 => ?_, h4⟩
  obtain ⟨cs, hcs⟩ := ho.keepObj g e2
  rw [h3] at hcs
  simp only [Option.some.injEq, Obj.cells.injEq] at hcs
  exact he hcs.2.1.symm
end
theorem clipI {w : World} {g n cap : Nat} (hn : n ≤ cap) (hc : cap ≤ 9223372036854775807) : Calls Try.prog 93 #[.slice (some ⟨g, 0, none⟩) n cap] w fun e w' => e = .returned (.slice (some ⟨g, 0, none⟩) n n) ∧ w = w' := by
  have hn2 : n ≤ 9223372036854775807 := by omega
  go_enter Try.func93, Try.ntmps93
  go_wp2
  go_ret
  exact ⟨rfl, rfl⟩
theorem OwnI.clip {w : World} {B g n cap : Nat} {l : List Int} (h : OwnI w B (.slice (some ⟨g, 0, none⟩) n cap) l) (hn : l.length = n) (hl : n ≤ 1000000) : n ≤ cap ∧ cap ≤ 9223372036854775807 ∧ OwnC w B (.slice (some ⟨g, 0, none⟩) n n) l := by
  subst hn
  obtain ⟨-, h2⟩ := h
  rcases h2 with ⟨h2, -⟩ | ⟨g', cap', cur, hv, hg, hh, hnc, hcm, hs, ht⟩
  · cases h2
  · simp only [Value.slice.injEq, Option.some.injEq, Addr.mk.injEq, and_true, true_and] at hv
    obtain ⟨rfl, rfl⟩ := hv
    rw [flat_int, Nat.mul_one] at ht
    exact ⟨hnc, by unfold maxLen at hcm; omega, g, cur, rfl, hg, hh, by omega, hl, ht⟩
def valC (v : Value) : List Value := [v]
abbrev OwnV := OwnF valC 23 1
theorem valC_len (x : Value) : (valC x).length = 1 := rfl
theorem infoV : (Try.prog.info? 23).map (fun i => (i.zero, i.size, i.bytes)) = some (some (.slice none 0 0), 1, 24) := by kernel_rfl
/-- Each of these values is one of these lists. -/
def Lists (w : World) (B : Nat) (vs : List Value) (Q : List (List Int)) : Prop := vs.length = Q.length ∧ ∀ (i : Nat) (u : Value) (l : List Int), vs[i]? = some u → Q[i]? = some l → OwnC w B u l
theorem Lists.nil (w : World) (B : Nat) : Lists w B [] [] := ⟨rfl, fun i u l h => by simp at h⟩
theorem Lists.keep {w w' : World} {B : Nat} {vs : List Value} {Q : List (List Int)} (h : Lists w B vs Q) (hk : Keep w w') : Lists w' B vs Q := ⟨h.1, fun i u l hu hl => (h.2 i u l hu hl).keep hk⟩
theorem Lists.base {w : World} {B B' : Nat} {vs : List Value} {Q : List (List Int)} (h : Lists w B vs Q) (hB : B' ≤ B) : Lists w B' vs Q := ⟨h.1, fun i u l hu hl => (h.2 i u l hu hl).base hB⟩
theorem Lists.grw {w w' : World} {B : Nat} {vs : List Value} {Q : List (List Int)} (h : Lists w B vs Q) {f : Value → List Value} {e : TypeId} {sz B2 : Nat} {u u' : Value} {us : List Value} (ho : OwnF f e sz w B2 u us) (he : e ≠ 3) (hg : Grw w w' u u') : Lists w' B vs Q := ⟨h.1, fun i u l hu hl => (h.2 i u l hu hl).grw ho he hg⟩
theorem Lists.snoc {w : World} {B : Nat} {vs : List Value} {Q : List (List Int)} (h : Lists w B vs Q) {u : Value} {l : List Int} (hu : OwnC w B u l) : Lists w B (vs ++ [u]) (Q ++ [l]) := by
  refine ⟨by simp [h.1], fun i x y hx hy => ?_⟩
  rcases Nat.lt_trichotomy i vs.length with hl | hl | hl
  · rw [List.getElem?_append_left hl] at hx
    rw [List.getElem?_append_left (by rw [← h.1]; exact hl)] at hy
    exact h.2 i x y hx hy
  · subst hl
    rw [List.getElem?_append_right (Nat.le_refl _)] at hx
    rw [h.1, List.getElem?_append_right (Nat.le_refl _)] at hy
    simp at hx hy
    rw [← hx, ← hy]
    exact hu
  · rw [List.getElem?_eq_none (by simp; omega)] at hx
    cases hx
/-- What is reached from each, in maps of their own. -/
structure Rch (w : World) (P : List Pr) (q B : Nat) (RM : List (Int × Nat)) : Prop where
  map : MapO w q RM
  srt : KSrt RM
  at' : ∀ a u, (a, u) ∈ RM → (u ≠ q ∧ u < B) ∧ ∃ R, MapB w u (units R) ∧ IsReach P a R
theorem Rch.below {w w' : World} {P : List Pr} {q B K : Nat} {RM : List (Int × Nat)} (h : Rch w P q B RM) (hb : Below K w w') (hq : q < K) (hB : B ≤ K) : Rch w' P q B RM :=
  ⟨h.map.below hb hq, h.srt, fun a u hu => let ⟨h1, R, h2, h3⟩ := h.at' a u hu; ⟨h1, R, h2.below hb (by omega), h3⟩⟩
theorem Rch.raise {w : World} {P : List Pr} {q B B' : Nat} {RM : List (Int × Nat)} (h : Rch w P q B RM) (hB : B ≤ B') : Rch w P q B' RM :=
  ⟨h.map, h.srt, fun a u hu => let ⟨h1, h2⟩ := h.at' a u hu; ⟨⟨h1.1, by omega⟩, h2⟩⟩
theorem Rch.next {w w' : World} {P : List Pr} {q B r : Nat} {RM : List (Int × Nat)} (h : Rch w P q B RM) (hi : IterAt w r) (hg : w.grownBy w' (some r)) : Rch w' P q B RM :=
  ⟨h.map.nextK hi hg, h.srt, fun a u hu => let ⟨h1, R, h2, h3⟩ := h.at' a u hu; ⟨h1, R, h2.nextK hi hg, h3⟩⟩
theorem Rch.put {w w' : World} {P : List Pr} {q B : Nat} {RM : List (Int × Nat)} (h : Rch w P q B RM) {x : Int} {u : Nat} (ht : w.mapTurned w' q) (ho : MapO w' q (upd x u RM)) (hu : u ≠ q ∧ u < B) {R : List Int} (hm : MapB w u (units R)) (hr : IsReach P x R) : Rch w' P q B (upd x u RM) := by
  refine ⟨ho, srt_upd h.srt, fun a v hv => ?_⟩
  rcases (mem_upd h.srt).1 hv with e | ⟨hv, -⟩
  · simp only [Prod.mk.injEq] at e
    obtain ⟨rfl, rfl⟩ := e
    exact ⟨hu, R, hm.obj (turned_other ht hu.1), hr⟩
  · obtain ⟨h1, R', h2, h3⟩ := h.at' a v hv
    exact ⟨h1, R', h2.obj (turned_other ht h1.1), h3⟩
/-- reach[a][b] -/
theorem Rch.look {w : World} {P : List Pr} {q B : Nat} {RM : List (Int × Nat)} (h : Rch w P q B RM) (hd : KDom dI RM) {a : Int} {u : Nat} (hu : (a, u) ∈ RM) (ha : dI a) : (Instr.lookup 98 (.map (some q)) (.int .i64 a) false).run Try.prog w = .ok (.map (some u)) w := by
  have := look2 h.map hd ha
  rw [(fnd_some h.srt).2 hu] at this
  exact this
theorem Rch.lookb {w : World} {P : List Pr} {q B : Nat} {RM : List (Int × Nat)} (h : Rch w P q B RM) {a : Int} {u : Nat} (hu : (a, u) ∈ RM) (hP : ∀ x y, Tc P x y → dI y) {c : Int} (hc : dI c) {t : Bool} (ht : t = true ↔ Tc P a c) : (Instr.lookup 110 (.map (some u)) (.int .i64 c) false).run Try.prog w = .ok (.bool t) w := by
  obtain ⟨-, R, h2, h3⟩ := h.at' a u hu
  have := look_bool h2 (fun x hx => hP a x ((h3.2 x).1 hx)) hc
  have e : decide (c ∈ R) = t := by rw [Bool.eq_iff_iff, decide_eq_true_eq, h3.2, ht]
  rw [this, e]
theorem Rch.grw {w w' : World} {P : List Pr} {q B : Nat} {RM : List (Int × Nat)} (h : Rch w P q B RM) {α : Type} {f : α → List Value} {e : TypeId} {sz B2 : Nat} {v v' : Value} {l : List α} (ho : OwnF f e sz w B2 v l) (hg : Grw w w' v v') : Rch w' P q B RM :=
  ⟨h.map.grw ho hg, h.srt, fun a u hu => let ⟨h1, R, h2, h3⟩ := h.at' a u hu; ⟨h1, R, h2.grw ho hg, h3⟩⟩
theorem Rch.turn {w w' : World} {P : List Pr} {q B m : Nat} {RM : List (Int × Nat)} (h : Rch w P q B RM) (ht : w.mapTurned w' m) (hq : q ≠ m) (hB : B ≤ m) : Rch w' P q B RM :=
  ⟨h.map.turn ht hq, h.srt, fun a u hu => let ⟨h1, R, h2, h3⟩ := h.at' a u hu; ⟨h1, R, h2.turn ht (by omega), h3⟩⟩
theorem Rch.made {w : World} {P : List Pr} {q B : Nat} {RM : List (Int × Nat)} (h : Rch w P q B RM) (o : Obj) : Rch (w.alloc o) P q B RM :=
  ⟨h.map.alloc o, h.srt, fun a u hu => let ⟨h1, R, h2, h3⟩ := h.at' a u hu; ⟨h1, R, h2.alloc o, h3⟩⟩
theorem OwnF.grwT {α β : Type} {f : α → List Value} {f' : β → List Value} {e e' : TypeId} {sz sz' : Nat} {w w' : World} {B B' : Nat} {v u u' : Value} {l : List α} {us : List β} (h : OwnF f e sz w B v l) (ho : OwnF f' e' sz' w B' u us) (he : e' ≠ e) (hg : Grw w w' u u') : OwnF f e sz w' B v l := by
  refine h.grw hg fun k hk e2 => ?_
  obtain ⟨c1, h1⟩ := h.keepObj k hk
  obtain ⟨c2, h2⟩ := ho.keepObj k e2
  rw [h1] at h2
  simp only [Option.some.injEq, Obj.cells.injEq] at h2
  exact he h2.2.1.symm

section
variable {w : World} {lo hi p : Nat} {N : List Int} {E : List Tr}
set_option maxRecDepth 100000 in
set_option maxHeartbeats 2000000 in
theorem gr_parts (h : GrAt w lo hi p N E) (hhi : hi ≤ w.heap.size) (hN : N.length ≤ 900000) (hE : E.length ≤ 900000) : Calls Try.prog 48 #[.pointer (some ⟨p, 0, none⟩)] w fun e w' =>
    ∃ v vs Q, e = .returned v ∧ OwnV w' w.heap.size v vs ∧ Lists w' w.heap.size vs Q ∧ Q = partsF (prs E) N ∧ Below w.heap.size w w' := by
  have HG := hid h
  obtain ⟨b, ow, M, A, h⟩ := h
  have hpl := h.hp
  have hbl := h.hb
  have H := hid h
  have hmm := @run_makeMap Try.prog
  have HLM := h.lenM
  have hM : M.length ≤ 900000 := by omega
  have HTD := hid (fun x y (ht : Tc (prs E) x y) => by
    obtain ⟨z, hz⟩ := ht.last
    exact h.domN y (h.ok.pair hz).2 : ∀ x y, Tc (prs E) x y → dI y)
  have HSN := hid h.ok.srtN
  clear h HLM
  go_enter Try.func48, Try.ntmps48
  have hp0 := row_cell (row_old (o := .map #[] 0) H.out.ptr) 0
  have R1 := hid (show Rch (w.alloc (.map #[] 0)) (prs E) w.heap.size (w.heap.size + 1) [] from ⟨IsMapK.made w, List.Pairwise.nil, fun _ _ h => by simp at h⟩)
  have B1 := hid ((Below.refl w.heap.size w).alloc (Nat.le_refl _) (.map #[] 0))
  have G1 := hid (H.out.below B1.out hhi)
  go_wp2_with (at_range; refine Stop.halt ?_)
  refine Stop.go ?_
  refine (G1.out.out).wpList_range keyI H.out.domM H.out.srtM Try.underlying118 rfl rfl (by rfl) ?_
  intro w2 hr2 hg2 hz2
  have hz2' : w.heap.size + 2 ≤ w2.heap.size := by rw [World.size_alloc] at hz2; omega
  have R2 := hid ((show Rch w2 (prs E) w.heap.size (w.heap.size + 1) [] from ⟨R1.out.map.none hg2, List.Pairwise.nil, fun _ _ h => by simp at h⟩).raise (B' := w2.heap.size) (by omega))
  have B2 := hid (below_ranged B1.out hg2 B1.out.size)
  obtain ⟨r1, hr1⟩ : ∃ r1, r1 = (w.alloc (.map #[] 0)).heap.size := ⟨_, rfl⟩
  have hr1' : w.heap.size + 1 ≤ r1 := by rw [hr1, World.size_alloc]; exact Nat.le_refl _
  have hz2' : r1 + 1 ≤ w2.heap.size := by omega
  rw [← hr1] at hr2 ⊢
  have O2 := hid hr2
  clear hr2 hg2 hz2 hr1 R1 B1 G1 hp0
  go_wp2_with fail
  try go_frame
  go_loopg [] M.length (fun k wq => ∃ S RM, RngO wq b r1 M S k ∧ Rch wq (prs E) w.heap.size wq.heap.size RM ∧ (∀ a, (∃ u, (a, u) ∈ RM) ↔ a ∈ N ∧ S a = false) ∧ Below w.heap.size w wq ∧ r1 + 1 ≤ wq.heap.size)
  case atStart => exact ⟨_, [], O2.out, R2.out, fun a => by simp, B2.out, hz2'⟩
  case round =>
    obtain ⟨S, RM, hrg, hR, hK, hB, hz⟩ := hrel
    have O3 := hid hrg
    have R3 := hid hR
    have HK := hid hK
    have B3 := hid hB
    have hRl : RM.length ≤ 900000 := by
      have h1 : (RM.map (·.1)).length ≤ N.length := nodup_le hR.srt.keys.nodup fun z hz => by
        obtain ⟨q, hq, rfl⟩ := List.mem_map.1 hz
        exact ((hK q.1).1 ⟨q.2, hq⟩).1
      rw [List.length_map] at h1
      omega
    have HRD := hid (fun q (hq : q ∈ RM) => H.out.domN _ ((hK q.1).1 ⟨q.2, hq⟩).1 : KDom dI RM)
    clear hrg hR hK hB O2 R2 B2 hz2'
    go_wp2_with (at_next; refine Stop.halt ?_)
    refine Stop.go ?_
    refine O3.out.wpList_next keyI elem_map H.out.domM H.out.srtM rfl rfl (by rfl) ?_ ?_
    · intro hd
      have HKN := hid (fun a (ha : a ∈ N) => by
        refine (HK.out a).2 ⟨ha, ?_⟩
        rw [← H.out.keys] at ha
        obtain ⟨q, hq, rfl⟩ := List.mem_map.1 ha
        exact hd q hq : ∀ a ∈ N, ∃ u, (a, u) ∈ RM)
      clear hd O3 HK hRl
      have M4 := hid ((IsMapK.made wr) : MapB _ _ (units []))
      have R4 := hid (R3.out.made (.map #[] 0))
      have B4 := hid (B3.out.alloc B3.out.size (.map #[] 0))
      clear R3 B3
      go_wp2_with fail
      refine (gr_nodes (HG.out.below B4.out hhi) (by omega)).mono ?_
      rintro e w5 ⟨v5, rfl, h5, b5⟩
      obtain ⟨ak, ck, rfl, hkm⟩ := h5.sl.ex
      obtain ⟨m5, hm5⟩ : ∃ m5, m5 = wr.heap.size := ⟨_, rfl⟩
      have hzm : wr.heap.size + 1 ≤ w5.heap.size := by have := b5.size; rw [World.size_alloc] at this; exact this
      have M5 := hid (M4.out.below b5 M4.out.lt)
      have R5 := hid (R4.out.below b5 (by rw [World.size_alloc]; omega) (by rw [World.size_alloc]; omega))
      have B5 := hid (B4.out.trans (b5.mono B4.out.size))
      have K5 := hid (OwnF.base (B' := w.heap.size) h5 B4.out.size)
      obtain ⟨nN, hnN⟩ : ∃ n, n = N.length := ⟨_, rfl⟩
      rw [← hnN] at hN hkm K5 ⊢
      rw [← hm5] at M5 R5 hzm ⊢
      have hwm : w.heap.size + 2 ≤ m5 := by omega
      have HNN := hid hnN.symm
      have I5 := hid (PInv.start (prs E) N)
      clear h5 b5 hnN hm5 M4 R4 B4 hz
      go_wp2_with fail
      go_loopw [6, 31] (fun v i wq => ∃ (j : Nat) (vs : List Value) (Q : List (List Int)) (Ds : List Int), j ≤ nN ∧ i = .int .i64 j ∧ OwnV wq w.heap.size v vs ∧ Lists wq w.heap.size vs Q ∧ PInv (prs E) N j Q Ds ∧ MapB wq m5 (units Ds) ∧ SrtI Ds ∧ OwnI wq w.heap.size (.slice ak nN ck) N ∧ Rch wq (prs E) w.heap.size m5 RM ∧ Below w.heap.size w wq ∧ m5 + 1 ≤ wq.heap.size) (fun _ i _ => nN - (intOf i).toNat)
      case atStart => exact ⟨0, [], [], [], by omega, by go_num, OwnF.nil _ _, Lists.nil _ _, I5.out, M5.out, List.Pairwise.nil, K5.out, R5.out, B5.out, hzm⟩
      case round =>
        obtain ⟨j, vs, Q, Ds, hj, rfl, hV, hQ, hI, hMD, hSD, hKl, hR, hB, hz⟩ := hrel
        obtain ⟨ao, co, rfl, hom⟩ := hV.sl.ex
        have V6 := hid hV
        have Q6 := hid hQ
        have I6 := hid hI
        have M6 := hid hMD
        have S6 := hid hSD
        have K6 := hid hKl
        have R6 := hid hR
        have B6 := hid hB
        have hvl : vs.length ≤ 900000 := by have := hI.len; have := hQ.1; omega
        have HDd := hid (fun x (hx : x ∈ Ds) => H.out.domN x (hI.sub x hx))
        clear hV hQ hI hMD hSD hKl hR hB M5 K5 R5 B5 I5
        by_cases hlt : j < nN
        · obtain ⟨g, a, rfl, -, hg, hx, hc⟩ := OwnI.at K6.out HNN.out hlt
          have haN := hid (List.mem_of_getElem? hx)
          have had : dI a := H.out.domN a haN.out
          have HX := hid hx
          have lk := look_bool M6.out HDd.out had
          clear hx
          by_cases hin : a ∈ Ds
          · have hd : decide (a ∈ Ds) = true := by simpa using hin
            have I7 := hid (I6.out.skip HX.out hin)
            rw [hd] at lk
            clear hd hin
            go_wp2_with fail
            go_roundw
            case rel => exact ⟨j + 1, vs, Q, Ds, by omega, by go_num, V6.out, Q6.out, I7.out, M6.out, S6.out, K6.out, R6.out, B6.out, hz⟩
            case measure => simp [intOf]; omega
          · have hd : decide (a ∈ Ds) = false := by simpa using hin
            have HIN := hid hin
            rw [hd] at lk
            clear hd hin
            go_wp2_with fail
            refine (gr_nodes (HG.out.below B6.out hhi) (by have := HNN.out; omega)).mono ?_
            rintro e w7 ⟨v7, rfl, h7, b7⟩
            obtain ⟨a7, c7, rfl, hm7⟩ := h7.sl.ex
            rw [HNN.out] at h7 hm7 ⊢
            have K7 := hid h7
            have V7 := hid (V6.out.below b7)
            have Q7 := hid (Q6.out.keep (Keep.of_below b7))
            have M7 := hid (M6.out.below b7 M6.out.lt)
            have N7 := hid (K6.out.below b7)
            have R7 := hid (R6.out.below b7 (by omega) (by omega))
            have B7 := hid (B6.out.trans (b7.mono B6.out.size))
            have hz7 : m5 + 1 ≤ w7.heap.size := Nat.le_trans hz b7.size
            clear h7 b7 V6 Q6 M6 K6 R6 B6 lk hc
            go_wp2_with fail
            go_loopw [9, 41] (fun v9 i wq => ∃ (j2 : Nat) (Ds2 : List Int), j2 ≤ nN ∧ i = .int .i64 j2 ∧ OwnI wq w7.heap.size v9 (partOf (prs E) (N.take j2) a) ∧ MapB wq m5 (units Ds2) ∧ SrtI Ds2 ∧ (∀ x, x ∈ Ds2 ↔ x ∈ Ds ∨ x ∈ partOf (prs E) (N.take j2) a) ∧ Rch wq (prs E) w.heap.size m5 RM ∧ Keep w7 wq ∧ Below w.heap.size w wq) (fun _ i _ => nN - (intOf i).toNat)
            case atStart => exact ⟨0, Ds, by omega, by go_num, OwnF.nil _ _, M7.out, S6.out, fun x => by simp [partOf], R7.out, Keep.refl _, B7.out⟩
            case round =>
              obtain ⟨j2, Ds2, hj2, rfl, hP, hMD, hSD, hD2, hR, hK, hB⟩ := hrel
              obtain ⟨ap, cp, rfl, hpm⟩ := hP.sl.ex
              have hpl2 : (partOf (prs E) (N.take j2) a).length ≤ 900000 := by
                have h1 : (partOf (prs E) (N.take j2) a).length ≤ (N.take j2).length := List.length_filter_le _ _
                rw [List.length_take] at h1
                omega
              have HPE := hid (fun (h : nN ≤ j2) => show partOf (prs E) (N.take j2) a = partOf (prs E) N a by rw [List.take_of_length_le (by rw [HNN.out]; exact h)])
              have P9 := hid hP
              have M9 := hid hMD
              have HSD := hid hSD
              have HD2 := hid hD2
              have R9 := hid hR
              have K9 := hid hK
              have B9 := hid hB
              have zP : w7.heap.size ≤ wr.heap.size := hK.size
              have HDD := hid (fun x (hx : x ∈ Ds2) => by
                rcases (hD2 x).1 hx with h | h
                · exact HDd.out x h
                · exact H.out.domN x (List.mem_of_mem_take (mem_partOf.1 h).1) : ∀ x ∈ Ds2, dI x)
              have hdl : Ds2.length ≤ 900000 := by
                have := nodup_le (m := N) hSD.nodup fun x hx => by
                  rcases (hD2 x).1 hx with h | h
                  · exact I6.out.sub x h
                  · exact List.mem_of_mem_take (mem_partOf.1 h).1
                have := HNN.out
                omega
              clear hP hMD hSD hD2 hR hK hB
              by_cases hlj : j2 < nN
              · obtain ⟨g5, b0, rfl, -, hg5, hyb, hcb⟩ := OwnI.at (K7.out.keepC K9.out) HNN.out hlj
                have HY := hid hyb
                have hbN := hid (List.mem_of_getElem? hyb)
                have hbd : dI b0 := H.out.domN b0 hbN.out
                clear hyb
                obtain ⟨ua, hua⟩ := HKN.out a haN.out
                obtain ⟨ub, hub⟩ := HKN.out b0 hbN.out
                have l1 := R9.out.look HRD.out hua had
                have l3 := R9.out.look HRD.out hub hbd
                have hua2 := hid hua
                have hub2 := hid hub
                clear hua hub
                by_cases e1 : a = b0
                · have q1 : (a == b0) = true := by simpa using e1
                  have HMut := hid (show Mut (prs E) a b0 from .inl e1)
                  clear e1
                  have HPY := hid (partOf_yes (P := prs E) HY.out HMut.out)
                  go_wp2_with (at_builtin; refine wpList_appF rfl _ _ _ rfl _ 8 Try.underlying23 infoI rfl P9.out b0 zP (by rfl) (by rfl) (by first | rfl | simp) rfl (in_one _) (by first | omega | (simp only [List.length_append, List.length_cons, List.length_nil, List.length_replicate]; omega)) (by first | omega | (simp only [List.length_append, List.length_cons, List.length_nil, List.length_replicate]; omega)) ?_; refine Stop.halt ?_)
                  refine Stop.go ?_
                  intro gn cn w8 hn Gn
                  have P10 := hid hn
                  have M10 := hid (M9.out.grw P9.out Gn)
                  have R10 := hid (R9.out.grw P9.out Gn)
                  have B10 := hid (B9.out.trans (Gn.below B9.out.size fun q h => by have := (P9.out.lt q h).1; omega))
                  have K10 := hid (show Keep w7 w8 from ⟨Nat.le_trans K9.out.size Gn.size, fun i o hi ho => (Gn.grown.block i (by have := row_lt hi; omega) fun e => by have := (P9.out.lt i e.symm).1; have := row_lt hi; omega).trans (K9.out.obj i o hi ho)⟩)
                  clear hn Gn P9 M9 R9 B9 K9
                  go_wp2_with (at_mapUpdate; refine Stop.halt ?_)
                  refine Stop.go ?_
                  refine M10.out.wpList_store keyI elem_bool (units_dom HDD.out) (units_srt HSD.out) Try.underlying110 (v := ()) (by rw [units_length]; unfold maxLen; omega) hbd rfl rfl (by rfl) (by rfl) (by rfl) ?_
                  intro w9 h9 t9
                  rw [units_upd] at h9
                  have M11 := hid h9.tight
                  have P11 := hid (P10.out.turn t9)
                  have R11 := hid (R10.out.turn t9 (by omega) (by omega))
                  have K11 := hid (K10.out.trans (Keep.turned t9))
                  have B11 := hid (B10.out.trans (Below.turned t9 (by omega)))
                  clear h9 t9 P10 M10 R10 B10 K10
                  go_wp2_with fail
                  go_roundw
                  case rel => exact ⟨j2 + 1, insI b0 Ds2, by omega, by go_num, by rw [HPY.out]; simpa using P11.out, M11.out, srt_insI HSD.out, fun x => by
                    rw [mem_insI, HD2.out x, HPY.out, List.mem_append, List.mem_singleton]
                    constructor
                    · rintro (h | h | h) <;> simp [h]
                    · rintro (h | h | h) <;> simp [h], R11.out, K11.out, B11.out⟩
                  case measure => simp [intOf]; omega
                · have q1 : (a == b0) = false := by simpa using e1
                  by_cases t1 : Tc (prs E) a b0
                  · have l2 := R9.out.lookb hua2.out HTD.out hbd (t := true) (by simp [t1])
                    by_cases t2 : Tc (prs E) b0 a
                    · have l4 := R9.out.lookb hub2.out HTD.out had (t := true) (by simp [t2])
                      have HMut := hid (show Mut (prs E) a b0 from .inr ⟨t1, t2⟩)
                      clear e1 t1 t2
                      have HPY := hid (partOf_yes (P := prs E) HY.out HMut.out)
                      go_wp2_with (at_builtin; refine wpList_appF rfl _ _ _ rfl _ 8 Try.underlying23 infoI rfl P9.out b0 zP (by rfl) (by rfl) (by first | rfl | simp) rfl (in_one _) (by first | omega | (simp only [List.length_append, List.length_cons, List.length_nil, List.length_replicate]; omega)) (by first | omega | (simp only [List.length_append, List.length_cons, List.length_nil, List.length_replicate]; omega)) ?_; refine Stop.halt ?_)
                      refine Stop.go ?_
                      intro gn cn w8 hn Gn
                      have P10 := hid hn
                      have M10 := hid (M9.out.grw P9.out Gn)
                      have R10 := hid (R9.out.grw P9.out Gn)
                      have B10 := hid (B9.out.trans (Gn.below B9.out.size fun q h => by have := (P9.out.lt q h).1; omega))
                      have K10 := hid (show Keep w7 w8 from ⟨Nat.le_trans K9.out.size Gn.size, fun i o hi ho => (Gn.grown.block i (by have := row_lt hi; omega) fun e => by have := (P9.out.lt i e.symm).1; have := row_lt hi; omega).trans (K9.out.obj i o hi ho)⟩)
                      clear hn Gn P9 M9 R9 B9 K9
                      go_wp2_with (at_mapUpdate; refine Stop.halt ?_)
                      refine Stop.go ?_
                      refine M10.out.wpList_store keyI elem_bool (units_dom HDD.out) (units_srt HSD.out) Try.underlying110 (v := ()) (by rw [units_length]; unfold maxLen; omega) hbd rfl rfl (by rfl) (by rfl) (by rfl) ?_
                      intro w9 h9 t9
                      rw [units_upd] at h9
                      have M11 := hid h9.tight
                      have P11 := hid (P10.out.turn t9)
                      have R11 := hid (R10.out.turn t9 (by omega) (by omega))
                      have K11 := hid (K10.out.trans (Keep.turned t9))
                      have B11 := hid (B10.out.trans (Below.turned t9 (by omega)))
                      clear h9 t9 P10 M10 R10 B10 K10
                      go_wp2_with fail
                      go_roundw
                      case rel => exact ⟨j2 + 1, insI b0 Ds2, by omega, by go_num, by rw [HPY.out]; simpa using P11.out, M11.out, srt_insI HSD.out, fun x => by
                        rw [mem_insI, HD2.out x, HPY.out, List.mem_append, List.mem_singleton]
                        constructor
                        · rintro (h | h | h) <;> simp [h]
                        · rintro (h | h | h) <;> simp [h], R11.out, K11.out, B11.out⟩
                      case measure => simp [intOf]; omega
                    · have l4 := R9.out.lookb hub2.out HTD.out had (t := false) (by simp [t2])
                      have HMut := hid (show ¬ Mut (prs E) a b0 from fun h => by
                        rcases h with h | h
                        · exact e1 h
                        · exact t2 h.2)
                      clear e1 t1 t2
                      have HPY := hid (partOf_no (P := prs E) HY.out HMut.out)
                      go_wp2_with fail
                      go_roundw
                      case rel => exact ⟨j2 + 1, Ds2, by omega, by go_num, by rw [HPY.out]; exact P9.out, M9.out, HSD.out, fun x => by rw [HD2.out x, HPY.out], R9.out, K9.out, B9.out⟩
                      case measure => simp [intOf]; omega
                  · have l2 := R9.out.lookb hua2.out HTD.out hbd (t := false) (by simp [t1])
                    have HMut := hid (show ¬ Mut (prs E) a b0 from fun h => by
                      rcases h with h | h
                      · exact e1 h
                      · exact t1 h.1)
                    clear e1 t1
                    have HPY := hid (partOf_no (P := prs E) HY.out HMut.out)
                    go_wp2_with fail
                    go_roundw
                    case rel => exact ⟨j2 + 1, Ds2, by omega, by go_num, by rw [HPY.out]; exact P9.out, M9.out, HSD.out, fun x => by rw [HD2.out x, HPY.out], R9.out, K9.out, B9.out⟩
                    case measure => simp [intOf]; omega
              · have hpe := HPE.out (by omega)
                rw [hpe] at P9 hpl2 hpm HD2 ⊢
                have hpos : 0 < (partOf (prs E) N a).length := List.length_pos_of_mem (mem_partOf.2 ⟨haN.out, Mut.refl _ a⟩)
                rcases P9.out.form with ⟨-, e⟩ | ⟨gp, cp', e, hgp, hgp2⟩
                · rw [e] at hpos; simp at hpos
                simp only [Value.slice.injEq] at e
                obtain ⟨rfl, -, rfl⟩ := e
                have I7 := hid (I6.out.step HX.out HIN.out HD2.out)
                generalize partOf (prs E) N a = pt at *
                obtain ⟨np, hnp⟩ : ∃ np, np = pt.length := ⟨_, rfl⟩
                rw [← hnp] at P9 hpl2 hpm ⊢
                obtain ⟨hc1, hc2, hcl⟩ := P9.out.clip hnp.symm (by omega)
                have HCL := hid hcl
                have V9 := hid (V7.out.keepC K9.out)
                have Q9 := hid (Q7.out.keep K9.out)
                have N9 := hid (N7.out.keepC K9.out)
                clear hpe hnp hcl hpos V7 Q7 N7 K7 HPE
                go_wp2_with fail
                refine (clipI hc1 hc2).mono ?_
                rintro e w8 ⟨rfl, rfl⟩
                have zw : w.heap.size ≤ wr.heap.size := B9.out.size
                go_wp2_with (at_builtin; refine wpList_appF rfl _ _ _ rfl _ 24 Try.underlying69 infoV rfl V9.out (Value.slice (some ⟨gp, 0, none⟩) np np) zw (by rfl) (by rfl) (by rfl) rfl (by intro u hu; simp [valC] at hu; subst hu; rfl) (by omega) (by omega) ?_; refine Stop.halt ?_)
                refine Stop.go ?_
                intro gn cn w8 hn Gn
                have V10 := hid hn
                have Q10 := hid ((Q9.out.snoc (HCL.out.base (by omega))).grw V9.out (by decide) Gn)
                have M10 := hid (M9.out.grw V9.out Gn)
                have N10 := hid (N9.out.grwT V9.out (by decide) Gn)
                have R10 := hid (R9.out.grw V9.out Gn)
                have B10 := hid (B9.out.trans (Gn.below zw fun q h => (V9.out.lt q h).1))
                have z10 : m5 + 1 ≤ w8.heap.size := by have := Gn.size; omega
                clear hn Gn V9 Q9 M9 N9 R9 B9 HCL P9
                go_wp2_with fail
                go_roundw
                case rel => exact ⟨j + 1, _, _, Ds2, by omega, by go_num, V10.out, Q10.out, I7.out, M10.out, HSD.out, N10.out, R10.out, B10.out, z10⟩
                case measure => simp [intOf]; omega
        · obtain rfl : j = nN := by omega
          have I7 := hid (show PInv (prs E) N N.length Q Ds by rw [HNN.out]; exact I6.out)
          go_wp2
          go_ret
          exact ⟨_, vs, Q, rfl, V6.out, Q6.out, I7.out.done, B6.out⟩
    · intro x u w3 k2 hxm hS hrg2 hlt2 hg2 hz2 hen
      have HSx := hid hS
      have O4 := hid hrg2
      have R4 := hid (R3.out.next O3.out.iterAt hg2)
      have B4 := hid (below_next B3.out hg2 B3.out.size (by omega))
      have hxN := H.out.inN hxm
      have hxd := H.out.domN x hxN
      have HXN := hid hxN
      have hz3 : r1 + 1 ≤ w3.heap.size := by omega
      have hsz : wr.heap.size ≤ w3.heap.size := by omega
      clear hrg2 hg2 hS R3 B3 O3 hz2 hxm hxN
      go_wp2_with fail
      refine (gr_reached (HG.out.below B4.out hhi) (Nat.le_trans hhi B4.out.size) (by omega) x hxd).mono ?_
      rintro e w4 ⟨q2, R, rfl, hq2, hm4, hi4, b4⟩
      have R5 := hid ((R4.out.raise hsz).below b4 (by omega) (Nat.le_refl _))
      have M5 := hid hm4
      have I5 := hid hi4
      have O5 := hid (O4.out.below b4 O4.out.owns.lt O4.out.lt)
      have B5 := hid (B4.out.trans (b4.mono B4.out.size))
      have hq4 : q2 < w4.heap.size := hm4.lt
      have z4 : w3.heap.size ≤ w4.heap.size := b4.size
      clear hm4 hi4 b4 R4 O4 B4
      go_wp2_with (at_mapUpdate; refine Stop.halt ?_)
      refine Stop.go ?_
      refine R5.out.map.wpList_store keyI elem_map HRD.out R5.out.srt Try.underlying98 (v := q2) (by unfold maxLen; omega) hxd rfl rfl (by rfl) (by rfl) (by rfl) ?_
      intro w5 h5 t5
      have z5 := turned_size t5
      have R6 := hid ((R5.out.raise (B' := w5.heap.size) (by omega)).put t5 h5.tight ⟨by omega, by omega⟩ M5.out I5.out)
      have O6 := hid (Rng.turn O5.out t5 (by omega))
      have B6 := hid (B5.out.trans (Below.turned t5 (Nat.le_refl _)))
      have K6 := hid (fun a => by
        rw [keys_upd, HK.out a]
        by_cases e : a = x
        · subst e; simp [HXN.out]
        · have e2 : (a == x) = false := by simpa using e
          simp [e, e2] : ∀ a, (∃ u, (a, u) ∈ upd x q2 RM) ↔ a ∈ N ∧ (S a && !(a == x)) = false)
      have z6 : r1 + 1 ≤ w5.heap.size := by omega
      clear h5 t5 z5 R5 M5 I5 O5 B5 HK
      go_wp2_with fail
      go_roundg k2
      case measure => exact hlt2
      case rel => exact ⟨_, _, O6.out, R6.out, K6.out, B6.out, z6⟩
end
end Go.Proofs.Ytlmeblhcipkgmaa
