/- What the program's graphs do: Map with a function that gives its argument back. Conditions: those of each theorem, as typed. -/
import Derived.Test.YtlmeblhcipkgmaaGrL
import Derived.Test.YtlmeblhcipkgmaaGrO
namespace Go.Proofs.Ytlmeblhcipkgmaa
open Go.RowKit Go.Maps
set_option linter.unusedVariables false
set_option linter.unusedSimpArgs false
attribute [local irreducible] wpL

/-- Edges, one by one. -/
def gT (l : List Tr) : List Tr := l.foldl (fun E e => insT e E) []
theorem gT_snoc (l : List Tr) (e : Tr) : gT (l ++ [e]) = insT e (gT l) := by simp [gT]
theorem gT_is (l : List Tr) : SrtT (gT l) ∧ (∀ x, x ∈ gT l ↔ x ∈ l) ∧ (gT l).length ≤ l.length := by
  have h : ∀ (l E : List Tr), SrtT E → SrtT (l.foldl (fun E e => insT e E) E) ∧ (∀ x, x ∈ l.foldl (fun E e => insT e E) E ↔ x ∈ l ∨ x ∈ E) ∧ (l.foldl (fun E e => insT e E) E).length ≤ l.length + E.length := by
    intro l
    induction l with
    | nil => intro E h; exact ⟨h, fun x => by simp, by simp⟩
    | cons e l ih =>
      intro E hE
      obtain ⟨h1, h2, h3⟩ := ih (insT e E) (srt_insT hE)
      refine ⟨h1, fun x => ?_, ?_⟩
      · rw [List.foldl_cons, h2, mem_insT, List.mem_cons]
        constructor
        · rintro (h | h | h)
          · exact .inl (.inr h)
          · exact .inl (.inl h)
          · exact .inr h
        · rintro ((h | h) | h)
          · exact .inr (.inl h)
          · exact .inl h
          · exact .inr (.inr h)
      · have := length_insT (p := e) (l := E)
        rw [List.foldl_cons, List.length_cons]
        omega
  obtain ⟨h1, h2, h3⟩ := h l [] List.Pairwise.nil
  exact ⟨h1, fun x => by rw [gT, h2]; simp, by unfold gT; simpa using h3⟩
theorem gT_all {E : List Tr} (h : SrtT E) : gT E = E := SrtT.ext (gT_is E).1 h (gT_is E).2.1
theorem gN_all {N : List Int} (h : SrtI N) : gN [] N = N := by
  have hs : SrtI (gN [] N) := (gN_ok N GrOk.nil).srtN
  have hm : ∀ (nd N : List Int) (x : Int), x ∈ gN N nd ↔ x ∈ nd ∨ x ∈ N := by
    intro nd
    induction nd with
    | nil => intro N x; simp [gN]
    | cons a nd ih =>
      intro N x
      have := ih (insI a N) x
      unfold gN at this ⊢
      rw [List.foldl_cons, this, mem_insI, List.mem_cons]
      constructor
      · rintro (h | h | h)
        · exact .inl (.inr h)
        · exact .inl (.inl h)
        · exact .inr h
      · rintro ((h | h) | h)
        · exact .inr (.inl h)
        · exact .inl h
        · exact .inr (.inr h)
  exact SrtI.ext hs h fun x => by rw [hm]; simp
theorem GrAt.from' {w w' : World} {lo hi p : Nat} {N : List Int} {E : List Tr} (h : GrAt w lo hi p N E) (hs : ∀ k, lo ≤ k → k < hi → w'.heap[k]? = w.heap[k]?) : GrAt w' lo hi p N E := by
  obtain ⟨b, ow, M, A, h⟩ := h
  exact ⟨b, ow, M, A, { h with
    ptr := (hs p h.hp.1 h.hp.2).trans h.ptr
    out := h.out.obj (hs b h.hb.1 h.hb.2)
    inn := fun a u hu => let ⟨h1, h2, h3⟩ := h.inn a u hu; ⟨h1, h2.obj (hs u h1.1 h1.2.1), h3⟩
    leaf := fun a u c v hu hv => let ⟨h1, h2⟩ := h.leaf a u c v hu hv; ⟨h1, h2.obj (hs v h1.1 h1.2.1)⟩ }⟩
theorem gr_id (x : Int) (w : World) : Calls Try.prog 75 #[.int .i64 x] w fun e w' => e = .returned (.int .i64 x) ∧ w = w' := by
  go_enter Try.func75, Try.ntmps75
  go_wp2
  go_ret
  exact ⟨rfl, rfl⟩
section
variable {w : World} {lo hi p : Nat} {N : List Int} {E : List Tr}
set_option maxRecDepth 100000 in
set_option maxHeartbeats 2000000 in
theorem gr_mapId (h : GrAt w lo hi p N E) (hhi : hi ≤ w.heap.size) (hN : N.length ≤ 100000) (hE : E.length ≤ 100000) : Calls Try.prog 70 #[.pointer (some ⟨p, 0, none⟩), .func (.func 75) #[] #[]] w fun e w' =>
    ∃ p', e = .returned (.pointer (some ⟨p', 0, none⟩)) ∧ GrAt w' w.heap.size w'.heap.size p' N E ∧ Below w.heap.size w w' := by
  have HG := hid h
  have HOK := hid h.ok
  have HDN := hid h.domN
  have HDE := hid h.domE
  have hmm := @run_makeMap Try.prog
  clear h
  go_enter Try.func70, Try.ntmps70
  go_wp2_with fail
  have M0 := hid ((IsMapK.made w) : MapI _ _ [])
  have B0 := hid ((Below.refl w.heap.size w).alloc (Nat.le_refl _) (.map #[] 0))
  obtain ⟨w0, hw0⟩ : ∃ w0, w0 = w.alloc (.map #[] 0) := ⟨_, rfl⟩
  have z0 : w.heap.size + 1 ≤ w0.heap.size := by rw [hw0, World.size_alloc]; exact Nat.le_refl _
  rw [← hw0] at M0 B0 ⊢
  clear hw0
  refine (gr_new w0).mono ?_
  rintro e w1 ⟨p1, rfl, g1, b1⟩
  have M1 := hid (M0.out.below b1 (by omega))
  have B1 := hid (B0.out.trans (b1.mono (by omega)))
  have G1 := hid (g1.lower (lo' := w.heap.size + 1) z0)
  have z1 : w.heap.size + 1 ≤ w1.heap.size := Nat.le_trans z0 b1.size
  clear g1 b1 M0 B0
  go_wp2_with fail
  refine (gr_nodes (HG.out.below B1.out hhi) (by omega)).mono ?_
  rintro e w2 ⟨v2, rfl, h2, b2⟩
  obtain ⟨a2, c2, rfl, hm2⟩ := h2.sl.ex
  generalize hnn : N.length = nn at *
  have HNN := hid hnn
  have A2 := hid (show Sl w2 w2.heap.size 1 (.slice a2 nn c2) nn (N.flatMap intC) by have := h2.sl; rw [hnn] at this; exact this)
  have M2 := hid (M1.out.below b2 (by omega))
  have B2 := hid (B1.out.trans (b2.mono (by omega)))
  have G2 := hid ((G1.out.below b2 (Nat.le_refl _)).raise (hi' := w2.heap.size) b2.size)
  have z2 : w.heap.size + 1 ≤ w2.heap.size := Nat.le_trans z1 b2.size
  clear h2 b2 M1 G1 B1 hnn
  go_wp2_with fail
  go_loopw [16] (fun i wr => ∃ (k : Nat) (F : List (Int × Int)), k ≤ nn ∧ i = .int .i64 k ∧ MapI wr w.heap.size F ∧ KSrt F ∧ KDom dI F ∧ F.length ≤ k ∧ (∀ a ∈ N.take k, fnd a F = some a) ∧ GrAt wr (w.heap.size + 1) wr.heap.size p1 (gN [] (N.take k)) [] ∧ Sl wr wr.heap.size 1 (.slice a2 nn c2) nn (N.flatMap intC) ∧ Below w.heap.size w wr ∧ w.heap.size + 1 ≤ wr.heap.size) (fun i _ => nn - (intOf i).toNat)
  case atStart => exact ⟨0, [], by omega, by go_num, M2.out, List.Pairwise.nil, fun q hq => by simp at hq, by simp, fun a ha => by simp at ha, G2.out, A2.out, B2.out, z2⟩
  case round =>
    obtain ⟨k, F, hk, rfl, hM, hFs, hFd, hFl, hFa, hG, hA, hB, hz⟩ := hrel
    have M3 := hid hM
    have HFS := hid hFs
    have HFD := hid hFd
    have HFA := hid hFa
    have G3 := hid hG
    have A3 := hid hA
    have B3 := hid hB
    clear hM hFs hFd hFa hG hA hB M2 G2 A2 B2
    by_cases hlt : k < nn
    · obtain ⟨b, off, x, rfl, hb, hx, c1⟩ := A3.out.ints hlt HNN.out
      have hxd := HDN.out x (List.mem_of_getElem? hx)
      have HX := hid hx
      have HT := hid (take_step hx)
      clear hx
      go_wp2_with fail
      refine (gr_id x wr).mono ?_
      rintro e w3 ⟨rfl, rfl⟩
      go_wp2_with (at_mapUpdate; refine Stop.halt ?_)
      refine Stop.go ?_
      refine M3.out.wpList_store keyI elem_int HFD.out HFS.out Try.underlying117 (v := x) (by unfold maxLen; omega) hxd rfl rfl (by rfl) (by rfl) (by rfl) ?_
      intro w5 h5 t5
      have M5 := hid h5.tight
      have HFS5 := hid (srt_upd (a := x) (v := x) HFS.out)
      have HFD5 := hid (fun q (hq : q ∈ upd x x F) => by
        rcases (mem_upd HFS.out).1 hq with e | ⟨hq, -⟩
        · rw [e]; exact hxd
        · exact HFD.out q hq : KDom dI (upd x x F))
      have hFl5 : (upd x x F).length ≤ k + 1 := Nat.le_trans length_upd_le (by omega)
      have HFX := hid (fnd_upd_same (a := x) (v := x) HFS.out)
      have HFA5 := hid (fun a (ha : a ∈ N.take (k + 1)) => by
        by_cases e : a = x
        · rw [e]; exact HFX.out
        · rw [fnd_upd_other HFS.out e]
          rcases (mem_take_step HX.out).1 ha with h | h
          · exact HFA.out a h
          · exact absurd h e : ∀ a ∈ N.take (k + 1), fnd a (upd x x F) = some a)
      have lk := lookI M5.out HFD5.out hxd
      rw [HFX.out] at lk
      simp only [Option.getD_some] at lk
      have k5 := Keep.turned t5
      have z5 : w.heap.size + 1 ≤ w5.heap.size := Nat.le_trans hz k5.size
      have G5 := hid ((G3.out.from' (w' := w5) (fun q h1 h2 => turned_other t5 (by omega))).raise k5.size)
      have A5 := hid (Sl.up A3.out k5)
      have B5 := hid (B3.out.trans (Below.turned t5 (Nat.le_refl _)))
      have hNl : (gN [] (N.take k)).length ≤ 100000 := by
        have h1 := gN_len [] (N.take k)
        have h2 : (N.take k).length ≤ nn := by rw [List.length_take, HNN.out]; omega
        simp only [List.length_nil] at h1
        omega
      have HGN := hid (gN_snoc [] (N.take k) x)
      clear h5 t5 k5 c1 M3 G3 A3 B3
      go_wp2_with fail
      refine (gr_node G5.out (Nat.le_refl _) (by omega) x hxd).mono ?_
      rintro e w6 ⟨rfl, g6, k6, b6⟩
      have M6 := hid (M5.out.below b6 (by omega))
      have A6 := hid (Sl.up A5.out k6)
      have B6 := hid (B5.out.trans (b6.mono (by omega)))
      have z6 : w.heap.size + 1 ≤ w6.heap.size := Nat.le_trans z5 k6.size
      have G6 := hid g6
      clear g6 k6 b6 lk M5 A5 B5 G5
      go_wp2_with fail
      go_roundw
      case rel => exact ⟨k + 1, upd x x F, by omega, by go_num, M6.out, HFS5.out, HFD5.out, hFl5, HFA5.out, by rw [HT.out, HGN.out]; exact G6.out, A6.out, B6.out, z6⟩
      case measure => simp [intOf]; omega
    · obtain rfl : k = nn := by omega
      have HTN := hid (show N.take k = N by rw [← HNN.out, List.take_length])
      rw [HTN.out, gN_all HOK.out.srtN] at G3
      rw [HTN.out] at HFA
      clear A3
      go_wp2_with fail
      refine (gr_edges (HG.out.below B3.out hhi) (by omega) (by rw [HNN.out]; omega) (by omega)).mono ?_
      rintro e w6 ⟨v6, rfl, h6, b6⟩
      obtain ⟨a6, c6, rfl, hm6⟩ := h6.sl.ex
      generalize hen : E.length = en at *
      have HEN := hid hen
      have A6 := hid (show Sl w6 w6.heap.size 3 (.slice a6 en c6) en (E.flatMap trC) by have := h6.sl; rw [hen] at this; exact this)
      have M6 := hid (M3.out.below b6 (by omega))
      have G6 := hid ((G3.out.below b6 (Nat.le_refl _)).raise (hi' := w6.heap.size) b6.size)
      have B6 := hid (B3.out.trans (b6.mono (by omega)))
      have z6 : w.heap.size + 1 ≤ w6.heap.size := Nat.le_trans hz b6.size
      clear h6 b6 M3 G3 B3 hen
      go_wp2_with fail
      go_loopw [34] (fun i wr => ∃ j : Nat, j ≤ en ∧ i = .int .i64 j ∧ MapI wr w.heap.size F ∧ GrAt wr (w.heap.size + 1) wr.heap.size p1 N (gT (E.take j)) ∧ Sl wr wr.heap.size 3 (.slice a6 en c6) en (E.flatMap trC) ∧ Below w.heap.size w wr ∧ w.heap.size + 1 ≤ wr.heap.size) (fun i _ => en - (intOf i).toNat)
      case atStart => exact ⟨0, by omega, by go_num, M6.out, G6.out, A6.out, B6.out, z6⟩
      case round =>
        obtain ⟨j, hj, rfl, hM, hG, hA, hB, hz⟩ := hrel
        have M7 := hid hM
        have G7 := hid hG
        have A7 := hid hA
        have B7 := hid hB
        clear hM hG hA hB M6 G6 A6 B6 z6
        by_cases hje : j < en
        · obtain ⟨b, off, x, rfl, hb, hx, c1, c2, c3⟩ := A7.out.trs hje HEN.out
          have hxE := List.mem_of_getElem? hx
          have hx1 := (HOK.out.sub x hxE).1
          have hx2 := (HOK.out.sub x hxE).2
          have hd1 := HDN.out _ hx1
          have hd2 := HDN.out _ hx2
          have hd3 := HDE.out x hxE
          have HT := hid (take_step hx)
          have HGT := hid (gT_snoc (E.take j) x)
          have hGl : (gT (E.take j)).length ≤ 100000 := by
            have h1 := (gT_is (E.take j)).2.2
            rw [List.length_take, HEN.out] at h1
            omega
          have HIN := hid (show insI x.2.1 (insI x.1 N) = N by rw [insI_of_mem HOK.out.srtN hx1, insI_of_mem HOK.out.srtN hx2])
          have lk1 := lookI (M7.out.alloc (.cells #[.int .i64 x.1, .int .i64 x.2.1, .int .i64 x.2.2] 96)) HFD.out hd1
          have lk2 := lookI (M7.out.alloc (.cells #[.int .i64 x.1, .int .i64 x.2.1, .int .i64 x.2.2] 96)) HFD.out hd2
          rw [HFA.out _ hx1] at lk1
          rw [HFA.out _ hx2] at lk2
          simp only [Option.getD_some] at lk1 lk2
          have HX12 := hid hx1
          clear hx hxE hx1 hx2
          go_wp2_with fail
          have ba := (Below.refl wr.heap.size wr).alloc (Nat.le_refl _) (.cells #[.int .i64 x.1, .int .i64 x.2.1, .int .i64 x.2.2] 96)
          have G8 := hid ((G7.out.below ba (Nat.le_refl _)).raise ba.size)
          have A8 := hid (Sl.up A7.out (Keep.of_below ba))
          have M8 := hid (M7.out.below ba (by omega))
          have B8 := hid (B7.out.trans (ba.mono (by omega)))
          have z8 : w.heap.size + 1 ≤ (wr.alloc (.cells #[.int .i64 x.1, .int .i64 x.2.1, .int .i64 x.2.2] 96)).heap.size := Nat.le_trans hz ba.size
          clear ba lk1 lk2 c1 c2 c3 M7 G7 A7 B7
          refine (gr_edge G8.out (Nat.le_refl _) (by rw [HNN.out]; omega) (by omega) x.1 x.2.1 x.2.2 hd1 hd2 hd3).mono ?_
          rintro e w9 ⟨rfl, g9, k9, b9⟩
          have M9 := hid (M8.out.below b9 (by omega))
          have A9 := hid (Sl.up A8.out k9)
          have B9 := hid (B8.out.trans (b9.mono (by omega)))
          have z9 : w.heap.size + 1 ≤ w9.heap.size := Nat.le_trans z8 k9.size
          rw [HIN.out] at g9
          have G9 := hid g9
          clear g9 k9 b9 M8 A8 B8 G8 z8
          go_wp2_with fail
          go_roundw
          case rel => exact ⟨j + 1, by omega, by go_num, M9.out, by rw [HT.out, HGT.out]; exact G9.out, A9.out, B9.out, z9⟩
          case measure => simp [intOf]; omega
        · obtain rfl : j = en := by omega
          have HTE := hid (show E.take j = E by rw [← HEN.out, List.take_length])
          rw [HTE.out, gT_all HOK.out.srtE] at G7
          go_wp2
          go_ret
          exact ⟨p1, rfl, G7.out.lower (by omega), B7.out⟩
end
end Go.Proofs.Ytlmeblhcipkgmaa
