/- The document's samples torn, early, plain: what each answers, in memory of its own. Conditions: those of each theorem, as typed. -/
import Derived.Test.YtcombolmacokbaaRef22
namespace Go.Proofs.Ytcombolmacokbaa
open Go.RowKit

def tornO : List Ob := [⟨1, 0⟩, ⟨1, 0⟩]
def tornE : List Ev := [⟨1, 2, 1, 0, 0, 0, 0, 0⟩, ⟨2, 2, 0, 0, 1, 0, 0, 0⟩, ⟨3, 2, 0, 0, 0, 0, 0, 3⟩, ⟨1, 1, 0, 0, 0, 0, 0, 0⟩, ⟨2, 1, 0, 0, 2, 0, 1, 0⟩, ⟨3, 1, 0, 0, 0, 0, 0, 1⟩, ⟨2, 1, 0, 1, 2, 0, 1, 0⟩, ⟨3, 1, 0, 0, 0, 0, 0, 1⟩, ⟨4, 1, 0, 0, 0, 0, 0, 0⟩, ⟨5, 1, 0, 0, 0, 0, 0, 0⟩, ⟨2, 2, 0, 1, 1, 0, 0, 0⟩, ⟨3, 2, 0, 0, 0, 0, 1, 3⟩, ⟨7, 2, 0, 0, 0, 0, 0, 0⟩, ⟨6, 2, 0, 0, 0, 0, 0, 0⟩]
def earlyO : List Ob := [⟨1, 0⟩]
def earlyE : List Ev := [⟨1, 1, 0, 0, 0, 0, 0, 0⟩, ⟨2, 1, 0, 0, 2, 0, 1, 0⟩, ⟨3, 1, 0, 0, 0, 0, 0, 1⟩, ⟨1, 2, 1, 0, 0, 0, 0, 0⟩, ⟨2, 2, 0, 0, 1, 0, 0, 0⟩, ⟨3, 2, 0, 0, 0, 0, 1, 3⟩, ⟨4, 1, 0, 0, 0, 0, 0, 0⟩, ⟨5, 1, 0, 0, 0, 0, 0, 0⟩, ⟨4, 2, 0, 0, 0, 0, 0, 0⟩, ⟨5, 2, 0, 0, 0, 0, 0, 0⟩]
def plainO : List Ob := [⟨1, 5⟩, ⟨2, 0⟩, ⟨3, 0⟩, ⟨4, 0⟩]
def plainE : List Ev := [⟨1, 1, 0, 0, 0, 0, 0, 0⟩, ⟨2, 1, 0, 0, 1, 0, 0, 0⟩, ⟨3, 1, 0, 0, 0, 0, 5, 3⟩, ⟨2, 1, 0, 1, 3, 0, 2, 0⟩, ⟨3, 1, 0, 0, 0, 0, 0, 1⟩, ⟨2, 1, 0, 2, 5, 0, 7, 0⟩, ⟨3, 1, 0, 0, 0, 0, 0, 1⟩, ⟨2, 1, 0, 3, 7, 1, 3, 0⟩, ⟨3, 1, 0, 0, 0, 0, 0, 1⟩, ⟨4, 1, 0, 0, 0, 0, 0, 0⟩, ⟨5, 1, 0, 0, 0, 0, 0, 0⟩, ⟨1, 2, 1, 0, 0, 0, 0, 0⟩, ⟨2, 2, 0, 0, 1, 0, 0, 0⟩, ⟨3, 2, 0, 0, 0, 0, 5, 3⟩, ⟨2, 2, 0, 1, 4, 0, 0, 0⟩, ⟨3, 2, 0, 0, 0, 0, 2, 3⟩, ⟨2, 2, 0, 2, 6, 0, 0, 0⟩, ⟨3, 2, 0, 0, 0, 0, 7, 3⟩, ⟨2, 2, 0, 2, 6, 0, 0, 0⟩, ⟨3, 2, 0, 0, 0, 0, 0, 2⟩, ⟨2, 2, 0, 3, 8, 1, 0, 0⟩, ⟨3, 2, 0, 0, 0, 0, 3, 3⟩, ⟨2, 2, 0, 3, 9, 1, 0, 0⟩, ⟨3, 2, 0, 0, 0, 0, 3, 3⟩, ⟨4, 2, 0, 0, 0, 0, 0, 0⟩]

theorem r_torn (w : World) : Calls Try.prog 31 #[] w (RetH w tornO tornE) := by
  go_enter Try.func31, Try.ntmps31
  go_wp2_with fail
  have hz : w.heap.size + 1 ≤ (w.alloc (.cells #[.slice none 0 0, .slice none 0 0] 28)).heap.size := by simp
  have hr0 := row_new w (.cells #[.slice none 0 0, .slice none 0 0] 28)
  refine (r_begin (w.heap.size + 1) _ [] 2 1 _ (OwnF.nil _ _) hz (by simp)).mono ?_
  rintro e w1 ⟨v1, rfl, h1, G1⟩
  go_wp2_with fail
  refine (r_read (w.heap.size + 1) _ _ 2 0 0 _ h1 (Nat.le_trans hz G1.size) (by simp)).mono ?_
  rintro e w2 ⟨v2, rfl, h2, g2⟩
  have G2 := G1.trans g2
  go_wp2_with fail
  refine (r_begin (w.heap.size + 1) _ _ 1 0 _ h2 (Nat.le_trans hz G2.size) (by simp)).mono ?_
  rintro e w3 ⟨v3, rfl, h3, g3⟩
  have G3 := G2.trans g3
  go_wp2_with fail
  refine (r_write (w.heap.size + 1) _ _ 1 0 1 _ h3 (Nat.le_trans hz G3.size) (by simp)).mono ?_
  rintro e w4 ⟨v4, rfl, h4, g4⟩
  have G4 := G3.trans g4
  go_wp2_with fail
  refine (r_write (w.heap.size + 1) _ _ 1 1 1 _ h4 (Nat.le_trans hz G4.size) (by simp)).mono ?_
  rintro e w5 ⟨v5, rfl, h5, g5⟩
  have G5 := G4.trans g5
  go_wp2_with fail
  refine (r_commit (w.heap.size + 1) _ _ 1 _ h5 (Nat.le_trans hz G5.size) (by simp)).mono ?_
  rintro e w6 ⟨v6, rfl, h6, g6⟩
  have G6 := G5.trans g6
  go_wp2_with fail
  refine (r_read (w.heap.size + 1) _ _ 2 1 1 _ h6 (Nat.le_trans hz G6.size) (by simp)).mono ?_
  rintro e w7 ⟨v7, rfl, h7, g7⟩
  have G7 := G6.trans g7
  have hz7 := Nat.le_trans hz G7.size
  go_wp2_with (at_builtin; refine wpList_appFs (m := 2) rfl _ _ _ rfl _ 64 Try.underlying26 infoE rfl h7 [⟨7, 2, 0, 0, 0, 0, 0, 0⟩, ⟨6, 2, 0, 0, 0, 0, 0, 0⟩] rfl (by omega) hz7 (by rfl) (by rfl) rfl Ev.len ev_one (by simp) (by simp) ?_; intro g8 k8 w8 h8 g8'; have G8 := G7.trans g8')
  refine (r_registers 2 (by omega) _).mono ?_
  rintro e w9 ⟨v9, rfl, h9, g9⟩
  have hrf := row_below (row_grw hr0 G8 (by simp [Value.ownBlock])) g9 (by have := G8.size; simp at this; omega)
  have hb : Below w.heap.size w w9 := (((Below.refl _ _).alloc (Nat.le_refl _) _).trans (G8.below (by simp) (by simp [Value.ownBlock]))).trans (g9.mono (by have := G8.size; simp at this; omega))
  have ho := h9.base (B' := w.heap.size + 1) (by have := G8.size; simp at this; omega)
  have he := OwnF.below h8 g9
  clear G8 g8' h8 h9 g9 hz7
  have c0 := row_cell hrf 0
  have c1 := row_cell hrf 1
  have f0 := row_free hrf 0
  have f1 := row_free hrf 1
  have HB := hid hb
  have HR := hid hrf
  have HO : Hid (OwnO w9 (w.heap.size + 1) v9 tornO) := hid ho
  have HE : Hid (OwnE w9 (w.heap.size + 1) (.slice (some ⟨g8, 0, none⟩) 14 k8) tornE) := hid he
  clear hb hrf ho he hr0 G1 h1 G2 h2 G3 h3 G4 h4 G5 h5 G6 h6 G7 h7 g2 g3 g4 g5 g6 g7
  obtain ⟨a2, k2, n2, e2⟩ : ∃ a c n, v9 = .slice a n c := by
    rcases HO.out.form with ⟨e, _⟩ | ⟨g, c, e, _⟩ <;> exact ⟨_, _, _, e⟩
  subst e2
  go_wp2
  exact bodyPost_ret (v := .agg #[.slice a2 n2 k2, .slice (some ⟨g8, 0, none⟩) 14 k8]) (by simp [results, Try.results31, go_sem, c0, c1]) rfl (resH _ w w9 HB.out HR.out HO.out HE.out)

theorem r_early (w : World) : Calls Try.prog 32 #[] w (RetH w earlyO earlyE) := by
  go_enter Try.func32, Try.ntmps32
  go_wp2_with fail
  have hz : w.heap.size + 1 ≤ (w.alloc (.cells #[.slice none 0 0, .slice none 0 0] 28)).heap.size := by simp
  have hr0 := row_new w (.cells #[.slice none 0 0, .slice none 0 0] 28)
  refine (r_begin (w.heap.size + 1) _ [] 1 0 _ (OwnF.nil _ _) hz (by simp)).mono ?_
  rintro e w1 ⟨v1, rfl, h1, G1⟩
  go_wp2_with fail
  refine (r_write (w.heap.size + 1) _ _ 1 0 1 _ h1 (Nat.le_trans hz G1.size) (by simp)).mono ?_
  rintro e w2 ⟨v2, rfl, h2, g2⟩
  have G2 := G1.trans g2
  go_wp2_with fail
  refine (r_begin (w.heap.size + 1) _ _ 2 1 _ h2 (Nat.le_trans hz G2.size) (by simp)).mono ?_
  rintro e w3 ⟨v3, rfl, h3, g3⟩
  have G3 := G2.trans g3
  go_wp2_with fail
  refine (r_read (w.heap.size + 1) _ _ 2 0 1 _ h3 (Nat.le_trans hz G3.size) (by simp)).mono ?_
  rintro e w4 ⟨v4, rfl, h4, g4⟩
  have G4 := G3.trans g4
  go_wp2_with fail
  refine (r_registers 1 (by omega) _).mono ?_
  rintro e w5 ⟨v5, rfl, h5, g5⟩
  go_wp2_with fail
  refine (r_commit (w.heap.size + 1) _ _ 1 _ (OwnF.below h4 g5) (Nat.le_trans hz (Nat.le_trans G4.size g5.size)) (by simp)).mono ?_
  rintro e w6 ⟨v6, rfl, h6, g6⟩
  go_wp2_with fail
  refine (r_commit (w.heap.size + 1) _ _ 2 _ h6 (Nat.le_trans hz (Nat.le_trans G4.size (Nat.le_trans g5.size g6.size))) (by simp)).mono ?_
  rintro e w7 ⟨v7, rfl, h7, g7⟩
  have G67 := g6.trans g7
  have hrf := row_grw (row_below (row_grw hr0 G4 (by simp [Value.ownBlock])) g5 (by have := G4.size; simp at this; omega)) G67 (fun e => by have := own_ge h4 _ e; omega)
  have hb : Below w.heap.size w w7 := ((((Below.refl _ _).alloc (Nat.le_refl _) _).trans (G4.below (by simp) (by simp [Value.ownBlock]))).trans (g5.mono (by have := G4.size; simp at this; omega))).trans (G67.below (by have := G4.size; have := g5.size; simp at *; omega) (fun k hk => by have := own_ge h4 _ hk; omega))
  have ho := (OwnF.grw h5 G67 (fun k hk e => by have h1 := (h5.lt k hk).1; have h2 := (h4.lt k e).2; omega)).base (B' := w.heap.size + 1) (by have := G4.size; simp at this; omega)
  have he := h7
  clear G67 g6 g7 h6 h7 h5 g5
  have c0 := row_cell hrf 0
  have c1 := row_cell hrf 1
  have f0 := row_free hrf 0
  have f1 := row_free hrf 1
  have HB := hid hb
  have HR := hid hrf
  have HO : Hid (OwnO w7 (w.heap.size + 1) v5 earlyO) := hid ho
  have HE : Hid (OwnE w7 (w.heap.size + 1) v7 earlyE) := hid he
  clear hb hrf ho he hr0 G1 h1 G2 h2 G3 h3 G4 h4 g2 g3 g4
  obtain ⟨a1, k1, n1, e1⟩ : ∃ a c n, v7 = .slice a n c := by
    rcases HE.out.form with ⟨e, _⟩ | ⟨g, c, e, _⟩ <;> exact ⟨_, _, _, e⟩
  obtain ⟨a2, k2, n2, e2⟩ : ∃ a c n, v5 = .slice a n c := by
    rcases HO.out.form with ⟨e, _⟩ | ⟨g, c, e, _⟩ <;> exact ⟨_, _, _, e⟩
  subst e1 e2
  go_wp2
  exact bodyPost_ret (v := .agg #[.slice a2 n2 k2, .slice a1 n1 k1]) (by simp [results, Try.results32, go_sem, c0, c1]) rfl (resH _ w w7 HB.out HR.out HO.out HE.out)

theorem r_plain (w : World) : Calls Try.prog 33 #[] w (RetH w plainO plainE) := by
  go_enter Try.func33, Try.ntmps33
  go_wp2_with fail
  have hz : w.heap.size + 1 ≤ ((w.alloc (.cells #[.slice none 0 0, .slice none 0 0] 28)).alloc (.cells (plainO.flatMap Ob.cells).toArray 41)).heap.size := by simp
  have hr0 := row_old (o := .cells (plainO.flatMap Ob.cells).toArray 41) (row_new w (.cells #[.slice none 0 0, .slice none 0 0] 28))
  have hob := OwnF.lit (f := Ob.cells) (e := 41) (w.alloc (.cells #[.slice none 0 0, .slice none 0 0] 28)) (w.heap.size + 1) (by simp) plainO Ob.len (by decide)
  simp only [World.size_alloc] at hob
  refine (r_begin (w.heap.size + 1) _ [] 1 0 _ (OwnF.nil _ _) hz (by simp)).mono ?_
  rintro e w1 ⟨v1, rfl, h1, G1⟩
  go_wp2_with fail
  refine (r_read (w.heap.size + 1) _ _ 1 0 5 _ h1 (Nat.le_trans hz G1.size) (by simp)).mono ?_
  rintro e w2 ⟨v2, rfl, h2, g2⟩
  have G2 := G1.trans g2
  go_wp2_with fail
  refine (r_call (w.heap.size + 1) _ _ 1 1 3 0 2 1 0 _ h2 (Nat.le_trans hz G2.size) (by simp)).mono ?_
  rintro e w3 ⟨v3, rfl, h3, g3⟩
  have G3 := G2.trans g3
  go_wp2_with fail
  refine (r_call (w.heap.size + 1) _ _ 1 2 5 0 7 1 0 _ h3 (Nat.le_trans hz G3.size) (by simp)).mono ?_
  rintro e w4 ⟨v4, rfl, h4, g4⟩
  have G4 := G3.trans g4
  go_wp2_with fail
  refine (r_call (w.heap.size + 1) _ _ 1 3 7 1 3 1 0 _ h4 (Nat.le_trans hz G4.size) (by simp)).mono ?_
  rintro e w5 ⟨v5, rfl, h5, g5⟩
  have G5 := G4.trans g5
  go_wp2_with fail
  refine (r_commit (w.heap.size + 1) _ _ 1 _ h5 (Nat.le_trans hz G5.size) (by simp)).mono ?_
  rintro e w6 ⟨v6, rfl, h6, g6⟩
  have G6 := G5.trans g6
  go_wp2_with fail
  refine (r_begin (w.heap.size + 1) _ _ 2 1 _ h6 (Nat.le_trans hz G6.size) (by simp)).mono ?_
  rintro e w7 ⟨v7, rfl, h7, g7⟩
  have G7 := G6.trans g7
  go_wp2_with fail
  refine (r_read (w.heap.size + 1) _ _ 2 0 5 _ h7 (Nat.le_trans hz G7.size) (by simp)).mono ?_
  rintro e w8 ⟨v8, rfl, h8, g8⟩
  have G8 := G7.trans g8
  go_wp2_with fail
  refine (r_call (w.heap.size + 1) _ _ 2 1 4 0 0 3 2 _ h8 (Nat.le_trans hz G8.size) (by simp)).mono ?_
  rintro e w9 ⟨v9, rfl, h9, g9⟩
  have G9 := G8.trans g9
  go_wp2_with fail
  refine (r_call (w.heap.size + 1) _ _ 2 2 6 0 0 3 7 _ h9 (Nat.le_trans hz G9.size) (by simp)).mono ?_
  rintro e w10 ⟨v10, rfl, h10, g10⟩
  have G10 := G9.trans g10
  go_wp2_with fail
  refine (r_call (w.heap.size + 1) _ _ 2 2 6 0 0 2 0 _ h10 (Nat.le_trans hz G10.size) (by simp)).mono ?_
  rintro e w11 ⟨v11, rfl, h11, g11⟩
  have G11 := G10.trans g11
  go_wp2_with fail
  refine (r_call (w.heap.size + 1) _ _ 2 3 8 1 0 3 3 _ h11 (Nat.le_trans hz G11.size) (by simp)).mono ?_
  rintro e w12 ⟨v12, rfl, h12, g12⟩
  have G12 := G11.trans g12
  go_wp2_with fail
  refine (r_call (w.heap.size + 1) _ _ 2 3 9 1 0 3 3 _ h12 (Nat.le_trans hz G12.size) (by simp)).mono ?_
  rintro e w13 ⟨v13, rfl, h13, g13⟩
  have G13 := G12.trans g13
  have hz14 := Nat.le_trans hz G13.size
  go_wp2_with (at_builtin; refine wpList_appF rfl _ _ _ rfl _ 64 Try.underlying26 infoE rfl h13 ⟨4, 2, 0, 0, 0, 0, 0, 0⟩ hz14 (by rfl) (by rfl) (by first | rfl | simp) rfl (ev_one _) (by first | omega | (simp only [List.length_append, List.length_cons, List.length_nil, List.length_replicate]; omega)) (by first | omega | (simp only [List.length_append, List.length_cons, List.length_nil, List.length_replicate]; omega)) ?_; intro g14 k14 w14 h14 g14'; have G14 := G13.trans g14'; have hrf := row_grw hr0 G14 (by simp [Value.ownBlock]); have hb : Below w.heap.size w w14 := (((Below.refl _ _).alloc (Nat.le_refl _) _).alloc (by simp) _).trans (G14.below (by simp; omega) (by simp [Value.ownBlock])); have ho := hob.grw G14 (fun k _ => by simp [Value.ownBlock]); have he := h14; clear G14 g14' h14 hz14 hob; have c0 := row_cell hrf 0; have c1 := row_cell hrf 1; have f0 := row_free hrf 0; have f1 := row_free hrf 1; have HB := hid hb; have HR := hid hrf; have HO : Hid (OwnO w14 (w.heap.size + 1) (.slice (some ⟨w.heap.size + 1, 0, none⟩) 4 4) plainO) := hid ho; have HE : Hid (OwnE w14 (w.heap.size + 1) (.slice (some ⟨g14, 0, none⟩) 25 k14) plainE) := hid he; clear hb hrf ho he)
  exact bodyPost_ret (v := .agg #[.slice (some ⟨w.heap.size + 1, 0, none⟩) 4 4, .slice (some ⟨g14, 0, none⟩) 25 k14]) (by simp [results, Try.results33, go_sem, c0, c1]) rfl (resH _ w w14 HB.out HR.out HO.out HE.out)
end Go.Proofs.Ytcombolmacokbaa
