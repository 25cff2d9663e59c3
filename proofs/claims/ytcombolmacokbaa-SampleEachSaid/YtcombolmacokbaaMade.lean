/- Histories that are made by a function of a maker. Conditions: those of each theorem, as typed. -/
import Derived.Test.YtcombolmacokbaaMaker
namespace Go.Proofs.Ytcombolmacokbaa
open Go.RowKit

theorem run_callFunc_body {P : Program} {f : FuncId} {fn : Func} (hf : P.funcs[f]? = some fn) (hname : (fn.name == "runtime.NumGoroutine") = false) (hb : fn.body.isNone = false)
    (args : Array Value) (w : World) : (callFunc f args).run P w = .ok (.enter f args) w := by
  have h1 : fn.name ≠ "runtime.NumGoroutine" := by simpa using hname
  have h2 : ¬ fn.body = none := by intro h; simp [h] at hb
  simp [callFunc, hf, h1, h2, program, Sem.run]

/-- made(f, objects): a function value over two new blocks. -/
theorem p_made (f v : Value) (w : World) (hf : ∃ fn a b, f = .func fn a b) (hv : ∃ a n c, v = .slice a n c) :
    Calls Try.prog 22 #[f, v] w fun e w' => e = .returned (.func (.func 49) #[] #[.pointer (some ⟨w.heap.size + 1, 0, none⟩), .pointer (some ⟨w.heap.size, 0, none⟩)]) ∧
      w' = (w.alloc (.cells #[f] 63)).alloc (.cells #[v] 25) := by
  obtain ⟨fn, a, b, rfl⟩ := hf
  obtain ⟨c, n, d, rfl⟩ := hv
  go_enter Try.func22, Try.ntmps22
  go_wp2
  go_ret
  exact ⟨rfl, rfl⟩

/-- What such a function answers: f's history over these objects. -/
theorem p_made1 (K : Nat) (caps : Array Value) (bo bf : Nat) (v : Value) (os : List Ob) (es : List Ev) (w : World) (h0 : 0 < os.length) (hn : os.length ≤ 100)
    (hco : w.cell? ⟨bo, 0, none⟩ = some v) (hcf : w.cell? ⟨bf, 0, none⟩ = some (.func (.func K) #[] caps)) (hbo : bo < w.heap.size) (hbf : bf < w.heap.size) (hv : Sl w w.heap.size 2 v os.length (os.flatMap Ob.cells))
    (hcall : ∀ (args : Array Value) (w' : World), (callFunc K args).run Try.prog w' = .ok (.enter K args) w')
    (hf : ∀ (w' : World) (bm : Nat) (ov : Value), w.heap.size ≤ bm → Below w.heap.size w w' → Mk w' bm ov [] → Calls Try.prog K (#[.pointer (some ⟨bm, 0, none⟩)] ++ caps) w' (RetM bm w' ov es)) :
    Calls Try.prog 49 #[.pointer (some ⟨bo, 0, none⟩), .pointer (some ⟨bf, 0, none⟩)] w (RetH w os es) := by
  have HF := hid hf
  have HV := hid hv
  clear hf hv
  go_enter Try.func49, Try.ntmps49
  have hO : OwnO ((w.alloc (.cells #[.slice none 0 0, .slice none 0 0] 28)).alloc (.cells #[] 41)) (w.heap.size + 1) (.slice (some ⟨w.heap.size + 1, 0, none⟩) 0 0) [] := by
    have h := OwnF.lit (f := Ob.cells) (e := 41) (sz := 2) (w.alloc (.cells #[.slice none 0 0, .slice none 0 0] 28)) (w.heap.size + 1) (by simp) [] Ob.len (by decide)
    simpa using h
  have hs := (HV.out.alloc (Nat.le_refl _) (.cells #[.slice none 0 0, .slice none 0 0] 28)).alloc (by simp) (.cells #[] 41)
  have hr0 := row_old (o := .cells #[] 41) (row_new w (.cells #[.slice none 0 0, .slice none 0 0] 28))
  have HO := hid hO
  have HS := hid hs
  have HR0 := hid hr0
  clear hO hs hr0
  go_wp2_with (at_builtin; go_loud (refine wpList_appS rfl _ _ _ rfl _ 16 Try.underlying25 infoO rfl HO.out os rfl h0 HS.out (by first | omega | (simp <;> omega)) (by rfl) (by rfl) Ob.len ob_one (by simp <;> omega) (by simp <;> omega) ?_); refine Stop.halt ?_)
  refine Stop.go ?_
  intro g1 k1 w1 h1 G1
  have hr1 := row_grw HR0.out G1 (by simp [Value.ownBlock])
  have hB1 : Below w.heap.size w w1 := (((Below.refl _ _).alloc (Nat.le_refl _) _).alloc (by simp) _).trans (G1.below (by first | omega | (simp <;> omega)) (by simp [Value.ownBlock]))
  have z1 : w.heap.size + 2 ≤ w1.heap.size := by have := G1.size; simp at this; omega
  have hg1 := h1.lt g1 rfl
  have c1 := cell_below hB1 hbf hcf
  have HR1 := hid hr1
  have HB1 := hid hB1
  have HH1 := hid h1
  clear HR0 HS HO hr1 hB1 h1 G1
  have l1 : bf < w1.heap.size := by omega
  have l0 : w.heap.size < w1.heap.size := by omega
  go_wp2_with fail
  refine (HF.out _ w1.heap.size (.slice (some ⟨g1, 0, none⟩) os.length k1) (by omega) ((HB1.out).alloc (by omega) _) ⟨_, row_new w1 _, OwnF.nil _ _⟩).mono ?_
  rintro e w2 ⟨rfl, ⟨ev, hr2, he2⟩, b2, t2⟩
  have z2 := b2.size
  simp only [World.size_alloc] at z2
  have hrN := row_below (row_old HR1.out) b2 l0
  have hB2 := ((HB1.out).alloc (B := w.heap.size) (by omega) (.cells #[.slice (some ⟨g1, 0, none⟩) os.length k1, .slice none 0 0] 79)).trans (b2.mono (by omega))
  have ho2 : OwnO w2 (w.heap.size + 1) (.slice (some ⟨g1, 0, none⟩) os.length k1) os := OwnF.keepB (HH1.out.alloc _) b2 (fun k hk => by have := (HH1.out.lt k hk).2; omega)
  have he3 := he2.base (B' := w.heap.size + 1) (by omega)
  obtain ⟨a3, k3, n3, e3⟩ : ∃ a c n, ev = .slice a n c := by
    rcases he3.form with ⟨e, _⟩ | ⟨g, c, e, _⟩ <;> exact ⟨_, _, _, e⟩
  subst e3
  have d0 := row_cell hr2 0
  have d1 := row_cell hr2 1
  have x0 := row_cell hrN 0
  have x1 := row_cell hrN 1
  have f0 := row_free hrN 0
  have f1 := row_free hrN 1
  have HB2 := hid hB2
  have HRN := hid hrN
  have HO2 := hid ho2
  have HE3 := hid he3
  clear hB2 hrN ho2 he3 he2 hr2 b2 t2
  go_wp2
  exact bodyPost_ret (v := .agg #[.slice (some ⟨g1, 0, none⟩) os.length k1, .slice a3 n3 k3]) (by simp [results, Try.results49, go_sem, x0, x1]) rfl (resH _ w w2 HB2.out HRN.out HO2.out HE3.out)
end Go.Proofs.Ytcombolmacokbaa
