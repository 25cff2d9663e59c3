/- The document's equalities, at two things that are the same: each answers true, and turns nothing that was there. Programs of the engines and the walk through them: what they are. Words for memory that the call makes: append, lists that are written out, blocks. Conditions: those of each theorem, as typed. Merged by program out of 3 texts. -/
import Derived.Test.YtogphaiomlfofaaGreatDoorChecked
import Derived.Test.YtogphaiomlfofaaGreatDoorQM01
import Derived.Outline
set_option linter.unusedVariables false
set_option linter.unusedSimpArgs false
namespace Go.Proofs.YtogphaiomlfofaaGreatDoor
open Go.RowKit

set_option maxHeartbeats 400000 in
theorem sameInts_eq (v1 v2 : Value) (xs : List Int) (n : Nat) (w : World) (h1 : Sl w w.heap.size 1 v1 n (xs.map (.int .i64))) (h2 : Sl w w.heap.size 1 v2 n (xs.map (.int .i64))) :
    Calls Tryz.prog 40 #[v1, v2] w fun e w' => e = .returned (.bool true) ∧ Below w.heap.size w w' := by
  obtain ⟨a1, c1, rfl, m1⟩ := h1.ex
  obtain ⟨a2, c2, rfl, m2⟩ := h2.ex
  have H1 := hid h1
  have H2 := hid h2
  clear h1 h2
  have hb : ((n : Int) != (n : Int)) = false := by simp
  go_enter Tryz.func40, Tryz.ntmps40
  go_wp2
  go_loopw [5] (fun i wr => ∃ k : Nat, k ≤ n ∧ i = .int .i64 k ∧ Below w.heap.size w wr) (fun i _ => n - (intOf i).toNat)
  case atStart => exact ⟨0, by omega, rfl, Below.refl _ _⟩
  case round =>
    obtain ⟨k, hk, rfl, hB⟩ := hrel
    by_cases hlt : k < n
    · obtain ⟨b1, o1, x, rfl, -, gx, hc1⟩ := (H1.out.below hB).at1 hlt
      obtain ⟨b2, o2, y, rfl, -, gy, hc2⟩ := (H2.out.below hB).at1 hlt
      obtain rfl : x = y := by rw [gx] at gy; exact Option.some.inj gy
      obtain ⟨z, hz⟩ : ∃ z : Int, x = .int .i64 z := by
        obtain ⟨z, -, hz⟩ := List.mem_map.1 (List.mem_of_getElem? gx)
        exact ⟨z, hz.symm⟩
      subst hz
      clear gx gy
      have HB := hid hB
      clear hB
      go_wp2
      refine wp_region_x [0, 0, 0, 1, 0, 0, 0, 1, 0, 0] [0, 1, 2, 3, 4, 5, 6, 7, 8, 9] (by kernel_rfl) (by kernel_rfl) rfl (by kernel_rfl) ?_
      simp only [selX, guardAt, sD, sE, sF, sG]
      repeat (first | (refine wpL_p (fun K hK => ?_); go_simp; refine hK _ _ ?_; clear hK K) | (apply wpL_s; (intro w2 hw2; have hk1 := hw2.cell; have hk3 := hw2.heap; clear hw2; go_simp; with_reducible rfl); simp only [Act.put, sA, sB, sC]) | (refine wpL_nil ?_))
      go_wp2
      go_roundw
      case rel => exact ⟨k + 1, by omega, by go_num, HB.out.drew⟩
      case measure => simp [intOf]; omega
    · go_wp2
      go_ret
      exact ⟨rfl, hB⟩

/-! ### Objects, events, acts: plain data -/
structure Ob where
  kind : Int
  init : Int
structure Ev where
  kind : Int
  tx : Int
  thread : Int
  obj : Int
  op : Int
  key : Int
  val : Int
  ret : Int
structure Ac where
  kind : Int
  cell : Int
  val : Int
def Ob.cells (x : Ob) : List Value := [.int .i64 x.kind, .int .i64 x.init]
def Ev.cells (x : Ev) : List Value := [.int .i64 x.kind, .int .i64 x.tx, .int .i64 x.thread, .int .i64 x.obj, .int .i64 x.op, .int .i64 x.key, .int .i64 x.val, .int .i64 x.ret]
def Ac.cells (x : Ac) : List Value := [.int .i64 x.kind, .int .i64 x.cell, .int .i64 x.val]
theorem Ob.len (x : Ob) : x.cells.length = 2 := rfl
theorem Ev.len (x : Ev) : x.cells.length = 8 := rfl
theorem Ac.len (x : Ac) : x.cells.length = 3 := rfl

theorem sameObject_eq (a b : Int) (w : World) :
    Calls Tryz.prog 89 #[.agg #[.int .i64 a, .int .i64 b], .agg #[.int .i64 a, .int .i64 b]] w fun e w' => e = .returned (.bool true) ∧ Below w.heap.size w w' := by
  go_enter Tryz.func89, Tryz.ntmps89
  go_wp2
  go_ret
  exact ⟨rfl, ((Below.refl _ _).alloc (Nat.le_refl _) _).alloc (by simp) _⟩

set_option maxHeartbeats 400000 in
theorem sameEvent_eq (a b c d e f g h : Int) (w : World) :
    Calls Tryz.prog 90 #[.agg #[.int .i64 a, .int .i64 b, .int .i64 c, .int .i64 d, .int .i64 e, .int .i64 f, .int .i64 g, .int .i64 h], .agg #[.int .i64 a, .int .i64 b, .int .i64 c, .int .i64 d, .int .i64 e, .int .i64 f, .int .i64 g, .int .i64 h]] w fun e w' => e = .returned (.bool true) ∧ Below w.heap.size w w' := by
  go_enter Tryz.func90, Tryz.ntmps90
  go_wp2
  go_ret
  exact ⟨rfl, ((Below.refl _ _).alloc (Nat.le_refl _) _).alloc (by simp) _⟩

set_option maxHeartbeats 400000 in
theorem sameObjects_eq (v1 v2 : Value) (l : List Ob) (n : Nat) (w : World) (hn : l.length = n) (h1 : Sl w w.heap.size 2 v1 n (l.flatMap Ob.cells)) (h2 : Sl w w.heap.size 2 v2 n (l.flatMap Ob.cells)) :
    Calls Tryz.prog 55 #[v1, v2] w fun e w' => e = .returned (.bool true) ∧ Below w.heap.size w w' := by
  obtain ⟨a1, c1, rfl, m1⟩ := h1.ex
  obtain ⟨a2, c2, rfl, m2⟩ := h2.ex
  have H1 := hid h1
  have H2 := hid h2
  have HN := hid hn
  clear h1 h2 hn
  have hb : ((n : Int) != (n : Int)) = false := by simp
  go_enter Tryz.func55, Tryz.ntmps55
  go_wp2
  go_loopw [5] (fun i wr => ∃ k : Nat, k ≤ n ∧ i = .int .i64 k ∧ Below w.heap.size w wr) (fun i _ => n - (intOf i).toNat)
  case atStart => exact ⟨0, by omega, rfl, Below.refl _ _⟩
  case round =>
    obtain ⟨k, hk, rfl, hB⟩ := hrel
    by_cases hlt : k < n
    · obtain ⟨b1, o1, x, rfl, -, gx, hc⟩ := (H1.out.below hB).atF Ob.len HN.out hlt
      obtain ⟨b2, o2, y, rfl, -, gy, hd⟩ := (H2.out.below hB).atF Ob.len HN.out hlt
      obtain rfl : x = y := by rw [gx] at gy; exact Option.some.inj gy
      clear gx gy
      have c0 := hc 0 (by omega)
      have c1 := hc 1 (by omega)
      have d0 := hd 0 (by omega)
      have d1 := hd 1 (by omega)
      clear hc hd
      simp only [Ob.cells, Nat.add_zero, List.getElem?_cons_zero, List.getElem?_cons_succ] at c0 c1 d0 d1
      have HB := hid hB
      clear hB
      go_wp2
      refine wp_region_x [0, 0, 0, 1, 0, 0, 0, 1, 2, 0] [0, 1, 2, 3, 4, 5, 6, 7, 8, 9] (by kernel_rfl) (by kernel_rfl) rfl (by kernel_rfl) ?_
      simp only [selX, guardAt, sD, sE, sF, sG]
      repeat (first | (refine wpL_p (fun K hK => ?_); go_simp; refine hK _ _ ?_; clear hK K) | (apply wpL_s; (intro w2 hw2; have hk1 := hw2.cell; have hk3 := hw2.heap; clear hw2; go_simp; with_reducible rfl); simp only [Act.put, sA, sB, sC]) | (refine wpL_nil ?_))
      refine wpL_e (fun K hK => ?_)
      go_simp
      refine (sameObject_eq _ _ _).mono ?_
      rintro e w1 ⟨rfl, hb1⟩
      refine hK _ _ ?_
      clear hK K
      repeat (first | (refine wpL_p (fun K hK => ?_); go_simp; refine hK _ _ ?_; clear hK K) | (apply wpL_s; (intro w2 hw2; have hk1 := hw2.cell; have hk3 := hw2.heap; clear hw2; go_simp; with_reducible rfl); simp only [Act.put, sA, sB, sC]) | (refine wpL_nil ?_))
      go_wp2
      go_roundw
      case rel => exact ⟨k + 1, by omega, by go_num, HB.out.drew.trans (hb1.mono HB.out.size)⟩
      case measure => simp [intOf]; omega
    · go_wp2
      go_ret
      exact ⟨rfl, hB⟩

set_option maxHeartbeats 400000 in
theorem sameEvents_eq (v1 v2 : Value) (l : List Ev) (n : Nat) (w : World) (hn : l.length = n) (h1 : Sl w w.heap.size 8 v1 n (l.flatMap Ev.cells)) (h2 : Sl w w.heap.size 8 v2 n (l.flatMap Ev.cells)) :
    Calls Tryz.prog 56 #[v1, v2] w fun e w' => e = .returned (.bool true) ∧ Below w.heap.size w w' := by
  obtain ⟨a1, c1, rfl, m1⟩ := h1.ex
  obtain ⟨a2, c2, rfl, m2⟩ := h2.ex
  have H1 := hid h1
  have H2 := hid h2
  have HN := hid hn
  clear h1 h2 hn
  have hb : ((n : Int) != (n : Int)) = false := by simp
  go_enter Tryz.func56, Tryz.ntmps56
  go_wp2
  go_loopw [5] (fun i wr => ∃ k : Nat, k ≤ n ∧ i = .int .i64 k ∧ Below w.heap.size w wr) (fun i _ => n - (intOf i).toNat)
  case atStart => exact ⟨0, by omega, rfl, Below.refl _ _⟩
  case round =>
    obtain ⟨k, hk, rfl, hB⟩ := hrel
    by_cases hlt : k < n
    · obtain ⟨b1, o1, x, rfl, -, gx, hc⟩ := (H1.out.below hB).atF Ev.len HN.out hlt
      obtain ⟨b2, o2, y, rfl, -, gy, hd⟩ := (H2.out.below hB).atF Ev.len HN.out hlt
      obtain rfl : x = y := by rw [gx] at gy; exact Option.some.inj gy
      clear gx gy
      have c0 := hc 0 (by omega)
      have c1 := hc 1 (by omega)
      have c2 := hc 2 (by omega)
      have c3 := hc 3 (by omega)
      have c4 := hc 4 (by omega)
      have c5 := hc 5 (by omega)
      have c6 := hc 6 (by omega)
      have c7 := hc 7 (by omega)
      have d0 := hd 0 (by omega)
      have d1 := hd 1 (by omega)
      have d2 := hd 2 (by omega)
      have d3 := hd 3 (by omega)
      have d4 := hd 4 (by omega)
      have d5 := hd 5 (by omega)
      have d6 := hd 6 (by omega)
      have d7 := hd 7 (by omega)
      clear hc hd
      simp only [Ev.cells, Nat.add_zero, List.getElem?_cons_zero, List.getElem?_cons_succ] at c0 c1 c2 c3 c4 c5 c6 c7 d0 d1 d2 d3 d4 d5 d6 d7
      have HB := hid hB
      clear hB
      go_wp2
      refine wp_region_x [0, 0, 0, 1, 0, 0, 0, 1, 2, 0] [0, 1, 2, 3, 4, 5, 6, 7, 8, 9] (by kernel_rfl) (by kernel_rfl) rfl (by kernel_rfl) ?_
      simp only [selX, guardAt, sD, sE, sF, sG]
      repeat (first | (refine wpL_p (fun K hK => ?_); go_simp; refine hK _ _ ?_; clear hK K) | (apply wpL_s; (intro w2 hw2; have hk1 := hw2.cell; have hk3 := hw2.heap; clear hw2; go_simp; with_reducible rfl); simp only [Act.put, sA, sB, sC]) | (refine wpL_nil ?_))
      refine wpL_e (fun K hK => ?_)
      go_simp
      refine (sameEvent_eq _ _ _ _ _ _ _ _ _).mono ?_
      rintro e w1 ⟨rfl, hb1⟩
      refine hK _ _ ?_
      clear hK K
      repeat (first | (refine wpL_p (fun K hK => ?_); go_simp; refine hK _ _ ?_; clear hK K) | (apply wpL_s; (intro w2 hw2; have hk1 := hw2.cell; have hk3 := hw2.heap; clear hw2; go_simp; with_reducible rfl); simp only [Act.put, sA, sB, sC]) | (refine wpL_nil ?_))
      go_wp2
      go_roundw
      case rel => exact ⟨k + 1, by omega, by go_num, HB.out.drew.trans (hb1.mono HB.out.size)⟩
      case measure => simp [intOf]; omega
    · go_wp2
      go_ret
      exact ⟨rfl, hB⟩


theorem sameHistory_eq (o1 e1 o2 e2 : Value) (os : List Ob) (es : List Ev) (w : World)
    (h1 : Sl w w.heap.size 2 o1 os.length (os.flatMap Ob.cells)) (h2 : Sl w w.heap.size 2 o2 os.length (os.flatMap Ob.cells))
    (h3 : Sl w w.heap.size 8 e1 es.length (es.flatMap Ev.cells)) (h4 : Sl w w.heap.size 8 e2 es.length (es.flatMap Ev.cells)) :
    Calls Tryz.prog 19 #[.agg #[o1, e1], .agg #[o2, e2]] w fun e w' => e = .returned (.bool true) ∧ Below w.heap.size w w' := by
  obtain ⟨a1, c1, rfl, -⟩ := h1.ex
  obtain ⟨a2, c2, rfl, -⟩ := h2.ex
  obtain ⟨a3, c3, rfl, -⟩ := h3.ex
  obtain ⟨a4, c4, rfl, -⟩ := h4.ex
  have H1 := hid h1
  have H2 := hid h2
  have H3 := hid h3
  have H4 := hid h4
  clear h1 h2 h3 h4
  go_enter Tryz.func19, Tryz.ntmps19
  go_wp2_with fail
  have hB0 : Below w.heap.size w ((w.alloc (.cells #[.slice a1 os.length c1, .slice a3 es.length c3] 31)).alloc (.cells #[.slice a2 os.length c2, .slice a4 es.length c4] 31)) := ((Below.refl _ _).alloc (Nat.le_refl _) _).alloc (by simp) _
  refine (sameObjects_eq _ _ os os.length _ rfl ((H1.out.below hB0).more hB0.size) ((H2.out.below hB0).more hB0.size)).mono ?_
  rintro e w1 ⟨rfl, hb1⟩
  have g0 : w1.cell? ⟨w.heap.size, 1, none⟩ = some (.slice a3 es.length c3) := cell_below hb1 (by simp; omega) (cell_old' (by simp) (cell_new' rfl rfl))
  have g1 : w1.cell? ⟨w.heap.size + 1, 1, none⟩ = some (.slice a4 es.length c4) := cell_below hb1 (by simp) (cell_new' (by simp) rfl)
  have hB1 := hB0.trans (hb1.mono hB0.size)
  have HB0 := hid hB0
  have HB1 := hid hB1
  clear hB0 hB1 hb1
  go_wp2_with fail
  refine (sameEvents_eq _ _ es es.length _ rfl ((H3.out.below HB1.out).more HB1.out.size) ((H4.out.below HB1.out).more HB1.out.size)).mono ?_
  rintro e w2 ⟨rfl, hb2⟩
  go_wp2
  go_ret
  exact ⟨rfl, HB1.out.trans (hb2.mono HB1.out.size)⟩

def IsActs (w : World) (B : Nat) (v : Value) (l : List Ac) : Prop := Sl w B 3 v l.length (l.flatMap Ac.cells)
def IsTxs (w : World) (B : Nat) (v : Value) (l : List (List Ac)) : Prop := IsL IsActs w B v l
def IsThr (w : World) (B : Nat) (v : Value) (l : List (List (List Ac))) : Prop := IsL IsTxs w B v l
theorem IsTxs.below {w w' : World} {B : Nat} {v : Value} {l : List (List Ac)} (h : IsTxs w B v l) (hb : Below B w w') : IsTxs w' B v l := IsL.below (fun _ _ h => h.below hb) h hb
theorem IsThr.below {w w' : World} {B : Nat} {v : Value} {l : List (List (List Ac))} (h : IsThr w B v l) (hb : Below B w w') : IsThr w' B v l := IsL.below (fun _ _ h => h.below hb) h hb
theorem IsTxs.more {w : World} {B B' : Nat} {v : Value} {l : List (List Ac)} (h : IsTxs w B v l) (hb : B ≤ B') : IsTxs w B' v l := IsL.more (fun _ _ h => h.more hb) h hb
theorem IsThr.more {w : World} {B B' : Nat} {v : Value} {l : List (List (List Ac))} (h : IsThr w B v l) (hb : B ≤ B') : IsThr w B' v l := IsL.more (fun _ _ h => h.more hb) h hb

end Go.Proofs.YtogphaiomlfofaaGreatDoor
namespace Go.Proofs.YtogphaiomlfofaaGreatDoor

structure Pg where
  cells : List Int
  threads : List (List (List Ac))
structure Th where
  tx : Nat
  act : Nat
  begun : Bool
  adding : Bool
  read : Int
  waits : Int
def Th.zero : Th := ⟨0, 0, false, false, 0, 0⟩
def Th.cells (t : Th) : List Value := [.int .i64 t.tx, .int .i64 t.act, .bool t.begun, .bool t.adding, .int .i64 t.read, .int .i64 t.waits]
theorem Th.len (t : Th) : t.cells.length = 6 := rfl
structure Wst where
  ths : List Th
  evs : List Ev
def idOf (i k : Nat) : Int := 3 * i + k + 1
def ev0 (kind : Int) : Ev := ⟨kind, 0, 0, 0, 0, 0, 0, 0⟩
def Pg.txs (p : Pg) (i : Nat) : List (List Ac) := p.threads.getD i []
def Pg.acts (p : Pg) (i k : Nat) : List Ac := (p.txs i).getD k []
def thDone (p : Pg) (i : Nat) (t : Th) : Bool := t.tx == (p.txs i).length
def askOf (t : Th) (a : Ac) : Ev :=
  if a.kind = 2 then ⟨2, 0, 0, a.cell, 2, 0, a.val, 0⟩
  else if a.kind = 3 ∧ t.adding = true then ⟨2, 0, 0, a.cell, 2, 0, a.val + t.read, 0⟩
  else ⟨2, 0, 0, a.cell, 1, 0, 0, 0⟩
def ownEv (p : Pg) (i : Nat) (t : Th) : Ev :=
  if t.begun = false then { ev0 1 with thread := i }
  else match (p.acts i t.tx)[t.act]? with
    | none => ev0 4
    | some a => if a.kind = 4 then ev0 7 else askOf t a
def withTx (e : Ev) (x : Int) : Ev := { e with tx := x }
def nextOf (p : Pg) (i : Nat) (t : Th) : Option (Th × Ev) :=
  if thDone p i t = true ∨ t.waits ≠ 0 then none
  else
    let e := withTx (ownEv p i t) (idOf i t.tx)
    if t.begun = false then some ({ t with begun := true }, e) else some ({ t with waits := e.kind }, e)
def within9 (n : Int) : Bool := decide (-1000000000 ≤ n) && decide (n ≤ 1000000000)
def ansOf (p : Pg) (i : Nat) (t : Th) (val : Int) (abort : Bool) : Option (Th × Ev) :=
  if thDone p i t = true ∨ t.waits = 0 then none
  else if abort = true then some ({ Th.zero with tx := t.tx + 1 }, withTx (ev0 6) (idOf i t.tx))
  else if t.waits = 4 then some ({ Th.zero with tx := t.tx + 1 }, withTx (ev0 5) (idOf i t.tx))
  else if t.waits = 7 then none
  else match (p.acts i t.tx)[t.act]? with
    | none => none
    | some a =>
      if a.kind = 1 ∨ (a.kind = 3 ∧ t.adding = false) then
        if within9 val = false ∨ (a.kind = 3 ∧ within9 (val + a.val) = false) then none
        else if a.kind = 3 then some ({ t with waits := 0, adding := true, read := val }, withTx { ev0 3 with ret := 3, val := val } (idOf i t.tx))
        else some ({ t with waits := 0, act := t.act + 1 }, withTx { ev0 3 with ret := 3, val := val } (idOf i t.tx))
      else some ({ t with waits := 0, adding := false, act := t.act + 1 }, withTx { ev0 3 with ret := 1 } (idOf i t.tx))
def Wst.put (s : Wst) (i : Nat) (x : Th × Ev) : Wst := ⟨s.ths.set i x.1, s.evs ++ [x.2]⟩
structure PgOk (p : Pg) : Prop where
  cells : 1 ≤ p.cells.length ∧ p.cells.length ≤ 4
  cell : ∀ c ∈ p.cells, -1000000 ≤ c ∧ c ≤ 1000000
  threads : 1 ≤ p.threads.length ∧ p.threads.length ≤ 4
  txs : ∀ t ∈ p.threads, t.length ≤ 3
  acts : ∀ t ∈ p.threads, ∀ l ∈ t, 1 ≤ l.length ∧ l.length ≤ 6
  act : ∀ t ∈ p.threads, ∀ l ∈ t, ∀ (k : Nat) (a : Ac), l[k]? = some a → (a.kind = 4 ∧ k + 1 = l.length ∧ a.cell = 0 ∧ a.val = 0) ∨ ((a.kind = 1 ∧ a.val = 0 ∨ a.kind = 2 ∨ a.kind = 3) ∧ 0 ≤ a.cell ∧ a.cell < p.cells.length ∧ -1000 ≤ a.val ∧ a.val ≤ 1000)
structure ThOk (p : Pg) (i : Nat) (t : Th) : Prop where
  tx : t.tx ≤ (p.txs i).length
  act : t.act ≤ (p.acts i t.tx).length
  waits : t.waits = 0 ∨ t.begun = true ∧ ((t.waits = 2 ∧ ∃ a, (p.acts i t.tx)[t.act]? = some a ∧ a.kind ≠ 4) ∨ (t.waits = 4 ∧ t.act = (p.acts i t.tx).length) ∨ (t.waits = 7 ∧ ∃ a, (p.acts i t.tx)[t.act]? = some a ∧ a.kind = 4))
  read : -1000000000 ≤ t.read ∧ t.read ≤ 1000000000
end Go.Proofs.YtogphaiomlfofaaGreatDoor
namespace Go.Proofs.YtogphaiomlfofaaGreatDoor
open Go.RowKit

/-! ### One element more: append(s, x) -/
theorem cells_new_add (w : World) (l : List Value) (t : TypeId) : ∀ (j : Nat) (u : Value), l[j]? = some u → (w.alloc (.cells l.toArray t)).cell? ((⟨w.heap.size, 0, none⟩ : Addr).add j) = some u := by
  intro j u hu
  have hadd : ((⟨w.heap.size, 0, none⟩ : Addr).add j) = ⟨w.heap.size, j, none⟩ := by unfold Addr.add; split <;> simp_all
  rw [hadd, cell_new]
  simpa using hu

theorem own_fresh {w : World} {base n m old : Nat} {e : TypeId} {i : TypeInfo} {z : Value} {xs news : List Value} (hl : (xs ++ news).length = (n + m) * i.size) (hzs : z.cells.size = i.size)
    (h63 : n + m ≤ maxLen) (hbase : base ≤ w.heap.size) (row : Option Nat) :
    (w.drew.alloc (.cells (xs.toArray ++ news.toArray ++ Builtin.zeroCells z.cells (grownCap w (n + m) old e - (n + m))) e)).ownsRow base e i.size
        (.slice (some ⟨w.heap.size, 0, none⟩) (n + m) (grownCap w (n + m) old e)) (n + m) (xs ++ news) ∧
      w.grownBy (w.drew.alloc (.cells (xs.toArray ++ news.toArray ++ Builtin.zeroCells z.cells (grownCap w (n + m) old e - (n + m))) e)) row := by
  have hge := grownCap_ge w (n + m) old e
  have hcm : grownCap w (n + m) old e ≤ maxLen := grownCap_le_maxLen w (n + m) old e h63
  have hl2 : xs.length + news.length = (n + m) * i.size := by rw [← List.length_append]; exact hl
  refine ⟨⟨hl, .inr ⟨w.heap.size, _, _, rfl, hbase, heap_alloc_new w.drew _, hge, hcm, ?_, ?_⟩⟩, ⟨rfl, rfl, rfl, by simp, fun k hk _ => Below.heap_alloc w.drew _ k hk⟩⟩
  · simp only [Array.size_append, List.size_toArray, size_zeroCells, hzs]
    rw [hl2, ← Nat.add_mul]
    congr 1
    omega
  · simp only [Array.toList_append, List.append_assoc]
    rw [← List.append_assoc, ← hl]
    exact List.take_left

theorem run_append1 {P : Program} (w : World) (base : Nat) (t ty e : TypeId) (i : TypeInfo) (z : Value) (size bytes : Nat) (ht : P.underlying t = some (.slice e)) (hi : P.info? e = some i) (hz : i.zero = some z)
    (hsize : i.size = size) (hby : i.bytes = bytes) (hzs : z.cells.size = size) (v : Value) (n : Nat) (xs : List Value) (hown : w.ownsRow base e size v n xs)
    (a : Addr) (m c : Nat) (hm : 0 < m) (news : List Value) (hl : news.length = m * size) (hnews : ∀ j u, news[j]? = some u → w.cell? (a.add j) = some u) (h1 : ∀ u ∈ news, u.oneCell' = true)
    (h63 : n + m ≤ maxLen) (hbytes : (n + m) * bytes ≤ 140737488355328) (hbase : base ≤ w.heap.size) :
    ∃ g cap w', (Builtin.append_ #[t, t] ty #[v, .slice (some a) m c]).run P w = .ok (.slice (some ⟨g, 0, none⟩) (n + m) cap) w' ∧ w'.ownsRow base e size (.slice (some ⟨g, 0, none⟩) (n + m) cap) (n + m) (xs ++ news) ∧ w.grownBy w' v.ownBlock ∧
      (g = w.heap.size ∨ v.ownBlock = some g) := by
  subst hsize
  subst hby
  have hsmall : n + m ≤ 9223372036854775807 := by simp only [maxLen] at h63; omega
  have hlen : (xs ++ news).length = (n + m) * i.size := by rw [List.length_append, hown.1, hl, Nat.add_mul]
  rcases hown.2 with ⟨rfl, rfl⟩ | ⟨g, cap, cur, rfl, hbg, hg, hnc, hcm, hcs, htake⟩
  · have hx : xs = [] := List.eq_nil_of_length_eq_zero (by simpa using hown.1)
    subst hx
    have hr := run_append_nil (P := P) w t ty e i z ht hi hz a m c news hl hnews hm (by omega) (by have hb := hbytes; simp only [Nat.zero_add] at hb; omega)
    have hgr := own_fresh (old := 0) (e := e) (z := z) hlen hzs h63 hbase (Value.ownBlock (.slice none 0 0))
    simp only [Nat.zero_add, List.nil_append, Array.empty_append] at hgr ⊢
    exact ⟨_, _, _, hr, hgr.1, hgr.2, .inl rfl⟩
  · by_cases hroom : n + m ≤ cap
    · have hfit : n * i.size + news.length ≤ cur.size := by rw [hl, hcs, ← Nat.add_mul]; exact Nat.mul_le_mul_right _ hroom
      have hr := run_append_room (P := P) w t ty e i ht hi g n cap cur hg a m c news hl hnews h1 hroom hfit
      refine ⟨g, cap, _, hr, ⟨hlen, .inr ⟨g, cap, _, rfl, hbg, setRow_heap w g cur _ e _ hg, hroom, hcm, ?_, ?_⟩⟩, ⟨rfl, rfl, rfl, by simp, fun k _ hk => setRow_other w g k _ (fun e => hk (by simp [Value.ownBlock, e]))⟩, .inr rfl⟩
      · simp only [List.size_toArray, List.length_append, List.length_take, List.length_drop, Array.length_toList]
        omega
      · rw [htake, ← hlen]
        exact List.take_left
    · have holds : ∀ j u, xs[j]? = some u → w.cell? ((⟨g, 0, none⟩ : Addr).add j) = some u := hown.cells (g := g) rfl
      have hr := run_append_grow (P := P) w t ty e i z ht hi hz ⟨g, 0, none⟩ n cap xs hown.1 holds a m c news hl hnews (by omega) (by omega) (growslice_fits (by omega) hbytes)
      have hgr := own_fresh (old := cap) (e := e) (z := z) hlen hzs h63 hbase (Value.ownBlock (.slice (some ⟨g, 0, none⟩) n cap))
      exact ⟨_, _, _, hr, hgr.1, hgr.2, .inl rfl⟩

structure Grw (w w' : World) (v v' : Value) : Prop where
  grown : w.grownBy w' v.ownBlock
  own : ∀ k, v'.ownBlock = some k → v.ownBlock = some k ∨ w.heap.size ≤ k
theorem Grw.refl (w : World) (v : Value) : Grw w w v v := ⟨⟨rfl, rfl, rfl, Nat.le_refl _, fun _ _ _ => rfl⟩, fun _ h => .inl h⟩
theorem Grw.trans {w w1 w2 : World} {v v1 v2 : Value} (h : Grw w w1 v v1) (k : Grw w1 w2 v1 v2) : Grw w w2 v v2 := by
  refine ⟨⟨k.grown.os.trans h.grown.os, k.grown.tape.trans h.grown.tape, k.grown.output.trans h.grown.output, Nat.le_trans h.grown.size k.grown.size, fun b hb hne => ?_⟩, fun b hb => ?_⟩
  · have h1 := h.grown.block b hb hne
    have hb1 : b < w1.heap.size := Nat.lt_of_lt_of_le hb h.grown.size
    refine (k.grown.block b hb1 fun e => ?_).trans h1
    rcases h.own b e.symm with h2 | h2
    · exact hne h2.symm
    · omega
  · rcases k.own b hb with h2 | h2
    · exact h.own b h2
    · exact .inr (Nat.le_trans h.grown.size h2)
theorem Grw.below {w w' : World} {v v' : Value} {B : Nat} (h : Grw w w' v v') (hB : B ≤ w.heap.size) (hv : ∀ k, v.ownBlock = some k → B ≤ k) : Below B w w' :=
  (Below.refl B w).grown h.grown hB hv
theorem Grw.size {w w' : World} {v v' : Value} (h : Grw w w' v v') : w.heap.size ≤ w'.heap.size := h.grown.size
theorem Grw.drew {w w' : World} {v v' : Value} (h : Grw w w' v v') : Grw w w'.drew v v' := ⟨⟨h.grown.os, h.grown.tape, h.grown.output, h.grown.size, h.grown.block⟩, h.own⟩

theorem wp_append1 {P : Program} {o : Oper} {a : Act} {K : Act → World → Prop} {Q : Exit → Act → World → Prop} (s x : Operand) (t : TypeId)
    (ho : o.op = .call { callee := .builtin .append, args := #[s, x], argTypes := #[t, t] })
    (e : TypeId) (z : Value) (size bytes : Nat) (ht : P.underlying t = some (.slice e)) (hinfo : (P.info? e).map (fun i => (i.zero, i.size, i.bytes)) = some (some z, size, bytes))
    (hzs : z.cells.size = size) {base n m : Nat} {v : Value} {xs news : List Value} {w0 : World} (hs : a.eval s = v) (hown : w0.ownsRow base e size v n xs) (hbase : base ≤ w0.heap.size) (hm : 0 < m)
    {g0 : Nat} (hx : a.eval x = .slice (some ⟨g0, 0, none⟩) m m) (hg0 : g0 = w0.heap.size) (hl : news.length = m * size) (h1 : ∀ u ∈ news, u.oneCell' = true) (hn : n + m ≤ 9223372036854775807) (hby : (n + m) * bytes ≤ 140737488355328)
    (hK : ∀ g cap w', w'.ownsRow base e size (.slice (some ⟨g, 0, none⟩) (n + m) cap) (n + m) (xs ++ news) → Grw w0 w' v (.slice (some ⟨g, 0, none⟩) (n + m) cap) → K (a.put o.dst (.slice (some ⟨g, 0, none⟩) (n + m) cap)) w') :
    o.wp P a (w0.alloc (.cells news.toArray e)) K Q := by
  subst hg0
  obtain ⟨i0, hi, hz0, hz1, hz2⟩ := info_parts hinfo
  obtain ⟨g, cap, w', hr, hown', hgrow, hg⟩ := run_append1 (P := P) (w0.alloc (.cells news.toArray e)) base t o.type e i0 z size bytes ht hi hz0 hz1 hz2 hzs v n xs (hown.alloc _) _ m m hm news hl
    (cells_new_add w0 news e) h1 (by unfold maxLen; omega) hby (by simp; omega)
  unfold Oper.wp execOp
  simp only [ho, resolve, invoke, builtin, Sem.run_bind, Sem.run_pure, Result.andThen_ok, List.map_toArray, List.map_cons, List.map_nil, hs, hx, hr]
  refine hK g cap w' hown' ⟨?_, ?_⟩
  · exact ⟨hgrow.os, hgrow.tape, hgrow.output, Nat.le_trans (by simp) hgrow.size, fun k hk hne => (hgrow.block k (by simp; omega) hne).trans (Below.heap_alloc w0 _ k hk)⟩
  · intro k hk
    simp only [Value.ownBlock, Option.some.injEq] at hk
    subst hk
    rcases hg with hg | hg
    · right; rw [hg]; simp
    · exact .inl hg

def OwnF {α : Type} (f : α → List Value) (e : TypeId) (sz : Nat) (w : World) (B : Nat) (v : Value) (l : List α) : Prop := w.ownsRow B e sz v l.length (l.flatMap f)
section
variable {α : Type} {f : α → List Value} {e : TypeId} {sz : Nat} {w w' : World} {B : Nat} {v : Value} {l : List α}
theorem OwnF.sl (h : OwnF f e sz w B v l) : Sl w w.heap.size sz v l.length (l.flatMap f) := Sl.of_own h
theorem OwnF.nil (w : World) (B : Nat) : OwnF f e sz w B (.slice none 0 0) [] := World.ownsRow_nil w B e sz
theorem OwnF.lt (h : OwnF f e sz w B v l) : ∀ k, v.ownBlock = some k → B ≤ k ∧ k < w.heap.size := World.ownsRow.lt h
theorem OwnF.kept (h : OwnF f e sz w B v l) {row : Option Nat} (hg : w.grownBy w' row) (hne : v.ownBlock = none ∨ v.ownBlock ≠ row) : OwnF f e sz w' B v l := World.ownsRow.kept h hg hne
theorem OwnF.below (h : OwnF f e sz w B v l) (hb : Below w.heap.size w w') : OwnF f e sz w' B v l :=
  World.ownsRow.kept h (row := none) ⟨hb.os, hb.tape, hb.output, hb.size, fun k hk _ => hb.block k hk⟩ (by cases v.ownBlock <;> simp)
theorem OwnF.keepB {N : Nat} (h : OwnF f e sz w B v l) (hb : Below N w w') (hv : ∀ k, v.ownBlock = some k → k < N) : OwnF f e sz w' B v l := by
  obtain ⟨h1, h2⟩ := h
  refine ⟨h1, ?_⟩
  rcases h2 with h2 | ⟨g, cap, cur, rfl, hg, hh, r⟩
  · exact .inl h2
  · exact .inr ⟨g, cap, cur, rfl, hg, (hb.block g (hv g rfl)).trans hh, r⟩
theorem OwnF.drew (h : OwnF f e sz w B v l) : OwnF f e sz w.drew B v l := h
theorem OwnF.alloc (h : OwnF f e sz w B v l) (o : Obj) : OwnF f e sz (w.alloc o) B v l := World.ownsRow.alloc h o
theorem OwnF.base {B' : Nat} (h : OwnF f e sz w B v l) (hB : B' ≤ B) : OwnF f e sz w B' v l := by
  obtain ⟨h1, h2⟩ := h
  refine ⟨h1, ?_⟩
  rcases h2 with h2 | ⟨g, cap, cur, hv, hg, r⟩
  · exact .inl h2
  · exact .inr ⟨g, cap, cur, hv, by omega, r⟩
theorem OwnF.form (h : OwnF f e sz w B v l) : (v = .slice none 0 0 ∧ l = []) ∨ ∃ g cap, v = .slice (some ⟨g, 0, none⟩) l.length cap ∧ B ≤ g ∧ g < w.heap.size := by
  obtain ⟨h1, h2⟩ := h
  rcases h2 with ⟨h2, h3⟩ | ⟨g, cap, cur, hv, hg, hh, r⟩
  · exact .inl ⟨h2, List.eq_nil_of_length_eq_zero h3⟩
  · exact .inr ⟨g, cap, hv, hg, (Array.getElem?_eq_some_iff.1 hh).1⟩

theorem wp_appF {P : Program} {o : Oper} {a : Act} {K : Act → World → Prop} {Q : Exit → Act → World → Prop} (s x : Operand) (t : TypeId)
    (ho : o.op = .call { callee := .builtin .append, args := #[s, x], argTypes := #[t, t] })
    (z : Value) (bytes : Nat) (ht : P.underlying t = some (.slice e)) (hinfo : (P.info? e).map (fun i => (i.zero, i.size, i.bytes)) = some (some z, sz, bytes))
    (hzs : z.cells.size = sz) {w0 : World} (hown : OwnF f e sz w0 B v l) (y : α) (hbase : B ≤ w0.heap.size) (hs : a.eval s = v)
    {g0 : Nat} (hx : a.eval x = .slice (some ⟨g0, 0, none⟩) 1 1) (hg0 : g0 = w0.heap.size) (hl : (f y).length = sz) (h1 : ∀ u ∈ f y, u.oneCell' = true) (hn : l.length + 1 ≤ 9223372036854775807) (hby : (l.length + 1) * bytes ≤ 140737488355328)
    (hK : ∀ g cap w', OwnF f e sz w' B (.slice (some ⟨g, 0, none⟩) (l.length + 1) cap) (l ++ [y]) → Grw w0 w' v (.slice (some ⟨g, 0, none⟩) (l.length + 1) cap) → K (a.put o.dst (.slice (some ⟨g, 0, none⟩) (l.length + 1) cap)) w') :
    o.wp P a (w0.alloc (.cells (f y).toArray e)) K Q :=
  wp_append1 s x t ho e z sz bytes ht hinfo hzs hs hown hbase (by omega) hx hg0 (by simpa using hl) h1 hn hby fun g cap w' h2 h3 => hK g cap w' (by simpa [OwnF, List.flatMap_append] using h2) h3

theorem wpList_appF {P : Program} {ops : Array Oper} {rest : List Oper} {o : Oper} {a : Act} {Q : Exit → Act → World → Prop} (hgd : o.guard = none) (s x : Operand) (t : TypeId)
    (ho : o.op = .call { callee := .builtin .append, args := #[s, x], argTypes := #[t, t] })
    (z : Value) (bytes : Nat) (ht : P.underlying t = some (.slice e)) (hinfo : (P.info? e).map (fun i => (i.zero, i.size, i.bytes)) = some (some z, sz, bytes))
    (hzs : z.cells.size = sz) {w0 : World} (hown : OwnF f e sz w0 B v l) (y : α) (hbase : B ≤ w0.heap.size) (hs : a.eval s = v)
    {g0 : Nat} (hx : a.eval x = .slice (some ⟨g0, 0, none⟩) 1 1) (hg0 : g0 = w0.heap.size) (hl : (f y).length = sz) (h1 : ∀ u ∈ f y, u.oneCell' = true) (hn : l.length + 1 ≤ 9223372036854775807) (hby : (l.length + 1) * bytes ≤ 140737488355328)
    (hK : ∀ g cap w', OwnF f e sz w' B (.slice (some ⟨g, 0, none⟩) (l.length + 1) cap) (l ++ [y]) → Grw w0 w' v (.slice (some ⟨g, 0, none⟩) (l.length + 1) cap) → wpList P ops Q rest (a.put o.dst (.slice (some ⟨g, 0, none⟩) (l.length + 1) cap)) w') :
    wpList P ops Q (o :: rest) a (w0.alloc (.cells (f y).toArray e)) :=
  wpList_plain hgd fun _ hK' => wp_appF s x t ho z bytes ht hinfo hzs hown y hbase hs hx hg0 hl h1 hn hby fun g cap w' h2 h3 => hK' _ _ (hK g cap w' h2 h3)

theorem wp_appFs {P : Program} {o : Oper} {a : Act} {K : Act → World → Prop} {Q : Exit → Act → World → Prop} (s x : Operand) (t : TypeId)
    (ho : o.op = .call { callee := .builtin .append, args := #[s, x], argTypes := #[t, t] })
    (z : Value) (bytes : Nat) (ht : P.underlying t = some (.slice e)) (hinfo : (P.info? e).map (fun i => (i.zero, i.size, i.bytes)) = some (some z, sz, bytes))
    (hzs : z.cells.size = sz) {w0 : World} (hown : OwnF f e sz w0 B v l) (ys : List α) {m : Nat} (hm : ys.length = m) (hm0 : 0 < m) (hbase : B ≤ w0.heap.size) (hs : a.eval s = v)
    {g0 : Nat} (hx : a.eval x = .slice (some ⟨g0, 0, none⟩) m m) (hg0 : g0 = w0.heap.size) (hl : ∀ y, (f y).length = sz) (h1 : ∀ y, ∀ u ∈ f y, u.oneCell' = true) (hn : l.length + m ≤ 9223372036854775807) (hby : (l.length + m) * bytes ≤ 140737488355328)
    (hK : ∀ g cap w', OwnF f e sz w' B (.slice (some ⟨g, 0, none⟩) (l.length + m) cap) (l ++ ys) → Grw w0 w' v (.slice (some ⟨g, 0, none⟩) (l.length + m) cap) → K (a.put o.dst (.slice (some ⟨g, 0, none⟩) (l.length + m) cap)) w') :
    o.wp P a (w0.alloc (.cells (ys.flatMap f).toArray e)) K Q :=
  wp_append1 s x t ho e z sz bytes ht hinfo hzs hs hown hbase hm0 hx hg0 (by rw [flat_length f sz hl, hm]) (fun u hu => by obtain ⟨y, _, hy⟩ := List.mem_flatMap.1 hu; exact h1 y u hy) hn hby
    fun g cap w' h2 h3 => hK g cap w' (by simpa [OwnF, List.flatMap_append, hm] using h2) h3

theorem wpList_appFs {P : Program} {ops : Array Oper} {rest : List Oper} {o : Oper} {a : Act} {Q : Exit → Act → World → Prop} (hgd : o.guard = none) (s x : Operand) (t : TypeId)
    (ho : o.op = .call { callee := .builtin .append, args := #[s, x], argTypes := #[t, t] })
    (z : Value) (bytes : Nat) (ht : P.underlying t = some (.slice e)) (hinfo : (P.info? e).map (fun i => (i.zero, i.size, i.bytes)) = some (some z, sz, bytes))
    (hzs : z.cells.size = sz) {w0 : World} (hown : OwnF f e sz w0 B v l) (ys : List α) {m : Nat} (hm : ys.length = m) (hm0 : 0 < m) (hbase : B ≤ w0.heap.size) (hs : a.eval s = v)
    {g0 : Nat} (hx : a.eval x = .slice (some ⟨g0, 0, none⟩) m m) (hg0 : g0 = w0.heap.size) (hl : ∀ y, (f y).length = sz) (h1 : ∀ y, ∀ u ∈ f y, u.oneCell' = true) (hn : l.length + m ≤ 9223372036854775807) (hby : (l.length + m) * bytes ≤ 140737488355328)
    (hK : ∀ g cap w', OwnF f e sz w' B (.slice (some ⟨g, 0, none⟩) (l.length + m) cap) (l ++ ys) → Grw w0 w' v (.slice (some ⟨g, 0, none⟩) (l.length + m) cap) → wpList P ops Q rest (a.put o.dst (.slice (some ⟨g, 0, none⟩) (l.length + m) cap)) w') :
    wpList P ops Q (o :: rest) a (w0.alloc (.cells (ys.flatMap f).toArray e)) :=
  wpList_plain hgd fun _ hK' => wp_appFs s x t ho z bytes ht hinfo hzs hown ys hm hm0 hbase hs hx hg0 hl h1 hn hby fun g cap w' h2 h3 => hK' _ _ (hK g cap w' h2 h3)

theorem OwnF.lit (w : World) (B : Nat) (hB : B ≤ w.heap.size) (l : List α) (hl : ∀ y, (f y).length = sz) (hn : l.length ≤ 9223372036854775807) :
    OwnF f e sz (w.alloc (.cells (l.flatMap f).toArray e)) B (.slice (some ⟨w.heap.size, 0, none⟩) l.length l.length) l := by
  refine ⟨flat_length f sz hl l, .inr ⟨w.heap.size, l.length, _, rfl, hB, heap_alloc_new w _, Nat.le_refl _, by unfold maxLen; omega, by simp [flat_length f sz hl l], ?_⟩⟩
  rw [← flat_length f sz hl l]
  exact List.take_length
end

/-! ### A result that lies in a block of its own -/
theorem row_cell {w : World} {g : Nat} {cs : Array Value} {t : TypeId} {fz : Nat × Nat} (h : w.heap[g]? = some (.cells cs t fz)) (j : Nat) : w.cell? ⟨g, j, none⟩ = cs[j]? := by
  simp only [World.cell?, h, Option.isSome_none, Bool.false_eq_true, if_false]
theorem row_free {w : World} {g : Nat} {cs : Array Value} {t : TypeId} (h : w.heap[g]? = some (.cells cs t (0, 0))) (j : Nat) : w.frozen? ⟨g, j, none⟩ = false := by
  simp [World.frozen?, h]
theorem row_set {w : World} {g : Nat} {cs : Array Value} {t : TypeId} {fz : Nat × Nat} (h : w.heap[g]? = some (.cells cs t fz)) (j : Nat) (v : Value) : (w.setCell ⟨g, j, none⟩ v).heap[g]? = some (.cells (cs.setIfInBounds j v) t fz) := by
  simp [World.setCell, Array.getElem?_modify, h]
theorem row_new (w : World) (o : Obj) : (w.alloc o).heap[w.heap.size]? = some o := heap_alloc_new w o
theorem row_old {w : World} {o : Obj} {g : Nat} {x : Obj} (h : w.heap[g]? = some x) : (w.alloc o).heap[g]? = some x :=
  (Below.heap_alloc w o g (Array.getElem?_eq_some_iff.1 h).1).trans h
theorem row_lt {w : World} {g : Nat} {x : Obj} (h : w.heap[g]? = some x) : g < w.heap.size := (Array.getElem?_eq_some_iff.1 h).1
theorem row_below {w w' : World} {B g : Nat} {x : Obj} (h : w.heap[g]? = some x) (hb : Below B w w') (hg : g < B) : w'.heap[g]? = some x := (hb.block g hg).trans h
theorem row_grw {w w' : World} {v v' : Value} {g : Nat} {x : Obj} (h : w.heap[g]? = some x) (hb : Grw w w' v v') (hg : v.ownBlock ≠ some g) : w'.heap[g]? = some x :=
  (hb.grown.block g (row_lt h) (fun e => hg e.symm)).trans h
theorem row_drew {w : World} {g : Nat} {x : Obj} (h : w.heap[g]? = some x) : w.drew.heap[g]? = some x := h
theorem row_other {w : World} {g g' j : Nat} {x : Obj} {v : Value} (h : w.heap[g]? = some x) (hne : g' ≠ g) : (w.setCell ⟨g', j, none⟩ v).heap[g]? = some x :=
  (Below.heap_setCell w ⟨g', j, none⟩ v g (fun e => hne e.symm)).trans h
section
variable {α : Type} {f : α → List Value} {e : TypeId} {sz : Nat} {w w' : World} {B : Nat} {v : Value} {l : List α}
theorem OwnF.set (h : OwnF f e sz w B v l) {g j : Nat} {u : Value} (hg : g < B) : OwnF f e sz (w.setCell ⟨g, j, none⟩ u) B v l := ownsRow_setCell_below h (a := ⟨g, j, none⟩) hg u
theorem OwnF.grw {v1 v2 : Value} (h : OwnF f e sz w B v l) (hb : Grw w w' v1 v2) (hne : ∀ k, v.ownBlock = some k → v1.ownBlock ≠ some k) : OwnF f e sz w' B v l := by
  refine h.kept hb.grown ?_
  cases hv : v.ownBlock with
  | none => exact .inl rfl
  | some k => exact .inr (fun e => hne k hv e.symm)
end
theorem drew_alloc (w : World) (o : Obj) : (w.alloc o).drew = w.drew.alloc o := rfl
theorem row_new' {w : World} {o : Obj} {g : Nat} (hg : g = w.heap.size) : (w.alloc o).heap[g]? = some o := by rw [hg]; exact row_new w o

theorem wp_appS {α : Type} {f : α → List Value} {e : TypeId} {sz B N : Nat} {v u : Value} {l : List α} {P : Program} {o : Oper} {a : Act} {K : Act → World → Prop} {Q : Exit → Act → World → Prop} (s x : Operand) (t : TypeId)
    (ho : o.op = .call { callee := .builtin .append, args := #[s, x], argTypes := #[t, t] })
    (z : Value) (bytes : Nat) (ht : P.underlying t = some (.slice e)) (hinfo : (P.info? e).map (fun i => (i.zero, i.size, i.bytes)) = some (some z, sz, bytes))
    (hzs : z.cells.size = sz) {w : World} (hown : OwnF f e sz w B v l) (ys : List α) {m : Nat} (hm : ys.length = m) (hm0 : 0 < m) (hsrc : Sl w N sz u m (ys.flatMap f)) (hbase : B ≤ w.heap.size) (hs : a.eval s = v)
    (hx : a.eval x = u) (hl : ∀ y, (f y).length = sz) (h1 : ∀ y, ∀ u ∈ f y, u.oneCell' = true) (hn : l.length + m ≤ 9223372036854775807) (hby : (l.length + m) * bytes ≤ 140737488355328)
    (hK : ∀ g cap w', OwnF f e sz w' B (.slice (some ⟨g, 0, none⟩) (l.length + m) cap) (l ++ ys) → Grw w w' v (.slice (some ⟨g, 0, none⟩) (l.length + m) cap) → K (a.put o.dst (.slice (some ⟨g, 0, none⟩) (l.length + m) cap)) w') :
    o.wp P a w K Q := by
  obtain ⟨i0, hi, hz0, hz1, hz2⟩ := info_parts hinfo
  obtain ⟨ad, c, rfl, hml, hsl, hc⟩ := hsrc
  obtain ⟨b, off, rfl, hb, hc⟩ := hc hm0
  obtain ⟨g, cap, w', hr, hown', hgrow, hg⟩ := run_append1 (P := P) w B t o.type e i0 z sz bytes ht hi hz0 hz1 hz2 hzs v l.length (l.flatMap f) hown ⟨b, off, none⟩ m c hm0 (ys.flatMap f) hsl
    (fun j u hu => by
      have hadd : ((⟨b, off, none⟩ : Addr).add j) = ⟨b, off + j, none⟩ := by unfold Addr.add; split <;> simp_all
      rw [hadd]; exact hc j u hu) (fun u hu => by obtain ⟨y, _, hy⟩ := List.mem_flatMap.1 hu; exact h1 y u hy) (by unfold maxLen; omega) hby hbase
  unfold Oper.wp execOp
  simp only [ho, resolve, invoke, builtin, Sem.run_bind, Sem.run_pure, Result.andThen_ok, List.map_toArray, List.map_cons, List.map_nil, hs, hx, hr]
  refine hK g cap w' ?_ ⟨hgrow, ?_⟩
  · unfold OwnF
    rw [List.flatMap_append, List.length_append, hm]
    exact hown'
  · intro k hk
    simp only [Value.ownBlock, Option.some.injEq] at hk
    subst hk
    rcases hg with hg | hg
    · right; omega
    · exact .inl hg
theorem wpList_appS {α : Type} {f : α → List Value} {e : TypeId} {sz B N : Nat} {v u : Value} {l : List α} {P : Program} {ops : Array Oper} {rest : List Oper} {o : Oper} {a : Act} {Q : Exit → Act → World → Prop} (hgd : o.guard = none) (s x : Operand) (t : TypeId)
    (ho : o.op = .call { callee := .builtin .append, args := #[s, x], argTypes := #[t, t] })
    (z : Value) (bytes : Nat) (ht : P.underlying t = some (.slice e)) (hinfo : (P.info? e).map (fun i => (i.zero, i.size, i.bytes)) = some (some z, sz, bytes))
    (hzs : z.cells.size = sz) {w : World} (hown : OwnF f e sz w B v l) (ys : List α) {m : Nat} (hm : ys.length = m) (hm0 : 0 < m) (hsrc : Sl w N sz u m (ys.flatMap f)) (hbase : B ≤ w.heap.size) (hs : a.eval s = v)
    (hx : a.eval x = u) (hl : ∀ y, (f y).length = sz) (h1 : ∀ y, ∀ u ∈ f y, u.oneCell' = true) (hn : l.length + m ≤ 9223372036854775807) (hby : (l.length + m) * bytes ≤ 140737488355328)
    (hK : ∀ g cap w', OwnF f e sz w' B (.slice (some ⟨g, 0, none⟩) (l.length + m) cap) (l ++ ys) → Grw w w' v (.slice (some ⟨g, 0, none⟩) (l.length + m) cap) → wpList P ops Q rest (a.put o.dst (.slice (some ⟨g, 0, none⟩) (l.length + m) cap)) w') :
    wpList P ops Q (o :: rest) a w :=
  wpList_plain hgd fun _ hK' => wp_appS s x t ho z bytes ht hinfo hzs hown ys hm hm0 hsrc hbase hs hx hl h1 hn hby fun g cap w' h2 h3 => hK' _ _ (hK g cap w' h2 h3)
end Go.Proofs.YtogphaiomlfofaaGreatDoor
