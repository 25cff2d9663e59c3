/- Programs of the engines and the walk through them: what they are. Words for memory that the call makes: append, lists that are written out, blocks. The walk through a program, in memory: of, Done, Tx, ID. Conditions: those of each theorem, as typed. Merged by program out of 3 texts. -/
import Derived.Test.YtogphaiomlfofaaDoorQD01
set_option linter.unusedVariables false
set_option linter.unusedSimpArgs false
namespace Go.Proofs.YtogphaiomlfofaaDoor

structure Pg where
  cells : List Int
  threads : List (List (List Ac))
structure Th where
  tx : Nat
  act : Nat
  begun : Bool
  adding : Bool
  read : Int
  waits : Int
def Th.zero : Th := ⟨0, 0, false, false, 0, 0⟩
def Th.cells (t : Th) : List Value := [.int .i64 t.tx, .int .i64 t.act, .bool t.begun, .bool t.adding, .int .i64 t.read, .int .i64 t.waits]
theorem Th.len (t : Th) : t.cells.length = 6 := rfl
structure Wst where
  ths : List Th
  evs : List Ev
def idOf (i k : Nat) : Int := 3 * i + k + 1
def ev0 (kind : Int) : Ev := ⟨kind, 0, 0, 0, 0, 0, 0, 0⟩
def Pg.txs (p : Pg) (i : Nat) : List (List Ac) := p.threads.getD i []
def Pg.acts (p : Pg) (i k : Nat) : List Ac := (p.txs i).getD k []
def thDone (p : Pg) (i : Nat) (t : Th) : Bool := t.tx == (p.txs i).length
def askOf (t : Th) (a : Ac) : Ev :=
  if a.kind = 2 then ⟨2, 0, 0, a.cell, 2, 0, a.val, 0⟩
  else if a.kind = 3 ∧ t.adding = true then ⟨2, 0, 0, a.cell, 2, 0, a.val + t.read, 0⟩
  else ⟨2, 0, 0, a.cell, 1, 0, 0, 0⟩
def ownEv (p : Pg) (i : Nat) (t : Th) : Ev :=
  if t.begun = false then { ev0 1 with thread := i }
  else match (p.acts i t.tx)[t.act]? with
    | none => ev0 4
    | some a => if a.kind = 4 then ev0 7 else askOf t a
def withTx (e : Ev) (x : Int) : Ev := { e with tx := x }
def nextOf (p : Pg) (i : Nat) (t : Th) : Option (Th × Ev) :=
  if thDone p i t = true ∨ t.waits ≠ 0 then none
  else
    let e := withTx (ownEv p i t) (idOf i t.tx)
    if t.begun = false then some ({ t with begun := true }, e) else some ({ t with waits := e.kind }, e)
def within9 (n : Int) : Bool := decide (-1000000000 ≤ n) && decide (n ≤ 1000000000)
def ansOf (p : Pg) (i : Nat) (t : Th) (val : Int) (abort : Bool) : Option (Th × Ev) :=
  if thDone p i t = true ∨ t.waits = 0 then none
  else if abort = true then some ({ Th.zero with tx := t.tx + 1 }, withTx (ev0 6) (idOf i t.tx))
  else if t.waits = 4 then some ({ Th.zero with tx := t.tx + 1 }, withTx (ev0 5) (idOf i t.tx))
  else if t.waits = 7 then none
  else match (p.acts i t.tx)[t.act]? with
    | none => none
    | some a =>
      if a.kind = 1 ∨ (a.kind = 3 ∧ t.adding = false) then
        if within9 val = false ∨ (a.kind = 3 ∧ within9 (val + a.val) = false) then none
        else if a.kind = 3 then some ({ t with waits := 0, adding := true, read := val }, withTx { ev0 3 with ret := 3, val := val } (idOf i t.tx))
        else some ({ t with waits := 0, act := t.act + 1 }, withTx { ev0 3 with ret := 3, val := val } (idOf i t.tx))
      else some ({ t with waits := 0, adding := false, act := t.act + 1 }, withTx { ev0 3 with ret := 1 } (idOf i t.tx))
def Wst.put (s : Wst) (i : Nat) (x : Th × Ev) : Wst := ⟨s.ths.set i x.1, s.evs ++ [x.2]⟩
structure PgOk (p : Pg) : Prop where
  cells : 1 ≤ p.cells.length ∧ p.cells.length ≤ 4
  cell : ∀ c ∈ p.cells, -1000000 ≤ c ∧ c ≤ 1000000
  threads : 1 ≤ p.threads.length ∧ p.threads.length ≤ 4
  txs : ∀ t ∈ p.threads, t.length ≤ 3
  acts : ∀ t ∈ p.threads, ∀ l ∈ t, 1 ≤ l.length ∧ l.length ≤ 6
  act : ∀ t ∈ p.threads, ∀ l ∈ t, ∀ (k : Nat) (a : Ac), l[k]? = some a → (a.kind = 4 ∧ k + 1 = l.length ∧ a.cell = 0 ∧ a.val = 0) ∨ ((a.kind = 1 ∧ a.val = 0 ∨ a.kind = 2 ∨ a.kind = 3) ∧ 0 ≤ a.cell ∧ a.cell < p.cells.length ∧ -1000 ≤ a.val ∧ a.val ≤ 1000)
structure ThOk (p : Pg) (i : Nat) (t : Th) : Prop where
  tx : t.tx ≤ (p.txs i).length
  act : t.act ≤ (p.acts i t.tx).length
  waits : t.waits = 0 ∨ t.begun = true ∧ ((t.waits = 2 ∧ ∃ a, (p.acts i t.tx)[t.act]? = some a ∧ a.kind ≠ 4) ∨ (t.waits = 4 ∧ t.act = (p.acts i t.tx).length) ∨ (t.waits = 7 ∧ ∃ a, (p.acts i t.tx)[t.act]? = some a ∧ a.kind = 4))
  read : -1000000000 ≤ t.read ∧ t.read ≤ 1000000000
end Go.Proofs.YtogphaiomlfofaaDoor
namespace Go.Proofs.YtogphaiomlfofaaDoor
open Go.RowKit

/-! ### One element more: append(s, x) -/
theorem cells_new_add (w : World) (l : List Value) (t : TypeId) : ∀ (j : Nat) (u : Value), l[j]? = some u → (w.alloc (.cells l.toArray t)).cell? ((⟨w.heap.size, 0, none⟩ : Addr).add j) = some u := by
  intro j u hu
  have hadd : ((⟨w.heap.size, 0, none⟩ : Addr).add j) = ⟨w.heap.size, j, none⟩ := by unfold Addr.add; split <;> simp_all
  rw [hadd, cell_new]
  simpa using hu

theorem own_fresh {w : World} {base n m old : Nat} {e : TypeId} {i : TypeInfo} {z : Value} {xs news : List Value} (hl : (xs ++ news).length = (n + m) * i.size) (hzs : z.cells.size = i.size)
    (h63 : n + m ≤ maxLen) (hbase : base ≤ w.heap.size) (row : Option Nat) :
    (w.drew.alloc (.cells (xs.toArray ++ news.toArray ++ Builtin.zeroCells z.cells (grownCap w (n + m) old e - (n + m))) e)).ownsRow base e i.size
        (.slice (some ⟨w.heap.size, 0, none⟩) (n + m) (grownCap w (n + m) old e)) (n + m) (xs ++ news) ∧
      w.grownBy (w.drew.alloc (.cells (xs.toArray ++ news.toArray ++ Builtin.zeroCells z.cells (grownCap w (n + m) old e - (n + m))) e)) row := by
  have hge := grownCap_ge w (n + m) old e
  have hcm : grownCap w (n + m) old e ≤ maxLen := grownCap_le_maxLen w (n + m) old e h63
  have hl2 : xs.length + news.length = (n + m) * i.size := by rw [← List.length_append]; exact hl
  refine ⟨⟨hl, .inr ⟨w.heap.size, _, _, rfl, hbase, heap_alloc_new w.drew _, hge, hcm, ?_, ?_⟩⟩, ⟨rfl, rfl, rfl, by simp, fun k hk _ => Below.heap_alloc w.drew _ k hk⟩⟩
  · simp only [Array.size_append, List.size_toArray, size_zeroCells, hzs]
    rw [hl2, ← Nat.add_mul]
    congr 1
    omega
  · simp only [Array.toList_append, List.append_assoc]
    rw [← List.append_assoc, ← hl]
    exact List.take_left

theorem run_append1 {P : Program} (w : World) (base : Nat) (t ty e : TypeId) (i : TypeInfo) (z : Value) (size bytes : Nat) (ht : P.underlying t = some (.slice e)) (hi : P.info? e = some i) (hz : i.zero = some z)
    (hsize : i.size = size) (hby : i.bytes = bytes) (hzs : z.cells.size = size) (v : Value) (n : Nat) (xs : List Value) (hown : w.ownsRow base e size v n xs)
    (a : Addr) (m c : Nat) (hm : 0 < m) (news : List Value) (hl : news.length = m * size) (hnews : ∀ j u, news[j]? = some u → w.cell? (a.add j) = some u) (h1 : ∀ u ∈ news, u.oneCell' = true)
    (h63 : n + m ≤ maxLen) (hbytes : (n + m) * bytes ≤ 140737488355328) (hbase : base ≤ w.heap.size) :
    ∃ g cap w', (Builtin.append_ #[t, t] ty #[v, .slice (some a) m c]).run P w = .ok (.slice (some ⟨g, 0, none⟩) (n + m) cap) w' ∧ w'.ownsRow base e size (.slice (some ⟨g, 0, none⟩) (n + m) cap) (n + m) (xs ++ news) ∧ w.grownBy w' v.ownBlock ∧
      (g = w.heap.size ∨ v.ownBlock = some g) := by
  subst hsize
  subst hby
  have hsmall : n + m ≤ 9223372036854775807 := by simp only [maxLen] at h63; omega
  have hlen : (xs ++ news).length = (n + m) * i.size := by rw [List.length_append, hown.1, hl, Nat.add_mul]
  rcases hown.2 with ⟨rfl, rfl⟩ | ⟨g, cap, cur, rfl, hbg, hg, hnc, hcm, hcs, htake⟩
  · have hx : xs = [] := List.eq_nil_of_length_eq_zero (by simpa using hown.1)
    subst hx
    have hr := run_append_nil (P := P) w t ty e i z ht hi hz a m c news hl hnews hm (by omega) (by have hb := hbytes; simp only [Nat.zero_add] at hb; omega)
    have hgr := own_fresh (old := 0) (e := e) (z := z) hlen hzs h63 hbase (Value.ownBlock (.slice none 0 0))
    simp only [Nat.zero_add, List.nil_append, Array.empty_append] at hgr ⊢
    exact ⟨_, _, _, hr, hgr.1, hgr.2, .inl rfl⟩
  · by_cases hroom : n + m ≤ cap
    · have hfit : n * i.size + news.length ≤ cur.size := by rw [hl, hcs, ← Nat.add_mul]; exact Nat.mul_le_mul_right _ hroom
      have hr := run_append_room (P := P) w t ty e i ht hi g n cap cur hg a m c news hl hnews h1 hroom hfit
      refine ⟨g, cap, _, hr, ⟨hlen, .inr ⟨g, cap, _, rfl, hbg, setRow_heap w g cur _ e _ hg, hroom, hcm, ?_, ?_⟩⟩, ⟨rfl, rfl, rfl, by simp, fun k _ hk => setRow_other w g k _ (fun e => hk (by simp [Value.ownBlock, e]))⟩, .inr rfl⟩
      · simp only [List.size_toArray, List.length_append, List.length_take, List.length_drop, Array.length_toList]
        omega
      · rw [htake, ← hlen]
        exact List.take_left
    · have holds : ∀ j u, xs[j]? = some u → w.cell? ((⟨g, 0, none⟩ : Addr).add j) = some u := hown.cells (g := g) rfl
      have hr := run_append_grow (P := P) w t ty e i z ht hi hz ⟨g, 0, none⟩ n cap xs hown.1 holds a m c news hl hnews (by omega) (by omega) (growslice_fits (by omega) hbytes)
      have hgr := own_fresh (old := cap) (e := e) (z := z) hlen hzs h63 hbase (Value.ownBlock (.slice (some ⟨g, 0, none⟩) n cap))
      exact ⟨_, _, _, hr, hgr.1, hgr.2, .inl rfl⟩

structure Grw (w w' : World) (v v' : Value) : Prop where
  grown : w.grownBy w' v.ownBlock
  own : ∀ k, v'.ownBlock = some k → v.ownBlock = some k ∨ w.heap.size ≤ k
theorem Grw.refl (w : World) (v : Value) : Grw w w v v := ⟨⟨rfl, rfl, rfl, Nat.le_refl _, fun _ _ _ => rfl⟩, fun _ h => .inl h⟩
theorem Grw.trans {w w1 w2 : World} {v v1 v2 : Value} (h : Grw w w1 v v1) (k : Grw w1 w2 v1 v2) : Grw w w2 v v2 := by
  refine ⟨⟨k.grown.os.trans h.grown.os, k.grown.tape.trans h.grown.tape, k.grown.output.trans h.grown.output, Nat.le_trans h.grown.size k.grown.size, fun b hb hne => ?_⟩, fun b hb => ?_⟩
  · have h1 := h.grown.block b hb hne
    have hb1 : b < w1.heap.size := Nat.lt_of_lt_of_le hb h.grown.size
    refine (k.grown.block b hb1 fun e => ?_).trans h1
    rcases h.own b e.symm with h2 | h2
    · exact hne h2.symm
    · omega
  · rcases k.own b hb with h2 | h2
    · exact h.own b h2
    · exact .inr (Nat.le_trans h.grown.size h2)
theorem Grw.below {w w' : World} {v v' : Value} {B : Nat} (h : Grw w w' v v') (hB : B ≤ w.heap.size) (hv : ∀ k, v.ownBlock = some k → B ≤ k) : Below B w w' :=
  (Below.refl B w).grown h.grown hB hv
theorem Grw.size {w w' : World} {v v' : Value} (h : Grw w w' v v') : w.heap.size ≤ w'.heap.size := h.grown.size
theorem Grw.drew {w w' : World} {v v' : Value} (h : Grw w w' v v') : Grw w w'.drew v v' := ⟨⟨h.grown.os, h.grown.tape, h.grown.output, h.grown.size, h.grown.block⟩, h.own⟩

theorem wp_append1 {P : Program} {o : Oper} {a : Act} {K : Act → World → Prop} {Q : Exit → Act → World → Prop} (s x : Operand) (t : TypeId)
    (ho : o.op = .call { callee := .builtin .append, args := #[s, x], argTypes := #[t, t] })
    (e : TypeId) (z : Value) (size bytes : Nat) (ht : P.underlying t = some (.slice e)) (hinfo : (P.info? e).map (fun i => (i.zero, i.size, i.bytes)) = some (some z, size, bytes))
    (hzs : z.cells.size = size) {base n m : Nat} {v : Value} {xs news : List Value} {w0 : World} (hs : a.eval s = v) (hown : w0.ownsRow base e size v n xs) (hbase : base ≤ w0.heap.size) (hm : 0 < m)
    {g0 : Nat} (hx : a.eval x = .slice (some ⟨g0, 0, none⟩) m m) (hg0 : g0 = w0.heap.size) (hl : news.length = m * size) (h1 : ∀ u ∈ news, u.oneCell' = true) (hn : n + m ≤ 9223372036854775807) (hby : (n + m) * bytes ≤ 140737488355328)
    (hK : ∀ g cap w', w'.ownsRow base e size (.slice (some ⟨g, 0, none⟩) (n + m) cap) (n + m) (xs ++ news) → Grw w0 w' v (.slice (some ⟨g, 0, none⟩) (n + m) cap) → K (a.put o.dst (.slice (some ⟨g, 0, none⟩) (n + m) cap)) w') :
    o.wp P a (w0.alloc (.cells news.toArray e)) K Q := by
  subst hg0
  obtain ⟨i0, hi, hz0, hz1, hz2⟩ := info_parts hinfo
  obtain ⟨g, cap, w', hr, hown', hgrow, hg⟩ := run_append1 (P := P) (w0.alloc (.cells news.toArray e)) base t o.type e i0 z size bytes ht hi hz0 hz1 hz2 hzs v n xs (hown.alloc _) _ m m hm news hl
    (cells_new_add w0 news e) h1 (by unfold maxLen; omega) hby (by simp; omega)
  unfold Oper.wp execOp
  simp only [ho, resolve, invoke, builtin, Sem.run_bind, Sem.run_pure, Result.andThen_ok, List.map_toArray, List.map_cons, List.map_nil, hs, hx, hr]
  refine hK g cap w' hown' ⟨?_, ?_⟩
  · exact ⟨hgrow.os, hgrow.tape, hgrow.output, Nat.le_trans (by simp) hgrow.size, fun k hk hne => (hgrow.block k (by simp; omega) hne).trans (Below.heap_alloc w0 _ k hk)⟩
  · intro k hk
    simp only [Value.ownBlock, Option.some.injEq] at hk
    subst hk
    rcases hg with hg | hg
    · right; rw [hg]; simp
    · exact .inl hg

def OwnF {α : Type} (f : α → List Value) (e : TypeId) (sz : Nat) (w : World) (B : Nat) (v : Value) (l : List α) : Prop := w.ownsRow B e sz v l.length (l.flatMap f)
section
variable {α : Type} {f : α → List Value} {e : TypeId} {sz : Nat} {w w' : World} {B : Nat} {v : Value} {l : List α}
theorem OwnF.sl (h : OwnF f e sz w B v l) : Sl w w.heap.size sz v l.length (l.flatMap f) := Sl.of_own h
theorem OwnF.nil (w : World) (B : Nat) : OwnF f e sz w B (.slice none 0 0) [] := World.ownsRow_nil w B e sz
theorem OwnF.lt (h : OwnF f e sz w B v l) : ∀ k, v.ownBlock = some k → B ≤ k ∧ k < w.heap.size := World.ownsRow.lt h
theorem OwnF.kept (h : OwnF f e sz w B v l) {row : Option Nat} (hg : w.grownBy w' row) (hne : v.ownBlock = none ∨ v.ownBlock ≠ row) : OwnF f e sz w' B v l := World.ownsRow.kept h hg hne
theorem OwnF.below (h : OwnF f e sz w B v l) (hb : Below w.heap.size w w') : OwnF f e sz w' B v l :=
  World.ownsRow.kept h (row := none) ⟨hb.os, hb.tape, hb.output, hb.size, fun k hk _ => hb.block k hk⟩ (by cases v.ownBlock <;> simp)
theorem OwnF.keepB {N : Nat} (h : OwnF f e sz w B v l) (hb : Below N w w') (hv : ∀ k, v.ownBlock = some k → k < N) : OwnF f e sz w' B v l := by
  obtain ⟨h1, h2⟩ := h
  refine ⟨h1, ?_⟩
  rcases h2 with h2 | ⟨g, cap, cur, rfl, hg, hh, r⟩
  · exact .inl h2
  · exact .inr ⟨g, cap, cur, rfl, hg, (hb.block g (hv g rfl)).trans hh, r⟩
theorem OwnF.drew (h : OwnF f e sz w B v l) : OwnF f e sz w.drew B v l := h
theorem OwnF.alloc (h : OwnF f e sz w B v l) (o : Obj) : OwnF f e sz (w.alloc o) B v l := World.ownsRow.alloc h o
theorem OwnF.base {B' : Nat} (h : OwnF f e sz w B v l) (hB : B' ≤ B) : OwnF f e sz w B' v l := by
  obtain ⟨h1, h2⟩ := h
  refine ⟨h1, ?_⟩
  rcases h2 with h2 | ⟨g, cap, cur, hv, hg, r⟩
  · exact .inl h2
  · exact .inr ⟨g, cap, cur, hv, by omega, r⟩
theorem OwnF.form (h : OwnF f e sz w B v l) : (v = .slice none 0 0 ∧ l = []) ∨ ∃ g cap, v = .slice (some ⟨g, 0, none⟩) l.length cap ∧ B ≤ g ∧ g < w.heap.size := by
  obtain ⟨h1, h2⟩ := h
  rcases h2 with ⟨h2, h3⟩ | ⟨g, cap, cur, hv, hg, hh, r⟩
  · exact .inl ⟨h2, List.eq_nil_of_length_eq_zero h3⟩
  · exact .inr ⟨g, cap, hv, hg, (Array.getElem?_eq_some_iff.1 hh).1⟩

theorem wp_appF {P : Program} {o : Oper} {a : Act} {K : Act → World → Prop} {Q : Exit → Act → World → Prop} (s x : Operand) (t : TypeId)
    (ho : o.op = .call { callee := .builtin .append, args := #[s, x], argTypes := #[t, t] })
    (z : Value) (bytes : Nat) (ht : P.underlying t = some (.slice e)) (hinfo : (P.info? e).map (fun i => (i.zero, i.size, i.bytes)) = some (some z, sz, bytes))
    (hzs : z.cells.size = sz) {w0 : World} (hown : OwnF f e sz w0 B v l) (y : α) (hbase : B ≤ w0.heap.size) (hs : a.eval s = v)
    {g0 : Nat} (hx : a.eval x = .slice (some ⟨g0, 0, none⟩) 1 1) (hg0 : g0 = w0.heap.size) (hl : (f y).length = sz) (h1 : ∀ u ∈ f y, u.oneCell' = true) (hn : l.length + 1 ≤ 9223372036854775807) (hby : (l.length + 1) * bytes ≤ 140737488355328)
    (hK : ∀ g cap w', OwnF f e sz w' B (.slice (some ⟨g, 0, none⟩) (l.length + 1) cap) (l ++ [y]) → Grw w0 w' v (.slice (some ⟨g, 0, none⟩) (l.length + 1) cap) → K (a.put o.dst (.slice (some ⟨g, 0, none⟩) (l.length + 1) cap)) w') :
    o.wp P a (w0.alloc (.cells (f y).toArray e)) K Q :=
  wp_append1 s x t ho e z sz bytes ht hinfo hzs hs hown hbase (by omega) hx hg0 (by simpa using hl) h1 hn hby fun g cap w' h2 h3 => hK g cap w' (by simpa [OwnF, List.flatMap_append] using h2) h3

theorem wpList_appF {P : Program} {ops : Array Oper} {rest : List Oper} {o : Oper} {a : Act} {Q : Exit → Act → World → Prop} (hgd : o.guard = none) (s x : Operand) (t : TypeId)
    (ho : o.op = .call { callee := .builtin .append, args := #[s, x], argTypes := #[t, t] })
    (z : Value) (bytes : Nat) (ht : P.underlying t = some (.slice e)) (hinfo : (P.info? e).map (fun i => (i.zero, i.size, i.bytes)) = some (some z, sz, bytes))
    (hzs : z.cells.size = sz) {w0 : World} (hown : OwnF f e sz w0 B v l) (y : α) (hbase : B ≤ w0.heap.size) (hs : a.eval s = v)
    {g0 : Nat} (hx : a.eval x = .slice (some ⟨g0, 0, none⟩) 1 1) (hg0 : g0 = w0.heap.size) (hl : (f y).length = sz) (h1 : ∀ u ∈ f y, u.oneCell' = true) (hn : l.length + 1 ≤ 9223372036854775807) (hby : (l.length + 1) * bytes ≤ 140737488355328)
    (hK : ∀ g cap w', OwnF f e sz w' B (.slice (some ⟨g, 0, none⟩) (l.length + 1) cap) (l ++ [y]) → Grw w0 w' v (.slice (some ⟨g, 0, none⟩) (l.length + 1) cap) → wpList P ops Q rest (a.put o.dst (.slice (some ⟨g, 0, none⟩) (l.length + 1) cap)) w') :
    wpList P ops Q (o :: rest) a (w0.alloc (.cells (f y).toArray e)) :=
  wpList_plain hgd fun _ hK' => wp_appF s x t ho z bytes ht hinfo hzs hown y hbase hs hx hg0 hl h1 hn hby fun g cap w' h2 h3 => hK' _ _ (hK g cap w' h2 h3)

theorem wp_appFs {P : Program} {o : Oper} {a : Act} {K : Act → World → Prop} {Q : Exit → Act → World → Prop} (s x : Operand) (t : TypeId)
    (ho : o.op = .call { callee := .builtin .append, args := #[s, x], argTypes := #[t, t] })
    (z : Value) (bytes : Nat) (ht : P.underlying t = some (.slice e)) (hinfo : (P.info? e).map (fun i => (i.zero, i.size, i.bytes)) = some (some z, sz, bytes))
    (hzs : z.cells.size = sz) {w0 : World} (hown : OwnF f e sz w0 B v l) (ys : List α) {m : Nat} (hm : ys.length = m) (hm0 : 0 < m) (hbase : B ≤ w0.heap.size) (hs : a.eval s = v)
    {g0 : Nat} (hx : a.eval x = .slice (some ⟨g0, 0, none⟩) m m) (hg0 : g0 = w0.heap.size) (hl : ∀ y, (f y).length = sz) (h1 : ∀ y, ∀ u ∈ f y, u.oneCell' = true) (hn : l.length + m ≤ 9223372036854775807) (hby : (l.length + m) * bytes ≤ 140737488355328)
    (hK : ∀ g cap w', OwnF f e sz w' B (.slice (some ⟨g, 0, none⟩) (l.length + m) cap) (l ++ ys) → Grw w0 w' v (.slice (some ⟨g, 0, none⟩) (l.length + m) cap) → K (a.put o.dst (.slice (some ⟨g, 0, none⟩) (l.length + m) cap)) w') :
    o.wp P a (w0.alloc (.cells (ys.flatMap f).toArray e)) K Q :=
  wp_append1 s x t ho e z sz bytes ht hinfo hzs hs hown hbase hm0 hx hg0 (by rw [flat_length f sz hl, hm]) (fun u hu => by obtain ⟨y, _, hy⟩ := List.mem_flatMap.1 hu; exact h1 y u hy) hn hby
    fun g cap w' h2 h3 => hK g cap w' (by simpa [OwnF, List.flatMap_append, hm] using h2) h3

theorem wpList_appFs {P : Program} {ops : Array Oper} {rest : List Oper} {o : Oper} {a : Act} {Q : Exit → Act → World → Prop} (hgd : o.guard = none) (s x : Operand) (t : TypeId)
    (ho : o.op = .call { callee := .builtin .append, args := #[s, x], argTypes := #[t, t] })
    (z : Value) (bytes : Nat) (ht : P.underlying t = some (.slice e)) (hinfo : (P.info? e).map (fun i => (i.zero, i.size, i.bytes)) = some (some z, sz, bytes))
    (hzs : z.cells.size = sz) {w0 : World} (hown : OwnF f e sz w0 B v l) (ys : List α) {m : Nat} (hm : ys.length = m) (hm0 : 0 < m) (hbase : B ≤ w0.heap.size) (hs : a.eval s = v)
    {g0 : Nat} (hx : a.eval x = .slice (some ⟨g0, 0, none⟩) m m) (hg0 : g0 = w0.heap.size) (hl : ∀ y, (f y).length = sz) (h1 : ∀ y, ∀ u ∈ f y, u.oneCell' = true) (hn : l.length + m ≤ 9223372036854775807) (hby : (l.length + m) * bytes ≤ 140737488355328)
    (hK : ∀ g cap w', OwnF f e sz w' B (.slice (some ⟨g, 0, none⟩) (l.length + m) cap) (l ++ ys) → Grw w0 w' v (.slice (some ⟨g, 0, none⟩) (l.length + m) cap) → wpList P ops Q rest (a.put o.dst (.slice (some ⟨g, 0, none⟩) (l.length + m) cap)) w') :
    wpList P ops Q (o :: rest) a (w0.alloc (.cells (ys.flatMap f).toArray e)) :=
  wpList_plain hgd fun _ hK' => wp_appFs s x t ho z bytes ht hinfo hzs hown ys hm hm0 hbase hs hx hg0 hl h1 hn hby fun g cap w' h2 h3 => hK' _ _ (hK g cap w' h2 h3)

theorem OwnF.lit (w : World) (B : Nat) (hB : B ≤ w.heap.size) (l : List α) (hl : ∀ y, (f y).length = sz) (hn : l.length ≤ 9223372036854775807) :
    OwnF f e sz (w.alloc (.cells (l.flatMap f).toArray e)) B (.slice (some ⟨w.heap.size, 0, none⟩) l.length l.length) l := by
  refine ⟨flat_length f sz hl l, .inr ⟨w.heap.size, l.length, _, rfl, hB, heap_alloc_new w _, Nat.le_refl _, by unfold maxLen; omega, by simp [flat_length f sz hl l], ?_⟩⟩
  rw [← flat_length f sz hl l]
  exact List.take_length
end

/-! ### A result that lies in a block of its own -/
theorem row_cell {w : World} {g : Nat} {cs : Array Value} {t : TypeId} {fz : Nat × Nat} (h : w.heap[g]? = some (.cells cs t fz)) (j : Nat) : w.cell? ⟨g, j, none⟩ = cs[j]? := by
  simp only [World.cell?, h, Option.isSome_none, Bool.false_eq_true, if_false]
theorem row_free {w : World} {g : Nat} {cs : Array Value} {t : TypeId} (h : w.heap[g]? = some (.cells cs t (0, 0))) (j : Nat) : w.frozen? ⟨g, j, none⟩ = false := by
  simp [World.frozen?, h]
theorem row_set {w : World} {g : Nat} {cs : Array Value} {t : TypeId} {fz : Nat × Nat} (h : w.heap[g]? = some (.cells cs t fz)) (j : Nat) (v : Value) : (w.setCell ⟨g, j, none⟩ v).heap[g]? = some (.cells (cs.setIfInBounds j v) t fz) := by
  simp [World.setCell, Array.getElem?_modify, h]
theorem row_new (w : World) (o : Obj) : (w.alloc o).heap[w.heap.size]? = some o := heap_alloc_new w o
theorem row_old {w : World} {o : Obj} {g : Nat} {x : Obj} (h : w.heap[g]? = some x) : (w.alloc o).heap[g]? = some x :=
  (Below.heap_alloc w o g (Array.getElem?_eq_some_iff.1 h).1).trans h
theorem row_lt {w : World} {g : Nat} {x : Obj} (h : w.heap[g]? = some x) : g < w.heap.size := (Array.getElem?_eq_some_iff.1 h).1
theorem row_below {w w' : World} {B g : Nat} {x : Obj} (h : w.heap[g]? = some x) (hb : Below B w w') (hg : g < B) : w'.heap[g]? = some x := (hb.block g hg).trans h
theorem row_grw {w w' : World} {v v' : Value} {g : Nat} {x : Obj} (h : w.heap[g]? = some x) (hb : Grw w w' v v') (hg : v.ownBlock ≠ some g) : w'.heap[g]? = some x :=
  (hb.grown.block g (row_lt h) (fun e => hg e.symm)).trans h
theorem row_drew {w : World} {g : Nat} {x : Obj} (h : w.heap[g]? = some x) : w.drew.heap[g]? = some x := h
theorem row_other {w : World} {g g' j : Nat} {x : Obj} {v : Value} (h : w.heap[g]? = some x) (hne : g' ≠ g) : (w.setCell ⟨g', j, none⟩ v).heap[g]? = some x :=
  (Below.heap_setCell w ⟨g', j, none⟩ v g (fun e => hne e.symm)).trans h
section
variable {α : Type} {f : α → List Value} {e : TypeId} {sz : Nat} {w w' : World} {B : Nat} {v : Value} {l : List α}
theorem OwnF.set (h : OwnF f e sz w B v l) {g j : Nat} {u : Value} (hg : g < B) : OwnF f e sz (w.setCell ⟨g, j, none⟩ u) B v l := ownsRow_setCell_below h (a := ⟨g, j, none⟩) hg u
theorem OwnF.grw {v1 v2 : Value} (h : OwnF f e sz w B v l) (hb : Grw w w' v1 v2) (hne : ∀ k, v.ownBlock = some k → v1.ownBlock ≠ some k) : OwnF f e sz w' B v l := by
  refine h.kept hb.grown ?_
  cases hv : v.ownBlock with
  | none => exact .inl rfl
  | some k => exact .inr (fun e => hne k hv e.symm)
end
theorem drew_alloc (w : World) (o : Obj) : (w.alloc o).drew = w.drew.alloc o := rfl
theorem row_new' {w : World} {o : Obj} {g : Nat} (hg : g = w.heap.size) : (w.alloc o).heap[g]? = some o := by rw [hg]; exact row_new w o

theorem wp_appS {α : Type} {f : α → List Value} {e : TypeId} {sz B N : Nat} {v u : Value} {l : List α} {P : Program} {o : Oper} {a : Act} {K : Act → World → Prop} {Q : Exit → Act → World → Prop} (s x : Operand) (t : TypeId)
    (ho : o.op = .call { callee := .builtin .append, args := #[s, x], argTypes := #[t, t] })
    (z : Value) (bytes : Nat) (ht : P.underlying t = some (.slice e)) (hinfo : (P.info? e).map (fun i => (i.zero, i.size, i.bytes)) = some (some z, sz, bytes))
    (hzs : z.cells.size = sz) {w : World} (hown : OwnF f e sz w B v l) (ys : List α) {m : Nat} (hm : ys.length = m) (hm0 : 0 < m) (hsrc : Sl w N sz u m (ys.flatMap f)) (hbase : B ≤ w.heap.size) (hs : a.eval s = v)
    (hx : a.eval x = u) (hl : ∀ y, (f y).length = sz) (h1 : ∀ y, ∀ u ∈ f y, u.oneCell' = true) (hn : l.length + m ≤ 9223372036854775807) (hby : (l.length + m) * bytes ≤ 140737488355328)
    (hK : ∀ g cap w', OwnF f e sz w' B (.slice (some ⟨g, 0, none⟩) (l.length + m) cap) (l ++ ys) → Grw w w' v (.slice (some ⟨g, 0, none⟩) (l.length + m) cap) → K (a.put o.dst (.slice (some ⟨g, 0, none⟩) (l.length + m) cap)) w') :
    o.wp P a w K Q := by
  obtain ⟨i0, hi, hz0, hz1, hz2⟩ := info_parts hinfo
  obtain ⟨ad, c, rfl, hml, hsl, hc⟩ := hsrc
  obtain ⟨b, off, rfl, hb, hc⟩ := hc hm0
  obtain ⟨g, cap, w', hr, hown', hgrow, hg⟩ := run_append1 (P := P) w B t o.type e i0 z sz bytes ht hi hz0 hz1 hz2 hzs v l.length (l.flatMap f) hown ⟨b, off, none⟩ m c hm0 (ys.flatMap f) hsl
    (fun j u hu => by
      have hadd : ((⟨b, off, none⟩ : Addr).add j) = ⟨b, off + j, none⟩ := by unfold Addr.add; split <;> simp_all
      rw [hadd]; exact hc j u hu) (fun u hu => by obtain ⟨y, _, hy⟩ := List.mem_flatMap.1 hu; exact h1 y u hy) (by unfold maxLen; omega) hby hbase
  unfold Oper.wp execOp
  simp only [ho, resolve, invoke, builtin, Sem.run_bind, Sem.run_pure, Result.andThen_ok, List.map_toArray, List.map_cons, List.map_nil, hs, hx, hr]
  refine hK g cap w' ?_ ⟨hgrow, ?_⟩
  · unfold OwnF
    rw [List.flatMap_append, List.length_append, hm]
    exact hown'
  · intro k hk
    simp only [Value.ownBlock, Option.some.injEq] at hk
    subst hk
    rcases hg with hg | hg
    · right; omega
    · exact .inl hg
theorem wpList_appS {α : Type} {f : α → List Value} {e : TypeId} {sz B N : Nat} {v u : Value} {l : List α} {P : Program} {ops : Array Oper} {rest : List Oper} {o : Oper} {a : Act} {Q : Exit → Act → World → Prop} (hgd : o.guard = none) (s x : Operand) (t : TypeId)
    (ho : o.op = .call { callee := .builtin .append, args := #[s, x], argTypes := #[t, t] })
    (z : Value) (bytes : Nat) (ht : P.underlying t = some (.slice e)) (hinfo : (P.info? e).map (fun i => (i.zero, i.size, i.bytes)) = some (some z, sz, bytes))
    (hzs : z.cells.size = sz) {w : World} (hown : OwnF f e sz w B v l) (ys : List α) {m : Nat} (hm : ys.length = m) (hm0 : 0 < m) (hsrc : Sl w N sz u m (ys.flatMap f)) (hbase : B ≤ w.heap.size) (hs : a.eval s = v)
    (hx : a.eval x = u) (hl : ∀ y, (f y).length = sz) (h1 : ∀ y, ∀ u ∈ f y, u.oneCell' = true) (hn : l.length + m ≤ 9223372036854775807) (hby : (l.length + m) * bytes ≤ 140737488355328)
    (hK : ∀ g cap w', OwnF f e sz w' B (.slice (some ⟨g, 0, none⟩) (l.length + m) cap) (l ++ ys) → Grw w w' v (.slice (some ⟨g, 0, none⟩) (l.length + m) cap) → wpList P ops Q rest (a.put o.dst (.slice (some ⟨g, 0, none⟩) (l.length + m) cap)) w') :
    wpList P ops Q (o :: rest) a w :=
  wpList_plain hgd fun _ hK' => wp_appS s x t ho z bytes ht hinfo hzs hown ys hm hm0 hsrc hbase hs hx hl h1 hn hby fun g cap w' h2 h3 => hK' _ _ (hK g cap w' h2 h3)
end Go.Proofs.YtogphaiomlfofaaDoor
namespace Go.Proofs.YtogphaiomlfofaaDoor
open Go.RowKit
set_option linter.unusedVariables false
set_option linter.unusedSimpArgs false
attribute [local irreducible] wpL

def intC (x : Int) : List Value := [.int .i64 x]
abbrev OwnI := OwnF intC 3 1
theorem flat_int (l : List Int) : l.flatMap intC = l.map (.int .i64) := by induction l with | nil => rfl | cons x l ih => simp [intC, ih]
def valC (v : Value) : List Value := [v]
theorem flat_val (l : List Value) : l.flatMap valC = l := by induction l with | nil => rfl | cons x l ih => simp [valC, ih]
abbrev OwnActs := OwnF Ac.cells 35 3
def OwnTxs (w : World) (B : Nat) (v : Value) (l : List (List Ac)) : Prop := ∃ vs, OwnF valC 33 1 w B v vs ∧ vs.length = l.length ∧ ∀ (k : Nat) (u : Value) (x : List Ac), vs[k]? = some u → l[k]? = some x → OwnActs w B u x
def OwnThr (w : World) (B : Nat) (v : Value) (l : List (List (List Ac))) : Prop := ∃ vs, OwnF valC 32 1 w B v vs ∧ vs.length = l.length ∧ ∀ (k : Nat) (u : Value) (x : List (List Ac)), vs[k]? = some u → l[k]? = some x → OwnTxs w B u x
theorem OwnF.at1 {e : TypeId} {w : World} {B n c : Nat} {a : Option Addr} {vs : List Value} (h : OwnF valC e 1 w B (.slice a n c) vs) (hn : vs.length = n) {k : Nat} (hk : k < n) : ∃ g u, a = some ⟨g, 0, none⟩ ∧ g < w.heap.size ∧ vs[k]? = some u ∧ w.cell? ⟨g, k, none⟩ = some u := by
  have hs : Sl w w.heap.size 1 (.slice a n c) n (vs.flatMap valC) := by rw [← hn] at h ⊢; exact h.sl
  rcases h.form with ⟨-, rfl⟩ | ⟨g, cap', e, hB, hg⟩
  · simp at hn; omega
  · simp only [Value.slice.injEq, Option.some.injEq] at e
    obtain ⟨rfl, -, rfl⟩ := e
    obtain ⟨b, off, u, hb, -, hu, hc⟩ := hs.at1 hk
    simp only [Option.some.injEq, Addr.mk.injEq, and_true] at hb
    obtain ⟨rfl, rfl⟩ := hb
    rw [flat_val] at hu
    exact ⟨g, u, rfl, hg, hu, by simpa using hc⟩
theorem OwnF.len {α : Type} {f : α → List Value} {e : TypeId} {sz B n c : Nat} {a : Option Addr} {w : World} {l : List α} (h : OwnF f e sz w B (.slice a n c) l) : l.length = n := by
  rcases h.form with ⟨h1, h2⟩ | ⟨g, cap, h1, -⟩
  · simp only [Value.slice.injEq] at h1
    rw [h2, h1.2.1]; rfl
  · simp only [Value.slice.injEq] at h1
    exact h1.2.1.symm
theorem OwnF.form2 {α : Type} {f : α → List Value} {e : TypeId} {sz B : Nat} {v : Value} {w : World} {l : List α} (h : OwnF f e sz w B v l) : ∃ a c, v = .slice a l.length c ∧ l.length ≤ 9223372036854775807 := h.sl.ex
structure WkAt (w : World) (B bW gT : Nat) (vc vt ve : Value) (P : Pg) (S : Wst) : Prop where
  row : w.heap[bW]? = some (.cells #[vc, vt, .slice (some ⟨gT, 0, none⟩) P.threads.length P.threads.length, ve] 98 (0, 0))
  hB : B ≤ bW
  cells : OwnI w B vc P.cells
  thr : OwnThr w B vt P.threads
  ths : OwnF Th.cells 114 6 w B (.slice (some ⟨gT, 0, none⟩) P.threads.length P.threads.length) S.ths
  evs : OwnF Ev.cells 50 8 w B ve S.evs
  ok : PgOk P
  tok : ∀ (i : Nat) (t : Th), S.ths[i]? = some t → ThOk P i t
theorem WkAt.at {w : World} {B bW gT : Nat} {vc vt ve : Value} {P : Pg} {S : Wst} (h : WkAt w B bW gT vc vt ve P S) {i : Nat} (hi : i < P.threads.length) : ∃ t, S.ths[i]? = some t ∧ ThOk P i t ∧ gT < w.heap.size ∧ ∀ j, j < 6 → w.cell? ⟨gT, i * 6 + j, none⟩ = t.cells[j]? := by
  have hl := h.ths.len
  have hs : Sl w w.heap.size 6 (.slice (some ⟨gT, 0, none⟩) P.threads.length P.threads.length) P.threads.length (S.ths.flatMap Th.cells) := by
    have h2 := h.ths
    rw [← hl] at h2 ⊢
    exact h2.sl
  obtain ⟨b, off, t, hb, hlt, ht, hc⟩ := Sl.atF Th.len hs hl hi
  simp only [Option.some.injEq, Addr.mk.injEq, and_true] at hb
  obtain ⟨rfl, rfl⟩ := hb
  exact ⟨t, ht, h.tok i t ht, hlt, fun j hj => by have := hc j hj; rwa [Nat.zero_add] at this⟩
theorem Pg.txs_at {P : Pg} {i : Nat} {x : List (List Ac)} (h : P.threads[i]? = some x) : P.txs i = x := by unfold Pg.txs; rw [List.getD_eq_getElem?_getD, h]; rfl
theorem WkAt.txs {w : World} {B bW gT : Nat} {vc vt ve : Value} {P : Pg} {S : Wst} (h : WkAt w B bW gT vc vt ve P S) {i : Nat} (hi : i < P.threads.length) : ∃ gt ct u c, vt = .slice (some ⟨gt, 0, none⟩) P.threads.length ct ∧ gt < w.heap.size ∧ w.cell? ⟨gt, i, none⟩ = some (.slice u (P.txs i).length c) ∧ OwnTxs w B (.slice u (P.txs i).length c) (P.txs i) := by
  obtain ⟨vs, h1, h2, h3⟩ := h.thr
  obtain ⟨a, ct, rfl, -⟩ := h1.form2
  rw [h2] at h1 ⊢
  obtain ⟨g, u, rfl, hg, hu, hc⟩ := h1.at1 h2 hi
  obtain ⟨x, hx⟩ : ∃ x, P.threads[i]? = some x := ⟨_, List.getElem?_eq_getElem hi⟩
  have h4 := h3 i u x hu hx
  rw [← Pg.txs_at hx] at h4
  obtain ⟨ws, k1, k2, k3⟩ := h4
  obtain ⟨b, c, rfl, -⟩ := k1.form2
  rw [k2] at k1 hc
  exact ⟨g, ct, b, c, rfl, hg, hc, ws, k1, k2, k3⟩
section
variable {w : World} {B bW gT : Nat} {vc vt ve : Value} {P : Pg} {S : Wst}
theorem wk_id (i k : Nat) (hi : i < 4) (hk : k < 3) (w : World) : Calls Tryd.prog 66 #[.int .i64 i, .int .i64 k] w fun e w' => e = .returned (.int .i64 (idOf i k)) ∧ w = w' := by
  have h1 : wrap64 (3 * (i : Int)) = 3 * (i : Int) := IntWalk.wrap64_in _ (by omega)
  have h2 : wrap64 (3 * (i : Int) + k) = 3 * (i : Int) + k := IntWalk.wrap64_in _ (by omega)
  have h3 : wrap64 (3 * (i : Int) + k + 1) = 3 * (i : Int) + k + 1 := IntWalk.wrap64_in _ (by omega)
  go_enter Tryd.func66, Tryd.ntmps66
  go_wp2
  go_ret
  exact ⟨rfl, rfl⟩
theorem wk_within (n : Int) (w : World) : Calls Tryd.prog 53 #[.int .i64 n] w fun e w' => e = .returned (.bool (within9 n)) ∧ w = w' := by
  go_enter Tryd.func53, Tryd.ntmps53
  by_cases h : -1000000000 ≤ n
  · go_wp2
    go_ret
    exact ⟨by simp [within9, h], rfl⟩
  · go_wp2
    go_ret
    exact ⟨by simp [within9]; omega, rfl⟩
set_option maxHeartbeats 1000000 in
theorem wk_of_out (h : WkAt w B bW gT vc vt ve P S) (i : Int) (hi : i < 0 ∨ (P.threads.length : Int) ≤ i) : Calls Tryd.prog 51 #[.pointer (some ⟨bW, 0, none⟩), .int .i64 i] w fun e w' => e = .returned (.tuple #[.pointer none, .bool false]) ∧ w' = w.drew := by
  have hr := row_cell h.row
  have d2 : w.cell? ⟨bW, 2, none⟩ = some (.slice (some ⟨gT, 0, none⟩) P.threads.length P.threads.length) := hr 2
  have hm : P.threads.length ≤ 4 := h.ok.threads.2
  clear h hr
  generalize P.threads.length = n at *
  go_enter Tryd.func51, Tryd.ntmps51
  by_cases h0 : i < 0
  · have q1 : decide (i < 0) = true := by simpa using h0
    go_wp2
    refine wp_region_x [0, 0, 0, 0, 0, 0, 0, 1, 0, 0, 0, 0, 0, 0, 0, 1, 0, 0, 0, 1, 0, 0, 0, 0, 1, 0, 0, 1, 0, 0, 0] [0, 1, 2, 3, 4, 5, 6, 7, 8, 9, 10, 11, 12, 13, 14, 15, 16, 17, 18, 19, 20, 21, 22, 23, 24, 25, 26, 27, 28, 29, 30] (by kernel_rfl) (by kernel_rfl) rfl (by kernel_rfl) ?_
    simp only [selX, guardAt, sD, sE, sF, sG, Option.bind_some]
    repeat (first | (refine wpL_p (fun K hK => ?_); go_simp; refine hK _ _ ?_; clear hK K) | (apply wpL_s; (intro w2 hw2; have hk1 := hw2.cell; have hk3 := hw2.heap; clear hw2; go_simp; with_reducible rfl); simp only [Act.put, sA, sB, sC]) | (refine wpL_yes rfl rfl ?_) | (refine wpL_no rfl rfl (fun K hK => ?_); simp only [Act.put, sA, sB, sC]; refine hK _ _ ?_; clear hK K) | (refine wpL_nil ?_))
    go_wp2
    refine bodyPost_ret (v := .tuple #[.pointer none, .bool false]) (by simp [results, Tryd.results51, go_sem]) rfl ⟨rfl, rfl⟩
  · have q1 : decide (i < 0) = false := by simpa using h0
    have q2 : decide ((n : Int) ≤ i) = true := by simp; omega
    have q3 : decide (i ≥ (n : Int)) = true := by simp; omega
    go_wp2
    refine wp_region_x [0, 0, 0, 0, 0, 0, 0, 1, 0, 0, 0, 0, 0, 0, 0, 1, 0, 0, 0, 1, 0, 0, 0, 0, 1, 0, 0, 1, 0, 0, 0] [0, 1, 2, 3, 4, 5, 6, 7, 8, 9, 10, 11, 12, 13, 14, 15, 16, 17, 18, 19, 20, 21, 22, 23, 24, 25, 26, 27, 28, 29, 30] (by kernel_rfl) (by kernel_rfl) rfl (by kernel_rfl) ?_
    simp only [selX, guardAt, sD, sE, sF, sG, Option.bind_some]
    repeat (first | (refine wpL_p (fun K hK => ?_); go_simp; refine hK _ _ ?_; clear hK K) | (apply wpL_s; (intro w2 hw2; have hk1 := hw2.cell; have hk3 := hw2.heap; clear hw2; go_simp; with_reducible rfl); simp only [Act.put, sA, sB, sC]) | (refine wpL_yes rfl rfl ?_) | (refine wpL_no rfl rfl (fun K hK => ?_); simp only [Act.put, sA, sB, sC]; refine hK _ _ ?_; clear hK K) | (refine wpL_nil ?_))
    go_wp2
    refine bodyPost_ret (v := .tuple #[.pointer none, .bool false]) (by simp [results, Tryd.results51, go_sem]) rfl ⟨rfl, rfl⟩
set_option maxHeartbeats 2000000 in
theorem wk_of_in (h : WkAt w B bW gT vc vt ve P S) (i : Nat) (hi : i < P.threads.length) {t : Th} (ht : S.ths[i]? = some t) : Calls Tryd.prog 51 #[.pointer (some ⟨bW, 0, none⟩), .int .i64 i] w fun e w' =>
    e = .returned (.tuple #[if thDone P i t = true then .pointer none else .pointer (some ⟨gT, i * 6, none⟩), .bool !thDone P i t]) ∧ w' = w.drew := by
  have hr := row_cell h.row
  have d2 : w.cell? ⟨bW, 2, none⟩ = some (.slice (some ⟨gT, 0, none⟩) P.threads.length P.threads.length) := hr 2
  obtain ⟨t', ht', htk, hgl, hc⟩ := h.at hi
  rw [ht] at ht'
  obtain rfl := Option.some.inj ht'
  obtain ⟨gt, ct, u, c, rfl, hgtl, hct, -⟩ := h.txs hi
  have d1 : w.cell? ⟨bW, 1, none⟩ = some (.slice (some ⟨gt, 0, none⟩) P.threads.length ct) := hr 1
  have c0 : w.cell? ⟨gT, i * 6, none⟩ = some (.int .i64 t.tx) := hc 0 (by decide)
  have hm : P.threads.length ≤ 4 := h.ok.threads.2
  have hdn : ((t.tx : Int) == ((P.txs i).length : Int)) = thDone P i t := by unfold thDone; rw [Bool.eq_iff_iff]; simp; omega
  clear h hr hc ht ht' htk
  generalize P.threads.length = n at *
  generalize (P.txs i).length = m at *
  generalize thDone P i t = dn at *
  have q1 : decide ((i : Int) < 0) = false := by simp
  have q2 : decide ((n : Int) ≤ i) = false := by simp; omega
  have q3 : decide ((i : Int) ≥ (n : Int)) = false := by simp; omega
  have q4 : decide (n ≤ i) = false := by simp; omega
  cases dn with
  | true =>
    go_enter Tryd.func51, Tryd.ntmps51
    go_wp2
    refine wp_region_x [0, 0, 0, 0, 0, 0, 0, 1, 0, 0, 0, 0, 0, 0, 0, 1, 0, 0, 0, 1, 0, 0, 0, 0, 1, 0, 0, 1, 0, 0, 0] [0, 1, 2, 3, 4, 5, 6, 7, 8, 9, 10, 11, 12, 13, 14, 15, 16, 17, 18, 19, 20, 21, 22, 23, 24, 25, 26, 27, 28, 29, 30] (by kernel_rfl) (by kernel_rfl) rfl (by kernel_rfl) ?_
    simp only [selX, guardAt, sD, sE, sF, sG, Option.bind_some]
    repeat (first | (refine wpL_p (fun K hK => ?_); go_simp; refine hK _ _ ?_; clear hK K) | (apply wpL_s; (intro w2 hw2; have hk1 := hw2.cell; have hk3 := hw2.heap; clear hw2; go_simp; with_reducible rfl); simp only [Act.put, sA, sB, sC]) | (refine wpL_yes rfl rfl ?_) | (refine wpL_no rfl rfl (fun K hK => ?_); simp only [Act.put, sA, sB, sC]; refine hK _ _ ?_; clear hK K) | (refine wpL_nil ?_))
    go_wp2
    refine bodyPost_ret (v := .tuple #[.pointer none, .bool false]) (by simp [results, Tryd.results51, go_sem]) rfl ⟨rfl, rfl⟩
  | false =>
    go_enter Tryd.func51, Tryd.ntmps51
    go_wp2
    refine wp_region_x [0, 0, 0, 0, 0, 0, 0, 1, 0, 0, 0, 0, 0, 0, 0, 1, 0, 0, 0, 1, 0, 0, 0, 0, 1, 0, 0, 1, 0, 0, 0] [0, 1, 2, 3, 4, 5, 6, 7, 8, 9, 10, 11, 12, 13, 14, 15, 16, 17, 18, 19, 20, 21, 22, 23, 24, 25, 26, 27, 28, 29, 30] (by kernel_rfl) (by kernel_rfl) rfl (by kernel_rfl) ?_
    simp only [selX, guardAt, sD, sE, sF, sG, Option.bind_some]
    repeat (first | (refine wpL_p (fun K hK => ?_); go_simp; refine hK _ _ ?_; clear hK K) | (apply wpL_s; (intro w2 hw2; have hk1 := hw2.cell; have hk3 := hw2.heap; clear hw2; go_simp; with_reducible rfl); simp only [Act.put, sA, sB, sC]) | (refine wpL_yes rfl rfl ?_) | (refine wpL_no rfl rfl (fun K hK => ?_); simp only [Act.put, sA, sB, sC]; refine hK _ _ ?_; clear hK K) | (refine wpL_nil ?_))
    go_wp2
    refine bodyPost_ret (v := .tuple #[.pointer (some ⟨gT, i * 6, none⟩), .bool true]) (by simp [results, Tryd.results51, go_sem]) rfl ⟨rfl, rfl⟩
def wDone (P : Pg) (S : Wst) (i : Int) : Bool := if i < 0 then true else match S.ths[i.toNat]? with
  | some t => thDone P i.toNat t
  | none => true
theorem wk_done (h : WkAt w B bW gT vc vt ve P S) (i : Int) : Calls Tryd.prog 95 #[.pointer (some ⟨bW, 0, none⟩), .int .i64 i] w fun e w' => e = .returned (.bool (wDone P S i)) ∧ w' = w.drew := by
  have hl := h.ths.len
  have H := hid h
  clear h
  by_cases hi : i < 0 ∨ (P.threads.length : Int) ≤ i
  · have hw : wDone P S i = true := by
      unfold wDone
      by_cases h0 : i < 0
      · rw [if_pos h0]
      · rw [if_neg h0, List.getElem?_eq_none (by omega)]
    rw [hw]
    clear hw hl
    go_enter Tryd.func95, Tryd.ntmps95
    go_wp2_with fail
    refine (wk_of_out H.out i hi).mono ?_
    rintro e w1 ⟨rfl, rfl⟩
    go_wp2
    go_ret
    exact ⟨rfl, rfl⟩
  · obtain ⟨k, rfl⟩ : ∃ k : Nat, i = k := ⟨i.toNat, by omega⟩
    have hk : k < P.threads.length := by omega
    obtain ⟨t, ht, -⟩ := H.out.at hk
    have hw : wDone P S k = thDone P k t := by
      unfold wDone
      rw [if_neg (by omega)]
      simp only [Int.toNat_natCast, ht]
    rw [hw]
    clear hw hl hi
    go_enter Tryd.func95, Tryd.ntmps95
    go_wp2_with fail
    refine (wk_of_in H.out k hk ht).mono ?_
    rintro e w1 ⟨rfl, rfl⟩
    cases hd : thDone P k t <;>
    · go_wp2
      go_ret
      exact ⟨by rw [hd]; rfl, rfl⟩
theorem wk_tx (h : WkAt w B bW gT vc vt ve P S) (i : Nat) (hi : i < P.threads.length) {t : Th} (ht : S.ths[i]? = some t) : Calls Tryd.prog 50 #[.pointer (some ⟨bW, 0, none⟩), .int .i64 i] w fun e w' =>
    e = .returned (.tuple #[.int .i64 (if thDone P i t = false ∧ t.begun = true then idOf i t.tx else 0), .bool (!thDone P i t && t.begun)]) ∧ w' = w.drew := by
  obtain ⟨t', ht', htk, hgl, hc⟩ := h.at hi
  rw [ht] at ht'
  obtain rfl := Option.some.inj ht'
  have c0 : w.cell? ⟨gT, i * 6, none⟩ = some (.int .i64 t.tx) := hc 0 (by decide)
  have c2 : w.cell? ⟨gT, i * 6 + 2, none⟩ = some (.bool t.begun) := hc 2 (by decide)
  have hm : P.threads.length ≤ 4 := h.ok.threads.2
  have htx : t.tx ≤ 3 := by
    obtain ⟨x, hx⟩ : ∃ x, P.threads[i]? = some x := ⟨_, List.getElem?_eq_getElem hi⟩
    have h1 := h.ok.txs x (List.mem_of_getElem? hx)
    have h2 := htk.tx
    rw [Pg.txs_at hx] at h2
    omega
  have htd : thDone P i t = false → t.tx < 3 := by
    intro hd
    obtain ⟨x, hx⟩ : ∃ x, P.threads[i]? = some x := ⟨_, List.getElem?_eq_getElem hi⟩
    have h1 := h.ok.txs x (List.mem_of_getElem? hx)
    have h2 := htk.tx
    unfold thDone at hd
    rw [Pg.txs_at hx] at h2 hd
    have h3 : t.tx ≠ x.length := by simpa using hd
    omega
  have H := hid h
  have HT := hid ht
  clear h hc ht' htk
  go_enter Tryd.func50, Tryd.ntmps50
  go_wp2_with fail
  refine (wk_of_in H.out i hi HT.out).mono ?_
  rintro e w1 ⟨rfl, rfl⟩
  cases hd : thDone P i t with
  | true =>
    go_wp2
    all_goals refine bodyPost_ret (v := .tuple #[.int .i64 0, .bool false]) (by simp [results, Tryd.results50, go_sem]) rfl ⟨by simp [hd], rfl⟩
  | false =>
    cases hb : t.begun with
    | false =>
      rw [hb] at c2
      go_wp2
      all_goals refine bodyPost_ret (v := .tuple #[.int .i64 0, .bool false]) (by simp [results, Tryd.results50, go_sem]) rfl ⟨by simp [hd]; try simp [hb], rfl⟩
    | true =>
      rw [hb] at c2
      have htx3 := htd hd
      go_wp2_with fail
      refine (wk_id i t.tx (by omega) htx3 _).mono ?_
      rintro e w2 ⟨rfl, rfl⟩
      go_wp2
      all_goals refine bodyPost_ret (v := .tuple #[.int .i64 (idOf i t.tx), .bool true]) (by simp [results, Tryd.results50, go_sem]) rfl ⟨by simp [hd]; try simp [hb], rfl⟩
end
end Go.Proofs.YtogphaiomlfofaaDoor
