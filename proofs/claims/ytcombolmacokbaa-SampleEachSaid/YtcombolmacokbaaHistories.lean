/- The table of the program's histories: whatever order its region draws. Conditions: those of each theorem, as typed. -/
import Derived.Test.YtcombolmacokbaaMade
import Derived.Test.YtcombolmacokbaaHist
import Derived.Test.YtcombolmacokbaaInv
import Derived.Test.YtcombolmacokbaaMap
namespace Go.Proofs.Ytcombolmacokbaa
open Go.RowKit
open Go.Instr (findNow)

/-- Below N all is as it was; rows of cells lie as they lay. -/
structure RC (N : Nat) (w w' : World) : Prop where
  below : Below N w w'
  cells : ∀ (k : Nat) (c : Array Value) (t : TypeId) (fz : Nat × Nat), w.heap[k]? = some (.cells c t fz) → w'.heap[k]? = some (.cells c t fz)
theorem RC.refl (N : Nat) (w : World) : RC N w w := ⟨Below.refl _ _, fun _ _ _ _ h => h⟩
theorem RC.trans {N : Nat} {a b c : World} (h : RC N a b) (k : RC N b c) : RC N a c := ⟨h.below.trans k.below, fun i x t fz hi => k.cells i x t fz (h.cells i x t fz hi)⟩
theorem RC.alloc {N : Nat} {w : World} (h : N ≤ w.heap.size) (o : Obj) : RC N w (w.alloc o) := ⟨(Below.refl _ _).alloc h _, fun _ _ _ _ h => row_old h⟩
theorem RC.set {N r clk clk' : Nat} {w : World} {es es' : Array MapEntry} (hr : w.heap[r]? = some (.map es clk)) (hN : N ≤ r) : RC N w { w with heap := w.heap.setIfInBounds r (.map es' clk') } := by
  refine ⟨⟨rfl, rfl, rfl, by simp, fun k hk => ?_⟩, fun k c t fz hk => ?_⟩
  · simp only [Array.getElem?_setIfInBounds]
    rw [if_neg (by omega)]
  · simp only [Array.getElem?_setIfInBounds]
    by_cases hkr : r = k
    · subst hkr; rw [hr] at hk; cases hk
    · rw [if_neg hkr]; exact hk

def zeroV : Value := .agg #[.int .i64 1, .int .i64 0]
def SlAt (w : World) (v : Value) (os : List Ob) : Prop := ∃ b, v = .slice (some ⟨b, 0, none⟩) os.length os.length ∧ w.heap[b]? = some (.cells (os.flatMap Ob.cells).toArray 41 (0, 0))
def FunAt (w : World) (K : Nat) (v : Value) (os : List Ob) : Prop := ∃ bo bf b, v = .func (.func 49) #[] #[.pointer (some ⟨bo, 0, none⟩), .pointer (some ⟨bf, 0, none⟩)] ∧
  w.heap[bo]? = some (.cells #[.slice (some ⟨b, 0, none⟩) os.length os.length] 25 (0, 0)) ∧ w.heap[bf]? = some (.cells #[.func (.func K) #[] #[]] 63 (0, 0)) ∧ w.heap[b]? = some (.cells (os.flatMap Ob.cells).toArray 41 (0, 0))
theorem SlAt.rc {N : Nat} {w w' : World} {v : Value} {os : List Ob} (h : SlAt w v os) (hr : RC N w w') : SlAt w' v os := let ⟨b, h1, h2⟩ := h; ⟨b, h1, hr.cells _ _ _ _ h2⟩
theorem FunAt.rc {N : Nat} {w w' : World} {K : Nat} {v : Value} {os : List Ob} (h : FunAt w K v os) (hr : RC N w w') : FunAt w' K v os :=
  let ⟨bo, bf, b, h1, h2, h3, h4⟩ := h; ⟨bo, bf, b, h1, hr.cells _ _ _ _ h2, hr.cells _ _ _ _ h3, hr.cells _ _ _ _ h4⟩

/-- What operation j has left in its slot. -/
def GH (j : Nat) (v : Value) (w : World) : Prop :=
  match j with
  | 1 => v = zeroV | 5 => v = zeroV | 6 => v = zeroV | 10 => v = zeroV
  | 2 => SlAt w v staleO | 7 => SlAt w v tornO | 11 => SlAt w v earlyO | 18 => SlAt w v plainO
  | 3 => FunAt w 43 v staleO | 8 => FunAt w 44 v tornO | 12 => FunAt w 46 v earlyO | 19 => FunAt w 47 v plainO
  | 14 => v = .agg #[.int .i64 1, .int .i64 5] | 15 => v = .agg #[.int .i64 2, .int .i64 0] | 16 => v = .agg #[.int .i64 3, .int .i64 0] | 17 => v = .agg #[.int .i64 4, .int .i64 0]
  | _ => True
theorem GH.rc {N j : Nat} {v : Value} {w w' : World} (h : GH j v w) (hr : RC N w w') : GH j v w' := by
  unfold GH at h
  split at h <;> first | exact h | exact SlAt.rc h hr | exact FunAt.rc h hr | skip
  unfold GH
  split <;> first | trivial | contradiction
def dstH : List Nat := [3, 4, 5, 6, 99, 7, 8, 9, 10, 99, 11, 12, 13, 99, 14, 15, 16, 17, 18, 19, 99, 20, 0]
/-- Name, its store's number, its call's number. -/
def tabH : List (ByteArray × Nat × Nat) := [(⟨#[115, 116, 97, 108, 101]⟩, 4, 3), (⟨#[116, 111, 114, 110]⟩, 9, 8), (⟨#[101, 97, 114, 108, 121]⟩, 13, 12), (⟨#[112, 108, 97, 105, 110]⟩, 20, 19)]
/-- The map's entries are those that have been stored. -/
def MapH (N : Nat) (L : Nat → Bool) (T : Array Value) (w : World) (v : Value) : Prop :=
  ∃ r es clk, v = .map (some r) ∧ N ≤ r ∧ w.heap[r]? = some (.map es clk) ∧ (∀ e ∈ es.toList, ∃ x ∈ tabH, e.key = .string x.1 ∧ L x.2.1 = true ∧ e.val = T.getD (dstH.getD x.2.2 99) undef) ∧
    (∀ x ∈ tabH, L x.2.1 = true → ∃ e ∈ es.toList, e.key = .string x.1)

/-- Operation j has an edge to operation i. -/
def edge (l : List Oper) (j i : Nat) : Bool := match l[j]? with
  | some o => o.after.toList.any fun e => Region.binds .any e && e.on == i
  | none => false
theorem edge_spec {l : List Oper} {i j : Nat} (h : edge l j i = true) : ∃ o, l.toArray[j]? = some o ∧ ∃ e ∈ o.after, Region.binds .any e = true ∧ e.on = i := by
  unfold edge at h
  rw [List.getElem?_toArray]
  cases hj : l[j]? with
  | none => rw [hj] at h; cases h
  | some o =>
    rw [hj] at h
    simp only [List.any_eq_true, Bool.and_eq_true, beq_iff_eq] at h
    obtain ⟨e, he, hb, ho⟩ := h
    exact ⟨o, rfl, e, by simpa using he, hb, ho⟩
theorem Closed.edge {l : List Oper} {i j : Nat} {listed : Array Bool} (h : Closed .any l.toArray listed) (he : edge l j i = true) (hj : listed.getD j false = true) : listed.getD i false = true := by
  obtain ⟨o, ho, e, h1, h2, h3⟩ := edge_spec he
  rw [← h3]; exact h j o ho hj e h1 h2
theorem ready_edge {l : List Oper} {i j : Nat} {listed : Array Bool} (h : j ∈ Region.ready .any l.toArray listed) (he : edge l j i = true) : listed.getD i false = true := by
  obtain ⟨o, ho, e, h1, h2, h3⟩ := edge_spec he
  obtain ⟨_, o', ho', hall⟩ := mem_ready.1 h
  rw [ho] at ho'; cases ho'
  rw [← h3]; exact hall e h1 h2
/-- Behind what is not listed, nothing is listed. -/
theorem ready_not {l : List Oper} {i j : Nat} {listed : Array Bool} (hc : Closed .any l.toArray listed) (h : i ∈ Region.ready .any l.toArray listed) (he : edge l j i = true) : listed.getD j false = false := by
  cases hj : listed.getD j false with
  | false => rfl
  | true => have h1 := hc.edge he hj; rw [getD_false_of_true (mem_ready.1 h).1] at h1; cases h1
theorem wpOp_of {P : Program} {l : List Oper} {i : Nat} {o : Oper} {K : Act → World → Prop} {Q : Exit → Act → World → Prop} {a : Act} {w : World} (ho : l[i]? = some o) (hg : o.guard = none) (h : o.wp P a w K Q) : wpOp P l.toArray Q i K a w := by
  unfold wpOp
  rw [List.getElem?_toArray, ho]
  simp only [Region.wanted, hg, if_true]
  exact .inl h

structure InvH (l : List Oper) (N bz : Nat) (w0 : World) (listed : Array Bool) (a : Act) (w : World) : Prop where
  defers : a.defers = []
  size : a.tmps.size = 21
  lsize : listed.size = 23
  closed : Closed .any l.toArray listed
  zero : a.tmps.getD 1 undef = .pointer (some ⟨bz, 0, none⟩)
  rc : RC N w0 w
  big : N ≤ w.heap.size
  facts : ∀ j, j < 21 → listed.getD j false = true → GH j (a.tmps.getD (dstH.getD j 99) undef) w
  map : listed.getD 0 false = true → MapH N (fun j => listed.getD j false) a.tmps w (a.tmps.getD 3 undef)
  f21 : listed.getD 21 false = true → a.tmps.getD 20 undef = a.tmps.getD 3 undef
  f22 : listed.getD 22 false = true → a.tmps.getD 0 undef = a.tmps.getD 3 undef
/-- What the region's edges are to be. -/
def edgesH (l : List Oper) : Bool := l.length == 23 && edge l 4 3 && edge l 9 8 && edge l 13 12 && edge l 20 19 && ((List.range 21).all fun i => edge l 21 i && edge l 22 i) && edge l 22 21 && edge l 4 0 && edge l 9 0 && edge l 13 0 && edge l 20 0

section
variable {l : List Oper} {N bz : Nat} {w0 w w' : World} {listed : Array Bool} {a : Act} {T' : Array Value}
theorem InvH.slot (h : InvH l N bz w0 listed a w) {j s : Nat} (hj : listed.getD j false = true) (hs : dstH.getD j 99 = s) (hlt : j < 21) : GH j (a.tmps.getD s undef) w := by
  rw [← hs]; exact h.facts j hlt hj

theorem getD_put {T : Array Value} {d s : Nat} {v : Value} (hd : d < T.size) : (T.setIfInBounds d v).getD s undef = if d = s then v else T.getD s undef := by
  by_cases h : d = s
  · subst h; simp [hd]
  · simp [h, Array.getElem?_setIfInBounds_ne h]

theorem listed_put {i j : Nat} (hi : i < listed.size) : (listed.setIfInBounds i true).getD j false = (if i = j then true else listed.getD j false) := by
  by_cases h : i = j
  · subst h; simp [hi]
  · simp [h, Array.getElem?_setIfInBounds_ne h]

theorem dstH_inj : ∀ i, i < 23 → ∀ j, j < 23 → dstH.getD i 99 = dstH.getD j 99 → dstH.getD i 99 ≠ 99 → i = j := by decide
theorem tabH_lt : ∀ x ∈ tabH, x.2.2 < 23 ∧ dstH.getD x.2.1 99 = 99 ∧ x.2.1 < 21 ∧ x.2.1 ≠ 0 := by decide

/-- An operation that is no store, nor makes the map, has come up. -/
theorem InvH.put (h : InvH l N bz w0 listed a w) (he : edgesH l = true) {i d : Nat} {v : Value} (hi : i ∈ Region.ready .any l.toArray listed) (hi0 : i ≠ 0) (hi21 : i < 21) (hd : dstH.getD i 99 = d) (hd2 : d < 21) (hd1 : d ≠ 1)
    (hr : RC N w w') (hb : w.heap.size ≤ w'.heap.size) (hm : ∀ (r : Nat) (es : Array MapEntry) (clk : Nat), w.heap[r]? = some (.map es clk) → w'.heap[r]? = some (.map es clk)) (hg : GH i v w') :
    InvH l N bz w0 (listed.setIfInBounds i true) { a with tmps := a.tmps.setIfInBounds d v } w' := by
  have hun := getD_false_of_true (mem_ready.1 hi).1
  have hsz : i < listed.size := by rw [h.lsize]; omega
  have hdT : d < a.tmps.size := by rw [h.size]; omega
  simp only [edgesH, Bool.and_eq_true, List.all_eq_true, List.mem_range] at he
  have h21 : listed.getD 21 false = false := ready_not h.closed hi (he.1.1.1.1.1.2 i hi21).1
  have h22 : listed.getD 22 false = false := ready_not h.closed hi (he.1.1.1.1.1.2 i hi21).2
  have hcalls : ∀ x ∈ tabH, i = x.2.2 → listed.getD x.2.1 false = false := by
    intro x hx e
    refine ready_not h.closed hi ?_
    subst e
    simp only [tabH, List.mem_cons, List.not_mem_nil, or_false] at hx
    rcases hx with rfl | rfl | rfl | rfl
    · exact he.1.1.1.1.1.1.1.1.1.2
    · exact he.1.1.1.1.1.1.1.1.2
    · exact he.1.1.1.1.1.1.1.2
    · exact he.1.1.1.1.1.1.2
  refine ⟨h.defers, by simpa using h.size, by simpa using h.lsize, h.closed.put hi, ?_, h.rc.trans hr, Nat.le_trans h.big hb, ?_, ?_, ?_, ?_⟩
  · rw [getD_put hdT, if_neg hd1]; exact h.zero
  · intro j hj hl
    rw [listed_put hsz] at hl
    by_cases hij : i = j
    · subst hij
      rw [getD_put hdT, if_pos hd.symm]; exact hg
    · rw [if_neg hij] at hl
      rw [getD_put hdT, if_neg (fun e => hij (dstH_inj i (by omega) j (by omega) (by rw [hd, e]) (by rw [hd]; omega)))]
      exact (h.facts j hj hl).rc hr
  · intro hl
    rw [listed_put hsz, if_neg hi0] at hl
    have hd3 : d ≠ 3 := fun e => hi0 (dstH_inj i (by omega) 0 (by omega) (by rw [hd, e]; rfl) (by rw [hd]; omega))
    rw [getD_put hdT, if_neg hd3]
    obtain ⟨r, es, clk, h1, h2, h3, h4, h5⟩ := h.map hl
    refine ⟨r, es, clk, h1, h2, hm _ _ _ h3, fun e he => ?_, fun x hx hxl => ?_⟩
    · obtain ⟨x, hx, k1, k2, k3⟩ := h4 e he
      have hne : i ≠ x.2.2 := fun e => by have := hcalls x hx e; simp only at k2; rw [this] at k2; cases k2
      refine ⟨x, hx, k1, ?_, ?_⟩
      · show (listed.setIfInBounds i true).getD _ false = true
        rw [listed_put hsz]; split
        · rfl
        · exact k2
      · have := (tabH_lt x hx).1
        rw [getD_put hdT, if_neg (fun e => hne (dstH_inj i (by omega) x.2.2 this (by rw [hd, e]) (by rw [hd]; omega)))]
        exact k3
    · replace hxl : (listed.setIfInBounds i true).getD x.2.1 false = true := hxl
      rw [listed_put hsz] at hxl
      by_cases e : i = x.2.1
      · have := (tabH_lt x hx).2
        rw [← e] at this
        omega
      · rw [if_neg e] at hxl
        exact h5 x hx hxl
  · intro hl
    rw [listed_put hsz, if_neg (by omega), h21] at hl
    cases hl
  · intro hl
    rw [listed_put hsz, if_neg (by omega), h22] at hl
    cases hl

/-- The map is made. -/
theorem InvH.make (h : InvH l N bz w0 listed a w) (he : edgesH l = true) (hi : 0 ∈ Region.ready .any l.toArray listed) :
    InvH l N bz w0 (listed.setIfInBounds 0 true) { a with tmps := a.tmps.setIfInBounds 3 (.map (some w.heap.size)) } (w.alloc (.map #[] 0)) := by
  have hsz : 0 < listed.size := by rw [h.lsize]; omega
  have hdT : 3 < a.tmps.size := by rw [h.size]; omega
  simp only [edgesH, Bool.and_eq_true, List.all_eq_true, List.mem_range] at he
  have h21 : listed.getD 21 false = false := ready_not h.closed hi (he.1.1.1.1.1.2 0 (by omega)).1
  have h22 : listed.getD 22 false = false := ready_not h.closed hi (he.1.1.1.1.1.2 0 (by omega)).2
  have hr : RC N w (w.alloc (.map #[] 0)) := .alloc h.big _
  have hst : ∀ x ∈ tabH, listed.getD x.2.1 false = false := by
    intro x hx
    refine ready_not h.closed hi ?_
    simp only [tabH, List.mem_cons, List.not_mem_nil, or_false] at hx
    rcases hx with rfl | rfl | rfl | rfl
    · exact he.1.1.1.2
    · exact he.1.1.2
    · exact he.1.2
    · exact he.2
  refine ⟨h.defers, by simpa using h.size, by simpa using h.lsize, h.closed.put hi, ?_, h.rc.trans hr, Nat.le_trans h.big (by simp), ?_, ?_, ?_, ?_⟩
  · rw [getD_put hdT, if_neg (by omega)]; exact h.zero
  · intro j hj hl
    rw [listed_put hsz] at hl
    by_cases hij : 0 = j
    · subst hij; trivial
    · rw [if_neg hij] at hl
      rw [getD_put hdT, if_neg (fun e => hij (dstH_inj 0 (by omega) j (by omega) (by rw [← e]; rfl) (by decide)))]
      exact (h.facts j hj hl).rc hr
  · intro _
    rw [getD_put hdT, if_pos rfl]
    refine ⟨w.heap.size, #[], 0, rfl, h.big, row_new w _, fun e he => by simp at he, fun x hx hxl => ?_⟩
    replace hxl : (listed.setIfInBounds 0 true).getD x.2.1 false = true := hxl
    rw [listed_put hsz, if_neg (tabH_lt x hx).2.2.2.symm, hst x hx] at hxl
    cases hxl
  · intro hl
    rw [listed_put hsz, if_neg (by omega), h21] at hl
    cases hl
  · intro hl
    rw [listed_put hsz, if_neg (by omega), h22] at hl
    cases hl

/-- A store. -/
theorem InvH.stored (h : InvH l N bz w0 listed a w) (he : edgesH l = true) {i c : Nat} {s : ByteArray} (hx : (s, i, c) ∈ tabH) (hi : i ∈ Region.ready .any l.toArray listed) {r clk : Nat} {es : Array MapEntry}
    (hrN : N ≤ r) (hv : a.tmps.getD 3 undef = .map (some r)) (hrow : w.heap[r]? = some (.map es clk)) (h4 : ∀ e ∈ es.toList, ∃ x ∈ tabH, e.key = .string x.1 ∧ listed.getD x.2.1 false = true ∧ e.val = a.tmps.getD (dstH.getD x.2.2 99) undef)
    (h5 : ∀ x ∈ tabH, listed.getD x.2.1 false = true → ∃ e ∈ es.toList, e.key = .string x.1) :
    InvH l N bz w0 (listed.setIfInBounds i true) a { w with heap := w.heap.setIfInBounds r (.map (es.push { key := .string s, val := a.tmps.getD (dstH.getD c 99) undef, born := clk }) (clk + 1)) } := by
  have hlt := (tabH_lt _ hx).2.2
  simp only at hlt
  have hsz : i < listed.size := by rw [h.lsize]; omega
  simp only [edgesH, Bool.and_eq_true, List.all_eq_true, List.mem_range] at he
  have h21 : listed.getD 21 false = false := ready_not h.closed hi (he.1.1.1.1.1.2 i (by omega)).1
  have h22 : listed.getD 22 false = false := ready_not h.closed hi (he.1.1.1.1.1.2 i (by omega)).2
  have hr : RC N w { w with heap := w.heap.setIfInBounds r (.map (es.push { key := .string s, val := a.tmps.getD (dstH.getD c 99) undef, born := clk }) (clk + 1)) } := .set hrow hrN
  have hrs : r < w.heap.size := by
    rcases Nat.lt_or_ge r w.heap.size with h' | h'
    · exact h'
    · simp [Array.getElem?_eq_none h'] at hrow
  refine ⟨h.defers, h.size, by simpa using h.lsize, h.closed.put hi, h.zero, h.rc.trans hr, by simpa using h.big, ?_, ?_, ?_, ?_⟩
  · intro j hj hl
    rw [listed_put hsz] at hl
    by_cases hij : i = j
    · subst hij
      have : i ∈ [4, 9, 13, 20] := by
        simp only [tabH, List.mem_cons, List.not_mem_nil, or_false, Prod.mk.injEq] at hx
        rcases hx with h | h | h | h <;> simp [h.2.1]
      simp only [List.mem_cons, List.not_mem_nil, or_false] at this
      rcases this with rfl | rfl | rfl | rfl <;> trivial
    · rw [if_neg hij] at hl
      exact (h.facts j hj hl).rc hr
  · intro hl
    refine ⟨r, _, _, hv, hrN, Array.getElem?_setIfInBounds_self_of_lt hrs, fun e he => ?_, fun x hx' hxl => ?_⟩
    · simp only [Array.toList_push, List.mem_append, List.mem_singleton] at he
      rcases he with he | rfl
      · obtain ⟨x, hx, k1, k2, k3⟩ := h4 e he
        refine ⟨x, hx, k1, ?_, k3⟩
        show (listed.setIfInBounds i true).getD _ false = true
        rw [listed_put hsz]; split
        · rfl
        · exact k2
      · refine ⟨_, hx, rfl, ?_, rfl⟩
        show (listed.setIfInBounds i true).getD _ false = true
        rw [listed_put hsz, if_pos rfl]
    · replace hxl : (listed.setIfInBounds i true).getD x.2.1 false = true := hxl
      rw [listed_put hsz] at hxl
      by_cases e : i = x.2.1
      · refine ⟨_, by simp; exact .inr rfl, ?_⟩
        have : ∀ x ∈ tabH, ∀ y ∈ tabH, x.2.1 = y.2.1 → x.1 = y.1 := by decide
        exact congrArg Value.string (this _ hx _ hx' e)
      · rw [if_neg e] at hxl
        obtain ⟨e, h1, h2⟩ := h5 x hx' hxl
        exact ⟨e, by simp [h1], h2⟩
  · intro hl
    rw [listed_put hsz, if_neg (by omega), h21] at hl
    cases hl
  · intro hl
    rw [listed_put hsz, if_neg (by omega), h22] at hl
    cases hl

theorem all_listed {n : Nat} {l : List Oper} {listed : Array Bool} (hl : l.length = n) (hs : listed.size = n) (hf : ((List.range n).all fun i => match l[i]? with | some o => o.after.toList.all fun e => Nat.blt e.on i | none => true) = true) (hr : Region.ready .any l.toArray listed = []) :
    ∀ k, k < n → listed.getD k false = true := by
  intro k
  induction k using Nat.strongRecOn with
  | ind k ih =>
    intro hk
    cases hlk : listed.getD k false with
    | true => rfl
    | false =>
      exfalso
      have hm : k ∈ Region.ready .any l.toArray listed := by
        refine mem_ready.2 ⟨?_, l[k], by simp [hl, hk], fun e he _ => ?_⟩
        · have : k < listed.size := by omega
          simp [this] at hlk ⊢
          exact hlk
        · have := List.all_eq_true.1 hf k (List.mem_range.2 hk)
          rw [List.getElem?_eq_getElem (by omega)] at this
          simp only [List.all_eq_true] at this
          have h2 : e.on + 1 ≤ k := by simpa [Nat.blt] using this e (by simpa using he)
          exact ih e.on (by omega) (by omega)
      rw [hr] at hm
      cases hm

/-- The move of the map, and the answer. -/
theorem InvH.move (h : InvH l N bz w0 listed a w) (he : edgesH l = true) (hi : 21 ∈ Region.ready .any l.toArray listed) :
    InvH l N bz w0 (listed.setIfInBounds 21 true) { a with tmps := a.tmps.setIfInBounds 20 (a.tmps.getD 3 undef) } w := by
  have hsz : 21 < listed.size := by rw [h.lsize]; omega
  have hdT : 20 < a.tmps.size := by rw [h.size]; omega
  simp only [edgesH, Bool.and_eq_true, List.all_eq_true, List.mem_range] at he
  have h22 : listed.getD 22 false = false := ready_not h.closed hi he.1.1.1.1.2
  refine ⟨h.defers, by simpa using h.size, by simpa using h.lsize, h.closed.put hi, ?_, h.rc, h.big, ?_, ?_, ?_, ?_⟩
  · rw [getD_put hdT, if_neg (by omega)]; exact h.zero
  · intro j hj hl
    rw [listed_put hsz, if_neg (by omega)] at hl
    rw [getD_put hdT, if_neg (fun e => (show (21 : Nat) ≠ j by omega) (dstH_inj 21 (by omega) j (by omega) (by rw [← e]; rfl) (by decide)))]
    exact h.facts j hj hl
  · intro hl
    rw [listed_put hsz, if_neg (by omega)] at hl
    rw [getD_put hdT, if_neg (by omega)]
    obtain ⟨r, es, clk, h1, h2, h3, h4, h5⟩ := h.map hl
    refine ⟨r, es, clk, h1, h2, h3, fun e he => ?_, fun x hx hxl => ?_⟩
    · obtain ⟨x, hx, k1, k2, k3⟩ := h4 e he
      have h7 := tabH_lt x hx
      refine ⟨x, hx, k1, ?_, ?_⟩
      · show (listed.setIfInBounds 21 true).getD _ false = true
        rw [listed_put hsz]; split
        · rfl
        · exact k2
      · have h9 : ∀ x ∈ tabH, dstH.getD x.2.2 99 ≠ 20 := by decide
        rw [getD_put hdT, if_neg (Ne.symm (h9 x hx))]
        exact k3
    · replace hxl : (listed.setIfInBounds 21 true).getD x.2.1 false = true := hxl
      have h7 := tabH_lt x hx
      rw [listed_put hsz, if_neg (by omega)] at hxl
      exact h5 x hx hxl
  · intro _
    rw [getD_put hdT, if_pos rfl, getD_put hdT, if_neg (by omega)]
  · intro hl
    rw [listed_put hsz, if_neg (by omega), h22] at hl
    cases hl

theorem InvH.last (h : InvH l N bz w0 listed a w) (he : edgesH l = true) (hi : 22 ∈ Region.ready .any l.toArray listed) :
    InvH l N bz w0 (listed.setIfInBounds 22 true) { a with tmps := a.tmps.setIfInBounds 0 (a.tmps.getD 20 undef) } w := by
  have hsz : 22 < listed.size := by rw [h.lsize]; omega
  have hdT : 0 < a.tmps.size := by rw [h.size]; omega
  simp only [edgesH, Bool.and_eq_true, List.all_eq_true, List.mem_range] at he
  have h21 : listed.getD 21 false = true := ready_edge hi he.1.1.1.1.2
  refine ⟨h.defers, by simpa using h.size, by simpa using h.lsize, h.closed.put hi, ?_, h.rc, h.big, ?_, ?_, ?_, ?_⟩
  · rw [getD_put hdT, if_neg (by omega)]; exact h.zero
  · intro j hj hl
    rw [listed_put hsz, if_neg (by omega)] at hl
    rw [getD_put hdT, if_neg (fun e => (show (22 : Nat) ≠ j by omega) (dstH_inj 22 (by omega) j (by omega) (by rw [← e]; rfl) (by decide)))]
    exact h.facts j hj hl
  · intro hl
    rw [listed_put hsz, if_neg (by omega)] at hl
    rw [getD_put hdT, if_neg (by omega)]
    obtain ⟨r, es, clk, h1, h2, h3, h4, h5⟩ := h.map hl
    refine ⟨r, es, clk, h1, h2, h3, fun e he => ?_, fun x hx hxl => ?_⟩
    · obtain ⟨x, hx, k1, k2, k3⟩ := h4 e he
      refine ⟨x, hx, k1, ?_, ?_⟩
      · show (listed.setIfInBounds 22 true).getD _ false = true
        rw [listed_put hsz]; split
        · rfl
        · exact k2
      · have h9 : ∀ x ∈ tabH, dstH.getD x.2.2 99 ≠ 0 := by decide
        rw [getD_put hdT, if_neg (Ne.symm (h9 x hx))]
        exact k3
    · replace hxl : (listed.setIfInBounds 22 true).getD x.2.1 false = true := hxl
      have h7 := tabH_lt x hx
      rw [listed_put hsz, if_neg (by omega)] at hxl
      exact h5 x hx hxl
  · intro hl
    rw [getD_put hdT, if_neg (by omega), getD_put hdT, if_neg (by omega)]
    exact h.f21 h21
  · intro hl
    rw [getD_put hdT, if_pos rfl, getD_put hdT, if_neg (by omega)]
    exact h.f21 h21
end

/-- Name, function, objects. -/
def ht0 : ByteArray × Nat × List Ob := (⟨#[115, 116, 97, 108, 101]⟩, 43, staleO)
def ht1 : ByteArray × Nat × List Ob := (⟨#[116, 111, 114, 110]⟩, 44, tornO)
def ht2 : ByteArray × Nat × List Ob := (⟨#[101, 97, 114, 108, 121]⟩, 46, earlyO)
def ht3 : ByteArray × Nat × List Ob := (⟨#[112, 108, 97, 105, 110]⟩, 47, plainO)
def HT : List (ByteArray × Nat × List Ob) := [ht0, ht1, ht2, ht3]
def RetT (w : World) : Ending → World → Prop := fun e w' => ∃ r es clk, e = .returned (.map (some r)) ∧ Below w.heap.size w w' ∧ w'.heap[r]? = some (.map es clk) ∧ w.heap.size ≤ r ∧ (∀ e ∈ es.toList, ∃ x ∈ HT, e.key = .string x.1 ∧ FunAt w' x.2.1 e.val x.2.2) ∧ (∀ x ∈ HT, ∃ e ∈ es.toList, e.key = .string x.1)

theorem edges_of {l : List Oper} {i : Nat} {listed : Array Bool} (_ : i ∈ Region.ready .any l.toArray listed) (h : edgesH l = true) : edgesH l = true := h

theorem wp_region_invL {P : Program} {Q : Exit → Act → World → Prop} {id : Nat} {l : List Oper} {a : Act} {w : World} (Inv : List Oper → Array Bool → Act → World → Prop) (hm : P.follows .mixedOrders = true)
    (h0 : Inv l (Array.replicate l.length false) a w.drew)
    (hstep : ∀ listed a w i, Inv l listed a w → i ∈ Region.ready .any l.toArray listed → wpOp P l.toArray Q i (Inv l (listed.setIfInBounds i true)) a w)
    (hend : ∀ listed a w, Inv l listed a w → Region.ready .any l.toArray listed = [] → Q .normal a w) : (Code.region id l.toArray true).wp P Q a w :=
  wp_region_inv (Inv l) hm h0 hstep hend

theorem p_histories (w : World) : Calls Try.prog 21 #[] w (RetT w) := by
  go_enter Try.func21, Try.ntmps21
  go_wp2_with fail
  rename_i K hK
  refine wp_region_invL (fun l => InvH l (w.heap.size + 1) w.heap.size (w.alloc (.cells #[.int .i64 1, .int .i64 0] 41))) rfl ?_ ?_ ?_
  · have hrep : ∀ j, (Array.replicate 23 false).getD j false = false := fun j => by
      rcases Nat.lt_or_ge j 23 with h | h
      · simp [h]
      · simp [Array.getElem?_eq_none (show (Array.replicate 23 false).size ≤ j by simpa using h)]
    exact ⟨rfl, rfl, rfl, closed_none _, rfl, ⟨⟨rfl, rfl, rfl, Nat.le_refl _, fun _ _ => rfl⟩, fun _ _ _ _ h => h⟩, by simp, fun j _ h => absurd (hrep j) (by rw [show (Array.replicate 23 false).getD j false = true from h]; decide), fun h => absurd (hrep 0) (by rw [show (Array.replicate 23 false).getD 0 false = true from h]; decide), fun h => absurd (hrep 21) (by rw [show (Array.replicate 23 false).getD 21 false = true from h]; decide), fun h => absurd (hrep 22) (by rw [show (Array.replicate 23 false).getD 22 false = true from h]; decide)⟩
  · intro listed a w1 i hI hr
    have hi : i < 23 := by
      obtain ⟨_, o, ho, _⟩ := mem_ready.1 hr
      exact (Array.getElem?_eq_some_iff.1 ho).1
    have he := edges_of hr (by kernel_rfl)
    have ez := hI.zero
    have hzc : w1.heap[w.heap.size]? = some (.cells #[.int .i64 1, .int .i64 0] 41 (0, 0)) := hI.rc.cells _ _ _ _ (row_new w _)
    have ez0 := row_cell hzc 0
    have ez1 := row_cell hzc 1
    have ezl : w.heap.size < w1.heap.size := by have := hI.big; omega
    have hc : i = 0 ∨ i = 1 ∨ i = 2 ∨ i = 3 ∨ i = 4 ∨ i = 5 ∨ i = 6 ∨ i = 7 ∨ i = 8 ∨ i = 9 ∨ i = 10 ∨ i = 11 ∨ i = 12 ∨ i = 13 ∨ i = 14 ∨ i = 15 ∨ i = 16 ∨ i = 17 ∨ i = 18 ∨ i = 19 ∨ i = 20 ∨ i = 21 ∨ i = 22 := by omega
    have HI := hid hI
    have HZ := hid hzc
    rcases hc with rfl | rfl | rfl | rfl | rfl | rfl | rfl | rfl | rfl | rfl | rfl | rfl | rfl | rfl | rfl | rfl | rfl | rfl | rfl | rfl | rfl | rfl | rfl
    · have H := hid (hI.make he hr)
      clear hI hr he hzc
      refine wpOp_of rfl rfl ?_
      go_simp
      exact H.out
    · have hP := fun v (hv : GH 1 v w1) => hI.put he hr (i := 1) (d := 4) (v := v) (by decide) (by decide) rfl (by decide) (by decide) (.refl _ _) (Nat.le_refl _) (fun _ _ _ h => h) hv
      have H := hid hP
      clear hP hI hr he hzc
      refine wpOp_of rfl rfl ?_
      go_simp
      exact H.out _ rfl
    · have g0 := 0
      have hs0 : a.tmps[4]?.getD undef = .agg #[.int .i64 1, .int .i64 0] := by have h := hI.slot (s := 4) (j := 1) (ready_edge hr (by kernel_rfl)) rfl (by decide); rw [Array.getD_eq_getD_getElem?] at h; exact h
      have hb := hI.big
      have hP := fun c (v : Value) (hv : GH 2 v (w1.alloc c)) => hI.put he hr (i := 2) (d := 5) (v := v) (by decide) (by decide) rfl (by decide) (by decide) (.alloc hb c) (by simp) (fun _ _ _ h => row_old h) hv
      have H := hid hP
      clear hP hI hr he hzc g0
      refine wpOp_of rfl rfl ?_
      go_simp
      exact H.out _ _ ⟨_, rfl, row_new w1 _⟩
    · obtain ⟨b, hs, hrow⟩ : SlAt w1 (a.tmps.getD 5 undef) _ := hI.slot (j := 2) (ready_edge hr (by kernel_rfl)) rfl (by decide)
      have hb := hI.big
      have hP := fun c c2 (v : Value) (hv : GH 3 v ((w1.alloc c).alloc c2)) => hI.put he hr (i := 3) (d := 6) (v := v) (by decide) (by decide) rfl (by decide) (by decide) ((RC.alloc hb c).trans (.alloc (by simp; omega) c2)) (by simp; omega) (fun _ _ _ h => row_old (row_old h)) hv
      have H := hid hP
      have HR := hid hrow
      clear hP hI hr he hzc hrow
      refine wpOp_of rfl rfl ?_
      go_simp
      refine (p_made _ _ w1 ⟨_, _, _, rfl⟩ ⟨_, _, _, rfl⟩).mono ?_
      rintro e w2 ⟨rfl, rfl⟩
      exact H.out _ _ _ ⟨_, _, _, rfl, row_new' (by simp), row_old (row_new _ _), row_old (row_old HR.out)⟩
    · have h0 : listed.getD 0 false = true := ready_edge hr (by kernel_rfl)
      obtain ⟨r, es, clk, h1, h2, h3, h4, h5⟩ := hI.map h0
      have hx : ((⟨#[115, 116, 97, 108, 101]⟩ : ByteArray), 4, 3) ∈ tabH := by simp [tabH]
      have H := hid (hI.stored he hx hr h2 h1 h3 h4 h5)
      have hn : findNow .string (.string ⟨#[115, 116, 97, 108, 101]⟩) es.toList 0 = some none := by
        refine findNow_none _ _ fun e hm => ?_
        obtain ⟨x, k1, k2, k3, _⟩ := h4 e hm
        refine ⟨_, k2, fun hxe => ?_⟩
        have h9 : ∀ x ∈ tabH, (⟨#[115, 116, 97, 108, 101]⟩ : ByteArray) = x.1 → x.2.1 = 4 := by decide
        have := h9 x k1 hxe
        have hun := getD_false_of_true (mem_ready.1 hr).1
        simp only at k3
        rw [this, hun] at k3
        cases k3
      have hrun := fun v => run_insert_new (P := Try.prog) (w := w1) (v := v) Try.underlying56 Try.underlying9 h3 hn
      clear hI hr he hzc h3 h4 h5 hn
      refine wpOp_of rfl rfl ?_
      go_simp
      rw [← Array.getD_eq_getD_getElem?]
      exact H.out
    · have hP := fun v (hv : GH 5 v w1) => hI.put he hr (i := 5) (d := 7) (v := v) (by decide) (by decide) rfl (by decide) (by decide) (.refl _ _) (Nat.le_refl _) (fun _ _ _ h => h) hv
      have H := hid hP
      clear hP hI hr he hzc
      refine wpOp_of rfl rfl ?_
      go_simp
      exact H.out _ rfl
    · have hP := fun v (hv : GH 6 v w1) => hI.put he hr (i := 6) (d := 8) (v := v) (by decide) (by decide) rfl (by decide) (by decide) (.refl _ _) (Nat.le_refl _) (fun _ _ _ h => h) hv
      have H := hid hP
      clear hP hI hr he hzc
      refine wpOp_of rfl rfl ?_
      go_simp
      exact H.out _ rfl
    · have g0 := 0
      have hs0 : a.tmps[7]?.getD undef = .agg #[.int .i64 1, .int .i64 0] := by have h := hI.slot (s := 7) (j := 5) (ready_edge hr (by kernel_rfl)) rfl (by decide); rw [Array.getD_eq_getD_getElem?] at h; exact h
      have hs1 : a.tmps[8]?.getD undef = .agg #[.int .i64 1, .int .i64 0] := by have h := hI.slot (s := 8) (j := 6) (ready_edge hr (by kernel_rfl)) rfl (by decide); rw [Array.getD_eq_getD_getElem?] at h; exact h
      have hb := hI.big
      have hP := fun c (v : Value) (hv : GH 7 v (w1.alloc c)) => hI.put he hr (i := 7) (d := 9) (v := v) (by decide) (by decide) rfl (by decide) (by decide) (.alloc hb c) (by simp) (fun _ _ _ h => row_old h) hv
      have H := hid hP
      clear hP hI hr he hzc g0
      refine wpOp_of rfl rfl ?_
      go_simp
      exact H.out _ _ ⟨_, rfl, row_new w1 _⟩
    · obtain ⟨b, hs, hrow⟩ : SlAt w1 (a.tmps.getD 9 undef) _ := hI.slot (j := 7) (ready_edge hr (by kernel_rfl)) rfl (by decide)
      have hb := hI.big
      have hP := fun c c2 (v : Value) (hv : GH 8 v ((w1.alloc c).alloc c2)) => hI.put he hr (i := 8) (d := 10) (v := v) (by decide) (by decide) rfl (by decide) (by decide) ((RC.alloc hb c).trans (.alloc (by simp; omega) c2)) (by simp; omega) (fun _ _ _ h => row_old (row_old h)) hv
      have H := hid hP
      have HR := hid hrow
      clear hP hI hr he hzc hrow
      refine wpOp_of rfl rfl ?_
      go_simp
      refine (p_made _ _ w1 ⟨_, _, _, rfl⟩ ⟨_, _, _, rfl⟩).mono ?_
      rintro e w2 ⟨rfl, rfl⟩
      exact H.out _ _ _ ⟨_, _, _, rfl, row_new' (by simp), row_old (row_new _ _), row_old (row_old HR.out)⟩
    · have h0 : listed.getD 0 false = true := ready_edge hr (by kernel_rfl)
      obtain ⟨r, es, clk, h1, h2, h3, h4, h5⟩ := hI.map h0
      have hx : ((⟨#[116, 111, 114, 110]⟩ : ByteArray), 9, 8) ∈ tabH := by simp [tabH]
      have H := hid (hI.stored he hx hr h2 h1 h3 h4 h5)
      have hn : findNow .string (.string ⟨#[116, 111, 114, 110]⟩) es.toList 0 = some none := by
        refine findNow_none _ _ fun e hm => ?_
        obtain ⟨x, k1, k2, k3, _⟩ := h4 e hm
        refine ⟨_, k2, fun hxe => ?_⟩
        have h9 : ∀ x ∈ tabH, (⟨#[116, 111, 114, 110]⟩ : ByteArray) = x.1 → x.2.1 = 9 := by decide
        have := h9 x k1 hxe
        have hun := getD_false_of_true (mem_ready.1 hr).1
        simp only at k3
        rw [this, hun] at k3
        cases k3
      have hrun := fun v => run_insert_new (P := Try.prog) (w := w1) (v := v) Try.underlying56 Try.underlying9 h3 hn
      clear hI hr he hzc h3 h4 h5 hn
      refine wpOp_of rfl rfl ?_
      go_simp
      rw [← Array.getD_eq_getD_getElem?]
      exact H.out
    · have hP := fun v (hv : GH 10 v w1) => hI.put he hr (i := 10) (d := 11) (v := v) (by decide) (by decide) rfl (by decide) (by decide) (.refl _ _) (Nat.le_refl _) (fun _ _ _ h => h) hv
      have H := hid hP
      clear hP hI hr he hzc
      refine wpOp_of rfl rfl ?_
      go_simp
      exact H.out _ rfl
    · have g0 := 0
      have hs0 : a.tmps[11]?.getD undef = .agg #[.int .i64 1, .int .i64 0] := by have h := hI.slot (s := 11) (j := 10) (ready_edge hr (by kernel_rfl)) rfl (by decide); rw [Array.getD_eq_getD_getElem?] at h; exact h
      have hb := hI.big
      have hP := fun c (v : Value) (hv : GH 11 v (w1.alloc c)) => hI.put he hr (i := 11) (d := 12) (v := v) (by decide) (by decide) rfl (by decide) (by decide) (.alloc hb c) (by simp) (fun _ _ _ h => row_old h) hv
      have H := hid hP
      clear hP hI hr he hzc g0
      refine wpOp_of rfl rfl ?_
      go_simp
      exact H.out _ _ ⟨_, rfl, row_new w1 _⟩
    · obtain ⟨b, hs, hrow⟩ : SlAt w1 (a.tmps.getD 12 undef) _ := hI.slot (j := 11) (ready_edge hr (by kernel_rfl)) rfl (by decide)
      have hb := hI.big
      have hP := fun c c2 (v : Value) (hv : GH 12 v ((w1.alloc c).alloc c2)) => hI.put he hr (i := 12) (d := 13) (v := v) (by decide) (by decide) rfl (by decide) (by decide) ((RC.alloc hb c).trans (.alloc (by simp; omega) c2)) (by simp; omega) (fun _ _ _ h => row_old (row_old h)) hv
      have H := hid hP
      have HR := hid hrow
      clear hP hI hr he hzc hrow
      refine wpOp_of rfl rfl ?_
      go_simp
      refine (p_made _ _ w1 ⟨_, _, _, rfl⟩ ⟨_, _, _, rfl⟩).mono ?_
      rintro e w2 ⟨rfl, rfl⟩
      exact H.out _ _ _ ⟨_, _, _, rfl, row_new' (by simp), row_old (row_new _ _), row_old (row_old HR.out)⟩
    · have h0 : listed.getD 0 false = true := ready_edge hr (by kernel_rfl)
      obtain ⟨r, es, clk, h1, h2, h3, h4, h5⟩ := hI.map h0
      have hx : ((⟨#[101, 97, 114, 108, 121]⟩ : ByteArray), 13, 12) ∈ tabH := by simp [tabH]
      have H := hid (hI.stored he hx hr h2 h1 h3 h4 h5)
      have hn : findNow .string (.string ⟨#[101, 97, 114, 108, 121]⟩) es.toList 0 = some none := by
        refine findNow_none _ _ fun e hm => ?_
        obtain ⟨x, k1, k2, k3, _⟩ := h4 e hm
        refine ⟨_, k2, fun hxe => ?_⟩
        have h9 : ∀ x ∈ tabH, (⟨#[101, 97, 114, 108, 121]⟩ : ByteArray) = x.1 → x.2.1 = 13 := by decide
        have := h9 x k1 hxe
        have hun := getD_false_of_true (mem_ready.1 hr).1
        simp only at k3
        rw [this, hun] at k3
        cases k3
      have hrun := fun v => run_insert_new (P := Try.prog) (w := w1) (v := v) Try.underlying56 Try.underlying9 h3 hn
      clear hI hr he hzc h3 h4 h5 hn
      refine wpOp_of rfl rfl ?_
      go_simp
      rw [← Array.getD_eq_getD_getElem?]
      exact H.out
    · have hP := fun v (hv : GH 14 v w1) => hI.put he hr (i := 14) (d := 14) (v := v) (by decide) (by decide) rfl (by decide) (by decide) (.refl _ _) (Nat.le_refl _) (fun _ _ _ h => h) hv
      have H := hid hP
      clear hP hI hr he hzc
      refine wpOp_of rfl rfl ?_
      go_simp
      exact H.out _ rfl
    · have hP := fun v (hv : GH 15 v w1) => hI.put he hr (i := 15) (d := 15) (v := v) (by decide) (by decide) rfl (by decide) (by decide) (.refl _ _) (Nat.le_refl _) (fun _ _ _ h => h) hv
      have H := hid hP
      clear hP hI hr he hzc
      refine wpOp_of rfl rfl ?_
      go_simp
      exact H.out _ rfl
    · have hP := fun v (hv : GH 16 v w1) => hI.put he hr (i := 16) (d := 16) (v := v) (by decide) (by decide) rfl (by decide) (by decide) (.refl _ _) (Nat.le_refl _) (fun _ _ _ h => h) hv
      have H := hid hP
      clear hP hI hr he hzc
      refine wpOp_of rfl rfl ?_
      go_simp
      exact H.out _ rfl
    · have hP := fun v (hv : GH 17 v w1) => hI.put he hr (i := 17) (d := 17) (v := v) (by decide) (by decide) rfl (by decide) (by decide) (.refl _ _) (Nat.le_refl _) (fun _ _ _ h => h) hv
      have H := hid hP
      clear hP hI hr he hzc
      refine wpOp_of rfl rfl ?_
      go_simp
      exact H.out _ rfl
    · have g0 := 0
      have hs0 : a.tmps[14]?.getD undef = .agg #[.int .i64 1, .int .i64 5] := by have h := hI.slot (s := 14) (j := 14) (ready_edge hr (by kernel_rfl)) rfl (by decide); rw [Array.getD_eq_getD_getElem?] at h; exact h
      have hs1 : a.tmps[15]?.getD undef = .agg #[.int .i64 2, .int .i64 0] := by have h := hI.slot (s := 15) (j := 15) (ready_edge hr (by kernel_rfl)) rfl (by decide); rw [Array.getD_eq_getD_getElem?] at h; exact h
      have hs2 : a.tmps[16]?.getD undef = .agg #[.int .i64 3, .int .i64 0] := by have h := hI.slot (s := 16) (j := 16) (ready_edge hr (by kernel_rfl)) rfl (by decide); rw [Array.getD_eq_getD_getElem?] at h; exact h
      have hs3 : a.tmps[17]?.getD undef = .agg #[.int .i64 4, .int .i64 0] := by have h := hI.slot (s := 17) (j := 17) (ready_edge hr (by kernel_rfl)) rfl (by decide); rw [Array.getD_eq_getD_getElem?] at h; exact h
      have hb := hI.big
      have hP := fun c (v : Value) (hv : GH 18 v (w1.alloc c)) => hI.put he hr (i := 18) (d := 18) (v := v) (by decide) (by decide) rfl (by decide) (by decide) (.alloc hb c) (by simp) (fun _ _ _ h => row_old h) hv
      have H := hid hP
      clear hP hI hr he hzc g0
      refine wpOp_of rfl rfl ?_
      go_simp
      exact H.out _ _ ⟨_, rfl, row_new w1 _⟩
    · obtain ⟨b, hs, hrow⟩ : SlAt w1 (a.tmps.getD 18 undef) _ := hI.slot (j := 18) (ready_edge hr (by kernel_rfl)) rfl (by decide)
      have hb := hI.big
      have hP := fun c c2 (v : Value) (hv : GH 19 v ((w1.alloc c).alloc c2)) => hI.put he hr (i := 19) (d := 19) (v := v) (by decide) (by decide) rfl (by decide) (by decide) ((RC.alloc hb c).trans (.alloc (by simp; omega) c2)) (by simp; omega) (fun _ _ _ h => row_old (row_old h)) hv
      have H := hid hP
      have HR := hid hrow
      clear hP hI hr he hzc hrow
      refine wpOp_of rfl rfl ?_
      go_simp
      refine (p_made _ _ w1 ⟨_, _, _, rfl⟩ ⟨_, _, _, rfl⟩).mono ?_
      rintro e w2 ⟨rfl, rfl⟩
      exact H.out _ _ _ ⟨_, _, _, rfl, row_new' (by simp), row_old (row_new _ _), row_old (row_old HR.out)⟩
    · have h0 : listed.getD 0 false = true := ready_edge hr (by kernel_rfl)
      obtain ⟨r, es, clk, h1, h2, h3, h4, h5⟩ := hI.map h0
      have hx : ((⟨#[112, 108, 97, 105, 110]⟩ : ByteArray), 20, 19) ∈ tabH := by simp [tabH]
      have H := hid (hI.stored he hx hr h2 h1 h3 h4 h5)
      have hn : findNow .string (.string ⟨#[112, 108, 97, 105, 110]⟩) es.toList 0 = some none := by
        refine findNow_none _ _ fun e hm => ?_
        obtain ⟨x, k1, k2, k3, _⟩ := h4 e hm
        refine ⟨_, k2, fun hxe => ?_⟩
        have h9 : ∀ x ∈ tabH, (⟨#[112, 108, 97, 105, 110]⟩ : ByteArray) = x.1 → x.2.1 = 20 := by decide
        have := h9 x k1 hxe
        have hun := getD_false_of_true (mem_ready.1 hr).1
        simp only at k3
        rw [this, hun] at k3
        cases k3
      have hrun := fun v => run_insert_new (P := Try.prog) (w := w1) (v := v) Try.underlying56 Try.underlying9 h3 hn
      clear hI hr he hzc h3 h4 h5 hn
      refine wpOp_of rfl rfl ?_
      go_simp
      rw [← Array.getD_eq_getD_getElem?]
      exact H.out
    · have H := hid (hI.move he hr)
      clear hI hr he hzc
      refine wpOp_of rfl rfl ?_
      go_simp
      rw [← Array.getD_eq_getD_getElem?]
      exact H.out
    · have H := hid (hI.last he hr)
      clear hI hr he hzc
      refine wpOp_of rfl rfl ?_
      go_simp
      rw [← Array.getD_eq_getD_getElem?]
      exact H.out
  · intro listed a w1 hI hr
    have hl := all_listed (n := 23) rfl hI.lsize (by kernel_rfl) hr
    obtain ⟨r, es, clk, h1, h2, h3, h4, h5⟩ := hI.map (hl 0 (by omega))
    have hres : a.tmps.getD 0 undef = .map (some r) := (hI.f22 (hl 22 (by omega))).trans h1
    have hB : Below w.heap.size w w1 := ((Below.refl _ _).alloc (Nat.le_refl _) _).trans (hI.rc.below.mono (by omega))
    have hf := hI.facts
    have hdf := hI.defers
    have h6 : ∀ e ∈ es.toList, ∃ x ∈ HT, e.key = .string x.1 ∧ FunAt w1 x.2.1 e.val x.2.2 := by
      intro e he
      obtain ⟨x, k1, k2, k3, k4⟩ := h4 e he
      rw [k4]
      simp only [tabH, List.mem_cons, List.not_mem_nil, or_false] at k1
      rcases k1 with rfl | rfl | rfl | rfl
      · exact ⟨ht0, by simp [HT], k2, hf 3 (by omega) (hl 3 (by omega))⟩
      · exact ⟨ht1, by simp [HT], k2, hf 8 (by omega) (hl 8 (by omega))⟩
      · exact ⟨ht2, by simp [HT], k2, hf 12 (by omega) (hl 12 (by omega))⟩
      · exact ⟨ht3, by simp [HT], k2, hf 19 (by omega) (hl 19 (by omega))⟩
    have h7 : ∀ x ∈ HT, ∃ e ∈ es.toList, e.key = .string x.1 := by
      intro x hx
      simp only [HT, List.mem_cons, List.not_mem_nil, or_false] at hx
      rcases hx with rfl | rfl | rfl | rfl
      · exact h5 (⟨#[115, 116, 97, 108, 101]⟩, 4, 3) (by simp [tabH]) (hl 4 (by omega))
      · exact h5 (⟨#[116, 111, 114, 110]⟩, 9, 8) (by simp [tabH]) (hl 9 (by omega))
      · exact h5 (⟨#[101, 97, 114, 108, 121]⟩, 13, 12) (by simp [tabH]) (hl 13 (by omega))
      · exact h5 (⟨#[112, 108, 97, 105, 110]⟩, 20, 19) (by simp [tabH]) (hl 20 (by omega))
    have H := hid (show RetT w (.returned (.map (some r))) w1 from ⟨r, es, clk, rfl, hB, h3, by omega, h6, h7⟩)
    clear hI hr hl h1 h2 h3 h4 h5 hf h6 h7 hB
    refine hK _ _ ?_
    go_wp2
    exact bodyPost_ret (v := .map (some r)) (by simp [results, Try.results21, go_sem]; rw [← Array.getD_eq_getD_getElem?]; exact hres) hdf H.out
end Go.Proofs.Ytcombolmacokbaa
