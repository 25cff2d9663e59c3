/- The engine latch: what it is, where it lies, what keeps it. Conditions: those of each theorem, as typed. -/
import Derived.Test.YtogphaiomlfofaaDoorKdsM
set_option linter.unusedVariables false
set_option linter.unusedSimpArgs false
namespace Go.Proofs.YtogphaiomlfofaaDoor
open Go.RowKit Go.Maps
set_option linter.unusedVariables false
set_option linter.unusedSimpArgs false
attribute [local irreducible] wpL

/-! ### what it is -/
structure Ce where
  val : Int
  own : Int
def Ce.cells (c : Ce) : List Value := [.int .i64 c.val, .int .i64 c.own]
theorem Ce.len (c : Ce) : c.cells.length = 2 := rfl
abbrev Wo := Option (MB × MI)
inductive Nx where
  | none
  | abort
  | rel (l : List Int)
  | ans (e : Ev)
structure LM where
  W : Wst
  cs : List Ce
  ws : List Wo
  nx : List Nx
def reactOf (r : MB) (e : Ev) : Nx := if e.kind = 1 then .none else if e.kind = 7 then .abort else if e.kind = 4 then .rel (r.map (·.1)) else .ans e
def bkS (s : MI) (S : Int → Bool) (cs : List Ce) : List Ce := cs.mapIdx fun k c => match fnd (k : Int) s with
  | some v => if S k then c else ⟨v, c.own⟩
  | none => c
def goS (r : MB) (S : Int → Bool) (cs : List Ce) : List Ce := cs.mapIdx fun k c => match fnd (k : Int) r with
  | some _ => if S k then c else ⟨c.val, 0⟩
  | none => c
def offCs (r : MB) (s : MI) (cs : List Ce) : List Ce := goS r (fun _ => false) (bkS s (fun _ => false) cs)
def ceAt (cs : List Ce) (k : Int) : Ce := match cs[k.toNat]? with
  | some c => c
  | none => ⟨0, 0⟩
def abortStep (P : Pg) (M : LM) (i : Nat) (t : Th) (r : MB) (s : MI) : LM := { M with W := M.W.putO i (ansOf P i t 0 true), cs := offCs r s M.cs }
def taken (i : Nat) (t : Th) (c : Ce) : Bool := !(c.own == 0) && !(c.own == idOf i t.tx)
def ansStep (P : Pg) (M : LM) (i : Nat) (t : Th) (e : Ev) (r : MB) (s : MI) : LM :=
  if taken i t (ceAt M.cs e.obj) = true then abortStep P M i t r s
  else if e.op = 2 then { M with W := M.W.putO i (ansOf P i t e.val false), cs := M.cs.set e.obj.toNat ⟨e.val, idOf i t.tx⟩, ws := M.ws.set i (some (upd e.obj () r, if (fnd e.obj s).isSome then s else upd e.obj (ceAt M.cs e.obj).val s)) }
  else { M with W := M.W.putO i (ansOf P i t (ceAt M.cs e.obj).val false), cs := M.cs.set e.obj.toNat ⟨(ceAt M.cs e.obj).val, idOf i t.tx⟩, ws := M.ws.set i (some (upd e.obj () r, s)) }
def relStep (P : Pg) (M : LM) (i : Nat) (t : Th) : List Int → LM × Nx
  | [] => ({ M with W := M.W.putO i (ansOf P i t 0 false) }, .none)
  | k :: l => ({ M with cs := M.cs.set k.toNat ⟨(ceAt M.cs k).val, 0⟩ }, .rel l)
def ownStep (P : Pg) (M : LM) (i : Nat) (t : Th) (r : MB) : LM × Nx :=
  match nextOf P i t with
  | none => (M, .none)
  | some y => ({ M with W := M.W.put i y, ws := if y.2.kind = 1 then M.ws.set i (some ([], [])) else M.ws }, reactOf r y.2)
def doStep (P : Pg) (M : LM) (i : Nat) (t : Th) (x : Nx) (r : MB) (s : MI) : LM × Nx :=
  match x with
  | .none => ownStep P M i t r
  | .abort => (abortStep P M i t r s, .none)
  | .rel l => relStep P M i t l
  | .ans e => (ansStep P M i t e r s, .none)

def woR (o : Option Wo) : MB := match o with
  | some (some (r, _)) => r
  | _ => []
def woS (o : Option Wo) : MI := match o with
  | some (some (_, s)) => s
  | _ => []

/-! ### where it lies -/
structure LC where
  B : Nat
  bM : Nat
  bD : Nat
  bW : Nat
  gT : Nat
  gN : Nat
  gW : Nat
  vc : Value
  vt : Value
  pc : Value
  pt : Value
  ce : Value
  /-- boxes of others, that stay -/
  F : Nat → Array Value → Prop
abbrev LC.rf (C : LC) : Value := .func (.func 29) #[.pointer (some ⟨C.bM, 0, none⟩)] #[]
def WoAt (w : World) (B : Nat) (u : Value × Value) : Wo → Prop
  | none => u = (.map none, .map none)
  | some (r, s) => ∃ br bs, u = (.map (some br), .map (some bs)) ∧ B ≤ br ∧ B ≤ bs ∧ br ≠ bs ∧ IsMB w br r.length r ∧ IsMI w bs s.length s ∧ KCe r ∧ KSrt r ∧ KCe s ∧ KSrt s
def BxM (w : World) (C : LC) (i p1 p2 : Nat) : Prop := w.heap[p1]? = some (.cells #[.pointer (some ⟨C.bM, 0, none⟩)] 60 (0, 0)) ∧ w.heap[p2]? = some (.cells #[.int .i64 i] 3 (0, 0)) ∧ C.B ≤ p1 ∧ C.B ≤ p2
def LsBx (w : World) (C : LC) (p3 : Nat) (l : List Int) : Prop := ∃ (g off cap : Nat) (cs : Array Value), w.heap[p3]? = some (.cells #[.slice (some ⟨g, off, none⟩) l.length cap] 22 (0, 0)) ∧ w.heap[g]? = some (.cells cs 3 (0, 0)) ∧ C.B ≤ p3 ∧ C.B ≤ g ∧ l.length ≤ cap ∧ ∀ (j : Nat) (x : Int), l[j]? = some x → cs[off + j]? = some (.int .i64 x)
def NxAt (w : World) (C : LC) (i : Nat) (ve v : Value) : Nx → Prop
  | .none => v = .nilFunc
  | .abort => ∃ p1 p2, v = .func (.func 38) #[] #[.pointer (some ⟨p1, 0, none⟩), .pointer (some ⟨p2, 0, none⟩)] ∧ BxM w C i p1 p2
  | .rel [] => ∃ p1 p2, v = .func (.func 40) #[] #[.pointer (some ⟨p1, 0, none⟩), .pointer (some ⟨p2, 0, none⟩)] ∧ BxM w C i p1 p2
  | .rel (k :: l) => ∃ p1 p2 p3, v = .func (.func 41) #[] #[.pointer (some ⟨p1, 0, none⟩), .pointer (some ⟨p3, 0, none⟩), .pointer (some ⟨p2, 0, none⟩)] ∧ BxM w C i p1 p2 ∧ LsBx w C p3 (k :: l)
  | .ans e => ∃ p1 p2 p3, v = .func (.func 36) #[] #[.pointer (some ⟨p1, 0, none⟩), .pointer (some ⟨p2, 0, none⟩), .pointer (some ⟨p3, 0, none⟩)] ∧ BxM w C i p1 p2 ∧ w.heap[p3]? = some (.cells e.cells.toArray 50 (0, 0)) ∧ ve.ownBlock ≠ some p3 ∧ C.B ≤ p3
structure WksAt (w : World) (C : LC) (n : Nat) (us : List (Value × Value)) (ws : List Wo) : Prop where
  own : OwnF moC 89 2 w C.B (.slice (some ⟨C.gW, 0, none⟩) n n) us
  len : ws.length = n
  maps : ∀ (i : Nat) (u : Value × Value) (o : Wo), us[i]? = some u → ws[i]? = some o → WoAt w C.B u o
  apart : ∀ (i j : Nat) (u u' : Value × Value), us[i]? = some u → us[j]? = some u' → i ≠ j → ∀ b, mbs u b → ¬ mbs u' b
structure LaAt (w : World) (C : LC) (ve : Value) (us : List (Value × Value)) (P : Pg) (M : LM) : Prop where
  row : w.heap[C.bM]? = some (.cells #[.pointer (some ⟨C.bD, 0, none⟩), C.ce, .slice (some ⟨C.gW, 0, none⟩) P.threads.length P.threads.length] 69 (0, 0))
  hB : C.B ≤ C.bM
  dr : ∃ vs, DrAt w C.B C.bD C.bW C.gT C.gN C.vc C.vt ve C.pc C.pt C.rf P M.W vs ∧ M.nx.length = P.threads.length ∧ ∀ (i : Nat) (v : Value) (x : Nx), vs[i]? = some v → M.nx[i]? = some x → NxAt w C i ve v x
  cells : OwnF Ce.cells 74 2 w C.B C.ce M.cs
  clen : M.cs.length = P.cells.length
  wks : WksAt w C P.threads.length us M.ws
  fr : ∀ (k : Nat) (cs : Array Value), C.F k cs → w.heap[k]? = some (.cells cs 39 (0, 0))

/-! ### what keeps it -/
section
variable {w w' : World} {C : LC} {ve ve' : Value} {P : Pg} {M : LM} {us : List (Value × Value)}
theorem BxM.keep {i p1 p2 : Nat} (h : BxM w C i p1 p2)
    (h1 : ∀ (p : Nat) (u : Value), w.heap[p]? = some (.cells #[u] 60 (0, 0)) → w'.heap[p]? = some (.cells #[u] 60 (0, 0)))
    (h2 : ∀ (p : Nat) (u : Array Value), w.heap[p]? = some (.cells u 3 (0, 0)) → w'.heap[p]? = some (.cells u 3 (0, 0))) : BxM w' C i p1 p2 := ⟨h1 _ _ h.1, h2 _ _ h.2.1, h.2.2⟩
theorem NxAt.keep {i : Nat} {v : Value} {x : Nx} (h : NxAt w C i ve v x)
    (h1 : ∀ (p : Nat) (u : Value), w.heap[p]? = some (.cells #[u] 60 (0, 0)) → w'.heap[p]? = some (.cells #[u] 60 (0, 0)))
    (h2 : ∀ (p : Nat) (u : Array Value), w.heap[p]? = some (.cells u 3 (0, 0)) → w'.heap[p]? = some (.cells u 3 (0, 0)))
    (h4 : ∀ (p : Nat) (u : Value), w.heap[p]? = some (.cells #[u] 22 (0, 0)) → w'.heap[p]? = some (.cells #[u] 22 (0, 0)))
    (h3 : ∀ (p : Nat) (cs : Array Value), w.heap[p]? = some (.cells cs 50 (0, 0)) → ve.ownBlock ≠ some p → w'.heap[p]? = some (.cells cs 50 (0, 0)) ∧ ve'.ownBlock ≠ some p) : NxAt w' C i ve' v x := by
  cases x with
  | none => exact h
  | abort =>
    obtain ⟨p1, p2, hv, k⟩ := h
    exact ⟨p1, p2, hv, k.keep h1 h2⟩
  | rel l =>
    cases l with
    | nil =>
      obtain ⟨p1, p2, hv, k⟩ := h
      exact ⟨p1, p2, hv, k.keep h1 h2⟩
    | cons a l =>
      obtain ⟨p1, p2, p3, hv, k, g, off, cap, cs, k3, k4, r⟩ := h
      exact ⟨p1, p2, p3, hv, k.keep h1 h2, g, off, cap, cs, h4 _ _ k3, h2 _ _ k4, r⟩
  | ans e =>
    obtain ⟨p1, p2, p3, hv, k, k3, k4, r⟩ := h
    obtain ⟨k5, k6⟩ := h3 _ _ k3 k4
    exact ⟨p1, p2, p3, hv, k.keep h1 h2, k5, k6, r⟩
theorem WoAt.keep {B : Nat} {u : Value × Value} {o : Wo} (h : WoAt w B u o) (hk : ∀ b : Nat, mbs u b → w'.heap[b]? = w.heap[b]?) : WoAt w' B u o := by
  cases o with
  | none => exact h
  | some p =>
    obtain ⟨br, bs, rfl, h1, h2, h3, h6, h7, h8⟩ := h
    exact ⟨br, bs, rfl, h1, h2, h3, h6.obj (hk br (.inl rfl)), h7.obj (hk bs (.inr rfl)), h8⟩
theorem WoAt.isMap {B : Nat} {u : Value × Value} {o : Wo} (h : WoAt w B u o) : ∀ b, mbs u b → B ≤ b ∧ ∃ es c, w.heap[b]? = some (.map es c) := by
  cases o with
  | none =>
    obtain rfl := h
    rintro b (h | h) <;> cases h
  | some p =>
    obtain ⟨br, bs, rfl, h1, h2, h3, ⟨es, c, h6, -⟩, ⟨es', c', h7, -⟩, h8⟩ := h
    rintro b (h | h)
    · cases h; exact ⟨h1, es, c, h6⟩
    · cases h; exact ⟨h2, es', c', h7⟩
theorem WksAt.at {n : Nat} {us : List (Value × Value)} {ws : List Wo} (h : WksAt w C n us ws) {i : Nat} {u : Value × Value} (hu : us[i]? = some u) : ∃ o, ws[i]? = some o ∧ WoAt w C.B u o := by
  have hl := h.own.len
  have hi : i < us.length := (List.getElem?_eq_some_iff.1 hu).1
  obtain ⟨o, ho⟩ : ∃ o, ws[i]? = some o := ⟨_, List.getElem?_eq_getElem (by rw [h.len]; omega)⟩
  exact ⟨o, ho, h.maps i u o hu ho⟩
theorem WksAt.keep {n : Nat} {us : List (Value × Value)} {ws : List Wo} (h : WksAt w C n us ws)
    (h1 : OwnF moC 89 2 w' C.B (.slice (some ⟨C.gW, 0, none⟩) n n) us)
    (hk : ∀ (b : Nat) (es : Array MapEntry) (c : Nat), w.heap[b]? = some (.map es c) → w'.heap[b]? = some (.map es c)) : WksAt w' C n us ws :=
  ⟨h1, h.len, fun i u o hu ho => (h.maps i u o hu ho).keep fun b hb => by
    obtain ⟨-, es, c, hm⟩ := (h.maps i u o hu ho).isMap b hb
    rw [hk b es c hm, hm], h.apart⟩
theorem LaAt.below (h : LaAt w C ve us P M) (hb : Below w.heap.size w w') : LaAt w' C ve us P M := by
  obtain ⟨vs, h1, h2, h3⟩ := h.dr
  refine ⟨row_below h.row hb (row_lt h.row), h.hB, ⟨vs, h1.below hb, h2, fun i v x hv hx => NxAt.keep (h3 i v x hv hx) (fun p u hp => row_below hp hb (row_lt hp)) (fun p u hp => row_below hp hb (row_lt hp)) (fun p u hp => row_below hp hb (row_lt hp)) fun p cs hp he => ⟨row_below hp hb (row_lt hp), he⟩⟩, OwnF.below h.cells hb, h.clen, ?_, fun k cs hf => row_below (h.fr k cs hf) hb (row_lt (h.fr k cs hf))⟩
  exact h.wks.keep (OwnF.below h.wks.own hb) fun b es c hm => row_below hm hb (row_lt hm)
theorem LaAt.walked {S' : Wst} (h : LaAt w C ve us P M) (hk : Kp Mw ve w w') (hw : WkAt w' C.B C.bW C.gT C.vc C.vt ve' P S') (ho : ∀ k, ve'.ownBlock = some k → ve.ownBlock = some k ∨ w.heap.size ≤ k) : LaAt w' C ve' us P { M with W := S' } := by
  obtain ⟨vs, h1, h2, h3⟩ := h.dr
  refine ⟨hk.rowW h.row (by decide) (by decide) (by decide), h.hB, ⟨vs, h1.walked hk hw, h2, fun i v x hv hx => NxAt.keep (h3 i v x hv hx) (fun p u hp => hk.rowW hp (by decide) (by decide) (by decide)) (fun p u hp => hk.rowW hp (by decide) (by decide) (by decide)) (fun p u hp => hk.rowW hp (by decide) (by decide) (by decide)) fun p cs hp he => ⟨hk.cells p cs _ _ hp (by unfold Mw; decide) (fun _ => he), fun e => ?_⟩⟩, OwnF.kpW h.cells hk (by decide) (by decide) (by decide), h.clen, ?_, fun k cs hf => hk.rowW (h.fr k cs hf) (by decide) (by decide) (by decide)⟩
  · rcases ho p e with h | h
    · exact he h
    · have := row_lt hp; omega
  · exact h.wks.keep (OwnF.kpW h.wks.own hk (by decide) (by decide) (by decide)) fun b es c hm => hk.maps b es c hm
end

/-! ### cells of one type are written, or a map -/
section
variable {w w' w1 : World} {C : LC} {ve ve' : Value} {P : Pg} {M : LM} {us : List (Value × Value)} {T T' : TypeId → Prop}
def Ml (t : TypeId) : Prop := t = 74 ∨ t = 89
theorem WkAt.kd {B bW gT : Nat} {vc vt : Value} {S : Wst} (h : WkAt w B bW gT vc vt ve P S) (hk : Kd Ml w w') : WkAt w' B bW gT vc vt ve P S :=
  ⟨hk _ _ _ _ h.row (by unfold Ml; decide), h.hB, OwnF.kd h.cells hk (by unfold Ml; decide), h.thr.kd hk (by unfold Ml; decide) (by unfold Ml; decide) (by unfold Ml; decide), OwnF.kd h.ths hk (by unfold Ml; decide), OwnF.kd h.evs hk (by unfold Ml; decide), h.ok, h.tok⟩
theorem DrAt.kd {B bD bW gT gN : Nat} {vc vt pc pt rf : Value} {S : Wst} {nx : List Value} (h : DrAt w B bD bW gT gN vc vt ve pc pt rf P S nx) (hk : Kd Ml w w') : DrAt w' B bD bW gT gN vc vt ve pc pt rf P S nx :=
  ⟨hk _ _ _ _ h.row (by unfold Ml; decide), h.hB, h.walk.kd hk, OwnF.kd h.pcells hk (by unfold Ml; decide), h.pthr.kd hk (by unfold Ml; decide) (by unfold Ml; decide) (by unfold Ml; decide), OwnF.kd h.next hk (by unfold Ml; decide)⟩
theorem LaAt.turn {us' : List (Value × Value)} {cs' : List Ce} {ws' : List Wo} (h : LaAt w C ve us P M) (hk : Kd Ml w w') (hce : OwnF Ce.cells 74 2 w' C.B C.ce cs') (hcl : cs'.length = P.cells.length) (hwk : WksAt w' C P.threads.length us' ws') : LaAt w' C ve us' P { M with cs := cs', ws := ws' } := by
  obtain ⟨vs, h1, h2, h3⟩ := h.dr
  exact ⟨hk _ _ _ _ h.row (by unfold Ml; decide), h.hB, ⟨vs, h1.kd hk, h2, fun i v x hv hx => NxAt.keep (h3 i v x hv hx) (fun p u hp => hk _ _ _ _ hp (by unfold Ml; decide)) (fun p u hp => hk _ _ _ _ hp (by unfold Ml; decide)) (fun p u hp => hk _ _ _ _ hp (by unfold Ml; decide)) fun p cs hp he => ⟨hk _ _ _ _ hp (by unfold Ml; decide), he⟩⟩, hce, hcl, hwk, fun k cs hf => hk _ _ _ _ (h.fr k cs hf) (by unfold Ml; decide)⟩
theorem LaAt.frame (h : LaAt w C ve us P M) {F' : Nat → Array Value → Prop} (hf : ∀ (k : Nat) (cs : Array Value), F' k cs → w.heap[k]? = some (.cells cs 39 (0, 0))) : LaAt w { C with F := F' } ve us P M := by
  obtain ⟨vs, h1, h2, h3⟩ := h.dr
  refine ⟨h.row, h.hB, ⟨vs, h1, h2, fun i v x hv hx => ?_⟩, h.cells, h.clen, ⟨h.wks.own, h.wks.len, h.wks.maps, h.wks.apart⟩, hf⟩
  have := h3 i v x hv hx
  cases x with
  | none => exact this
  | abort => exact this
  | rel l => cases l <;> exact this
  | ans e => exact this
theorem WksAt.store {n : Nat} {ws : List Wo} (h : WksAt w C n us ws) {i b : Nat} {u : Value × Value} {o' : Wo} (hu : us[i]? = some u) (hb : mbs u b) (ht : w.mapTurned w' b) (hw : WoAt w' C.B u o') : WksAt w' C n us (ws.set i o') := by
  refine ⟨OwnF.kd h.own (Kd.turned (T := fun _ => False) ht) (fun h => h), by rw [List.length_set]; exact h.len, fun j v o hv ho => ?_, h.apart⟩
  by_cases e : i = j
  · subst e
    rw [hu] at hv
    obtain rfl := Option.some.inj hv
    rw [List.getElem?_set_self (by have := (List.getElem?_eq_some_iff.1 ho).1; simpa using this)] at ho
    rw [← Option.some.inj ho]
    exact hw
  · rw [List.getElem?_set_ne e] at ho
    refine (h.maps j v o hv ho).keep fun b' hb' => turned_other ht ?_
    rintro rfl
    exact h.apart i j u v hu hv e _ hb hb'
theorem WksAt.begin {n : Nat} {ws : List Wo} (h : WksAt w C n us ws) {i : Nat} {u : Value × Value} {o' : Wo} (hm : KmAll w w') (h1 : OwnF moC 89 2 w' C.B (.slice (some ⟨C.gW, 0, none⟩) n n) (us.set i u)) (hnew : ∀ b, mbs u b → w.heap.size ≤ b) (hw : WoAt w' C.B u o') : WksAt w' C n (us.set i u) (ws.set i o') := by
  refine ⟨h1, by rw [List.length_set]; exact h.len, fun j v o hv ho => ?_, fun j k v v' hv hv' hne b hb hb' => ?_⟩
  · by_cases e : i = j
    · subst e
      rw [List.getElem?_set_self (by have := (List.getElem?_eq_some_iff.1 ho).1; simpa using this)] at ho
      rw [List.getElem?_set_self (by have := (List.getElem?_eq_some_iff.1 hv).1; simpa using this)] at hv
      rw [← Option.some.inj ho, ← Option.some.inj hv]
      exact hw
    · rw [List.getElem?_set_ne e] at ho hv
      refine (h.maps j v o hv ho).keep fun b' hb' => ?_
      obtain ⟨-, es, c, hh⟩ := (h.maps j v o hv ho).isMap b' hb'
      rw [hm _ _ _ hh, hh]
  · have old : ∀ (j : Nat) (v : Value × Value), us[j]? = some v → ∀ b, mbs v b → b < w.heap.size := fun j v hv b hb => by
      obtain ⟨o, -, ho⟩ := h.at hv
      obtain ⟨-, es, c, hh⟩ := ho.isMap b hb
      exact row_lt hh
    by_cases e : i = j
    · subst e
      rw [List.getElem?_set_self (by have := (List.getElem?_eq_some_iff.1 hv).1; simpa using this)] at hv
      rw [List.getElem?_set_ne hne] at hv'
      obtain rfl := Option.some.inj hv
      have := hnew b hb
      have := old k v' hv' b hb'
      omega
    · rw [List.getElem?_set_ne e] at hv
      by_cases e2 : i = k
      · subst e2
        rw [List.getElem?_set_self (by have := (List.getElem?_eq_some_iff.1 hv').1; simpa using this)] at hv'
        obtain rfl := Option.some.inj hv'
        have := hnew b hb'
        have := old j v hv b hb
        omega
      · rw [List.getElem?_set_ne e2] at hv'
        exact h.apart j k v v' hv hv' hne b hb hb'
end

/-! ### one element written -/
end Go.Proofs.YtogphaiomlfofaaDoor
