/- The engine clock: what it is, where it lies, what keeps it. Conditions: those of each theorem, as typed. -/
import Derived.Test.YtogphaiomlfofaaGreatDoorQM12
set_option linter.unusedVariables false
set_option linter.unusedSimpArgs false
namespace Go.Proofs.YtogphaiomlfofaaGreatDoor
open Go.RowKit Go.Maps
set_option linter.unusedVariables false
set_option linter.unusedSimpArgs false
attribute [local irreducible] wpL

/-! ### what it is -/
structure Ce where
  val : Int
  ver : Int
  own : Int
def Ce.cells (c : Ce) : List Value := [.int .i64 c.val, .int .i64 c.ver, .int .i64 c.own]
theorem Ce.len (c : Ce) : c.cells.length = 3 := rfl
abbrev Wo := Option (Int × MB × MI)
inductive Nx where
  | none
  | abort
  | commit
  | lock (l : List Int)
  | tick
  | look (now : Int) (l : List Int)
  | write (now : Int) (l : List Int)
  | ans (e : Ev)
structure LM where
  W : Wst
  cs : List Ce
  ws : List Wo
  nx : List Nx
  clk : Int
def lockNx : List Int → Nx
  | [] => .tick
  | k :: l => .lock (k :: l)
def writeNx (now : Int) : List Int → Nx
  | [] => .commit
  | k :: l => .write now (k :: l)
def lookNx (now : Int) (s : MI) : List Int → Nx
  | [] => writeNx now (s.map (·.1))
  | k :: l => .look now (k :: l)
def reactOf (s : MI) (e : Ev) : Nx := if e.kind = 1 then .none else if e.kind = 7 then .abort else if e.kind = 4 then (if s = [] then .commit else lockNx (s.map (·.1))) else .ans e
def offN (id : Int) (n : Nat) (cs : List Ce) : List Ce := cs.mapIdx fun k c => if k < n ∧ c.own = id then ⟨c.val, c.ver, 0⟩ else c
def offCs (id : Int) (cs : List Ce) : List Ce := offN id cs.length cs
def ceAt (cs : List Ce) (k : Int) : Ce := match cs[k.toNat]? with
  | some c => c
  | none => ⟨0, 0, 0⟩
def abortStep (P : Pg) (M : LM) (i : Nat) (t : Th) : LM := { M with W := M.W.putO i (ansOf P i t 0 true), cs := offCs (idOf i t.tx) M.cs }
def stale (tm : Int) (c : Ce) : Bool := !(c.own == 0) || decide (tm < c.ver)
def taken (i : Nat) (t : Th) (tm : Int) (c : Ce) : Bool := (!(c.own == 0) && !(c.own == idOf i t.tx)) || decide (tm < c.ver)
def ansStep (P : Pg) (M : LM) (i : Nat) (t : Th) (e : Ev) (tm : Int) (r : MB) (s : MI) : LM :=
  if e.op = 2 then { M with W := M.W.putO i (ansOf P i t 0 false), ws := M.ws.set i (some (tm, r, upd e.obj e.val s)) }
  else match fnd e.obj s with
    | some v => { M with W := M.W.putO i (ansOf P i t v false) }
    | none => if stale tm (ceAt M.cs e.obj) = true then abortStep P M i t
      else { M with W := M.W.putO i (ansOf P i t (ceAt M.cs e.obj).val false), ws := M.ws.set i (some (tm, upd e.obj () r, s)) }
def lockStep (P : Pg) (M : LM) (i : Nat) (t : Th) : List Int → LM × Nx
  | [] => (M, .none)
  | k :: l => if (ceAt M.cs k).own = 0 then ({ M with cs := M.cs.set k.toNat ⟨(ceAt M.cs k).val, (ceAt M.cs k).ver, idOf i t.tx⟩ }, lockNx l) else (abortStep P M i t, .none)
def lookStep (P : Pg) (M : LM) (i : Nat) (t : Th) (tm : Int) (s : MI) (now : Int) : List Int → LM × Nx
  | [] => (M, .none)
  | k :: l => if taken i t tm (ceAt M.cs k) = true then (abortStep P M i t, .none) else (M, lookNx now s l)
def writeStep (M : LM) (s : MI) (now : Int) : List Int → LM × Nx
  | [] => (M, .none)
  | k :: l => ({ M with cs := M.cs.set k.toNat ⟨(fnd k s).getD 0, now, 0⟩ }, writeNx now l)
def ownStep (P : Pg) (M : LM) (i : Nat) (t : Th) (s : MI) : LM × Nx :=
  match nextOf P i t with
  | none => (M, .none)
  | some y => ({ M with W := M.W.put i y, ws := if y.2.kind = 1 then M.ws.set i (some (M.clk, [], [])) else M.ws }, reactOf s y.2)
def doStep (P : Pg) (M : LM) (i : Nat) (t : Th) (x : Nx) (tm : Int) (r : MB) (s : MI) : LM × Nx :=
  match x with
  | .none => ownStep P M i t s
  | .abort => (abortStep P M i t, .none)
  | .commit => ({ M with W := M.W.putO i (ansOf P i t 0 false) }, .none)
  | .lock l => lockStep P M i t l
  | .tick => ({ M with clk := M.clk + 1 }, lookNx (M.clk + 1) s (r.map (·.1)))
  | .look now l => lookStep P M i t tm s now l
  | .write now l => writeStep M s now l
  | .ans e => (ansStep P M i t e tm r s, .none)

def woT (o : Option Wo) : Int := match o with
  | some (some (a, _, _)) => a
  | _ => 0
def woR (o : Option Wo) : MB := match o with
  | some (some (_, r, _)) => r
  | _ => []
def woS (o : Option Wo) : MI := match o with
  | some (some (_, _, s)) => s
  | _ => []

/-! ### where it lies -/
structure LC where
  B : Nat
  bM : Nat
  bD : Nat
  bW : Nat
  gT : Nat
  gN : Nat
  gW : Nat
  vc : Value
  vt : Value
  pc : Value
  pt : Value
  ce : Value
  /-- boxes of others, that stay -/
  F : Nat → Array Value → Prop
abbrev WkV := Int × Value × Value
def wkC (u : WkV) : List Value := [.int .i64 u.1, u.2.1, u.2.2]
theorem wkC_len (u : WkV) : (wkC u).length = 3 := rfl
abbrev LC.rf (C : LC) : Value := .func (.func 64) #[.pointer (some ⟨C.bM, 0, none⟩)] #[]
def WoAt (w : World) (B : Nat) (u : WkV) : Wo → Prop
  | none => u = (0, .map none, .map none)
  | some (tm, r, s) => ∃ br bs, u = (tm, .map (some br), .map (some bs)) ∧ B ≤ br ∧ B ≤ bs ∧ br ≠ bs ∧ IsMB w br r.length r ∧ IsMI w bs s.length s ∧ KCe r ∧ KSrt r ∧ KCe s ∧ KSrt s
def BxM (w : World) (C : LC) (i p1 p2 : Nat) : Prop := w.heap[p1]? = some (.cells #[.pointer (some ⟨C.bM, 0, none⟩)] 62 (0, 0)) ∧ w.heap[p2]? = some (.cells #[.int .i64 i] 3 (0, 0)) ∧ C.B ≤ p1 ∧ C.B ≤ p2
def LsBx (w : World) (C : LC) (p3 : Nat) (l : List Int) : Prop := ∃ (g off cap : Nat) (cs : Array Value), w.heap[p3]? = some (.cells #[.slice (some ⟨g, off, none⟩) l.length cap] 22 (0, 0)) ∧ w.heap[g]? = some (.cells cs 3 (0, 0)) ∧ C.B ≤ p3 ∧ C.B ≤ g ∧ l.length ≤ cap ∧ ∀ (j : Nat) (x : Int), l[j]? = some x → cs[off + j]? = some (.int .i64 x)
def IxBx (w : World) (C : LC) (p : Nat) (n : Int) : Prop := w.heap[p]? = some (.cells #[.int .i64 n] 3 (0, 0)) ∧ C.B ≤ p
def NxAt (w : World) (C : LC) (i : Nat) (ve v : Value) : Nx → Prop
  | .none => v = .nilFunc
  | .abort => ∃ p1 p2, v = .func (.func 137) #[] #[.pointer (some ⟨p1, 0, none⟩), .pointer (some ⟨p2, 0, none⟩)] ∧ BxM w C i p1 p2
  | .commit => ∃ p1 p2, v = .func (.func 138) #[] #[.pointer (some ⟨p1, 0, none⟩), .pointer (some ⟨p2, 0, none⟩)] ∧ BxM w C i p1 p2
  | .lock [] => False
  | .lock (k :: l) => ∃ p1 p2 p3, v = .func (.func 140) #[] #[.pointer (some ⟨p1, 0, none⟩), .pointer (some ⟨p3, 0, none⟩), .pointer (some ⟨p2, 0, none⟩)] ∧ BxM w C i p1 p2 ∧ LsBx w C p3 (k :: l)
  | .tick => ∃ p1 p2, v = .func (.func 175) #[] #[.pointer (some ⟨p1, 0, none⟩), .pointer (some ⟨p2, 0, none⟩)] ∧ BxM w C i p1 p2
  | .look _ [] => False
  | .look now (k :: l) => ∃ p1 p2 p3 p4, v = .func (.func 214) #[] #[.pointer (some ⟨p1, 0, none⟩), .pointer (some ⟨p3, 0, none⟩), .pointer (some ⟨p2, 0, none⟩), .pointer (some ⟨p4, 0, none⟩)] ∧ BxM w C i p1 p2 ∧ LsBx w C p3 (k :: l) ∧ IxBx w C p4 now
  | .write _ [] => False
  | .write now (k :: l) => ∃ p1 p2 p3 p4, v = .func (.func 236) #[] #[.pointer (some ⟨p1, 0, none⟩), .pointer (some ⟨p2, 0, none⟩), .pointer (some ⟨p3, 0, none⟩), .pointer (some ⟨p4, 0, none⟩)] ∧ BxM w C i p1 p2 ∧ LsBx w C p3 (k :: l) ∧ IxBx w C p4 now
  | .ans e => ∃ p1 p2 p3, v = .func (.func 106) #[] #[.pointer (some ⟨p1, 0, none⟩), .pointer (some ⟨p2, 0, none⟩), .pointer (some ⟨p3, 0, none⟩)] ∧ BxM w C i p1 p2 ∧ w.heap[p3]? = some (.cells e.cells.toArray 46 (0, 0)) ∧ ve.ownBlock ≠ some p3 ∧ C.B ≤ p3
structure WksAt (w : World) (C : LC) (n : Nat) (us : List WkV) (ws : List Wo) : Prop where
  own : OwnF wkC 178 3 w C.B (.slice (some ⟨C.gW, 0, none⟩) n n) us
  len : ws.length = n
  maps : ∀ (i : Nat) (u : WkV) (o : Wo), us[i]? = some u → ws[i]? = some o → WoAt w C.B u o
  apart : ∀ (i j : Nat) (u u' : WkV), us[i]? = some u → us[j]? = some u' → i ≠ j → ∀ b, mbs u.2 b → ¬ mbs u'.2 b
structure LaAt (w : World) (C : LC) (ve : Value) (us : List WkV) (P : Pg) (M : LM) : Prop where
  row : w.heap[C.bM]? = some (.cells #[.pointer (some ⟨C.bD, 0, none⟩), C.ce, .slice (some ⟨C.gW, 0, none⟩) P.threads.length P.threads.length, .int .i64 M.clk] 114 (0, 0))
  hB : C.B ≤ C.bM
  dr : ∃ vs, DrAt w C.B C.bD C.bW C.gT C.gN C.vc C.vt ve C.pc C.pt C.rf P M.W vs ∧ M.nx.length = P.threads.length ∧ ∀ (i : Nat) (v : Value) (x : Nx), vs[i]? = some v → M.nx[i]? = some x → NxAt w C i ve v x
  cells : OwnF Ce.cells 116 3 w C.B C.ce M.cs
  clen : M.cs.length = P.cells.length
  wks : WksAt w C P.threads.length us M.ws
  fr : ∀ (k : Nat) (cs : Array Value), C.F k cs → w.heap[k]? = some (.cells cs 31 (0, 0))

/-! ### what keeps it -/
section
variable {w w' : World} {C : LC} {ve ve' : Value} {P : Pg} {M : LM} {us : List WkV}
theorem BxM.keep {i p1 p2 : Nat} (h : BxM w C i p1 p2)
    (h1 : ∀ (p : Nat) (u : Value), w.heap[p]? = some (.cells #[u] 62 (0, 0)) → w'.heap[p]? = some (.cells #[u] 62 (0, 0)))
    (h2 : ∀ (p : Nat) (u : Array Value), w.heap[p]? = some (.cells u 3 (0, 0)) → w'.heap[p]? = some (.cells u 3 (0, 0))) : BxM w' C i p1 p2 := ⟨h1 _ _ h.1, h2 _ _ h.2.1, h.2.2⟩
theorem NxAt.keep {i : Nat} {v : Value} {x : Nx} (h : NxAt w C i ve v x)
    (h1 : ∀ (p : Nat) (u : Value), w.heap[p]? = some (.cells #[u] 62 (0, 0)) → w'.heap[p]? = some (.cells #[u] 62 (0, 0)))
    (h2 : ∀ (p : Nat) (u : Array Value), w.heap[p]? = some (.cells u 3 (0, 0)) → w'.heap[p]? = some (.cells u 3 (0, 0)))
    (h4 : ∀ (p : Nat) (u : Value), w.heap[p]? = some (.cells #[u] 22 (0, 0)) → w'.heap[p]? = some (.cells #[u] 22 (0, 0)))
    (h3 : ∀ (p : Nat) (cs : Array Value), w.heap[p]? = some (.cells cs 46 (0, 0)) → ve.ownBlock ≠ some p → w'.heap[p]? = some (.cells cs 46 (0, 0)) ∧ ve'.ownBlock ≠ some p) : NxAt w' C i ve' v x := by
  cases x with
  | none => exact h
  | abort =>
    obtain ⟨p1, p2, hv, k⟩ := h
    exact ⟨p1, p2, hv, k.keep h1 h2⟩
  | commit =>
    obtain ⟨p1, p2, hv, k⟩ := h
    exact ⟨p1, p2, hv, k.keep h1 h2⟩
  | tick =>
    obtain ⟨p1, p2, hv, k⟩ := h
    exact ⟨p1, p2, hv, k.keep h1 h2⟩
  | lock l =>
    cases l with
    | nil => exact h
    | cons a l =>
      obtain ⟨p1, p2, p3, hv, k, g, off, cap, cs, k3, k4, r⟩ := h
      exact ⟨p1, p2, p3, hv, k.keep h1 h2, g, off, cap, cs, h4 _ _ k3, h2 _ _ k4, r⟩
  | look n l =>
    cases l with
    | nil => exact h
    | cons a l =>
      obtain ⟨p1, p2, p3, p4, hv, k, ⟨g, off, cap, cs, k3, k4, r⟩, k5, k6⟩ := h
      exact ⟨p1, p2, p3, p4, hv, k.keep h1 h2, ⟨g, off, cap, cs, h4 _ _ k3, h2 _ _ k4, r⟩, h2 _ _ k5, k6⟩
  | write n l =>
    cases l with
    | nil => exact h
    | cons a l =>
      obtain ⟨p1, p2, p3, p4, hv, k, ⟨g, off, cap, cs, k3, k4, r⟩, k5, k6⟩ := h
      exact ⟨p1, p2, p3, p4, hv, k.keep h1 h2, ⟨g, off, cap, cs, h4 _ _ k3, h2 _ _ k4, r⟩, h2 _ _ k5, k6⟩
  | ans e =>
    obtain ⟨p1, p2, p3, hv, k, k3, k4, r⟩ := h
    obtain ⟨k5, k6⟩ := h3 _ _ k3 k4
    exact ⟨p1, p2, p3, hv, k.keep h1 h2, k5, k6, r⟩
theorem WoAt.keep {B : Nat} {u : WkV} {o : Wo} (h : WoAt w B u o) (hk : ∀ b : Nat, mbs u.2 b → w'.heap[b]? = w.heap[b]?) : WoAt w' B u o := by
  cases o with
  | none => exact h
  | some p =>
    obtain ⟨tm, r, s⟩ := p
    obtain ⟨br, bs, rfl, h1, h2, h3, h6, h7, h8⟩ := h
    exact ⟨br, bs, rfl, h1, h2, h3, h6.obj (hk br (.inl rfl)), h7.obj (hk bs (.inr rfl)), h8⟩
theorem WoAt.isMap {B : Nat} {u : WkV} {o : Wo} (h : WoAt w B u o) : ∀ b, mbs u.2 b → B ≤ b ∧ ∃ es c, w.heap[b]? = some (.map es c) := by
  cases o with
  | none =>
    obtain rfl := h
    rintro b (h | h) <;> cases h
  | some p =>
    obtain ⟨tm, r, s⟩ := p
    obtain ⟨br, bs, rfl, h1, h2, h3, ⟨es, c, h6, -⟩, ⟨es', c', h7, -⟩, h8⟩ := h
    rintro b (h | h)
    · cases h; exact ⟨h1, es, c, h6⟩
    · cases h; exact ⟨h2, es', c', h7⟩
theorem WksAt.at {n : Nat} {us : List WkV} {ws : List Wo} (h : WksAt w C n us ws) {i : Nat} {u : WkV} (hu : us[i]? = some u) : ∃ o, ws[i]? = some o ∧ WoAt w C.B u o := by
  have hl := h.own.len
  have hi : i < us.length := (List.getElem?_eq_some_iff.1 hu).1
  obtain ⟨o, ho⟩ : ∃ o, ws[i]? = some o := ⟨_, List.getElem?_eq_getElem (by rw [h.len]; omega)⟩
  exact ⟨o, ho, h.maps i u o hu ho⟩
theorem WksAt.keep {n : Nat} {us : List WkV} {ws : List Wo} (h : WksAt w C n us ws)
    (h1 : OwnF wkC 178 3 w' C.B (.slice (some ⟨C.gW, 0, none⟩) n n) us)
    (hk : ∀ (b : Nat) (es : Array MapEntry) (c : Nat), w.heap[b]? = some (.map es c) → w'.heap[b]? = some (.map es c)) : WksAt w' C n us ws :=
  ⟨h1, h.len, fun i u o hu ho => (h.maps i u o hu ho).keep fun b hb => by
    obtain ⟨-, es, c, hm⟩ := (h.maps i u o hu ho).isMap b hb
    rw [hk b es c hm, hm], h.apart⟩
theorem LaAt.below (h : LaAt w C ve us P M) (hb : Below w.heap.size w w') : LaAt w' C ve us P M := by
  obtain ⟨vs, h1, h2, h3⟩ := h.dr
  refine ⟨row_below h.row hb (row_lt h.row), h.hB, ⟨vs, h1.below hb, h2, fun i v x hv hx => NxAt.keep (h3 i v x hv hx) (fun p u hp => row_below hp hb (row_lt hp)) (fun p u hp => row_below hp hb (row_lt hp)) (fun p u hp => row_below hp hb (row_lt hp)) fun p cs hp he => ⟨row_below hp hb (row_lt hp), he⟩⟩, OwnF.below h.cells hb, h.clen, ?_, fun k cs hf => row_below (h.fr k cs hf) hb (row_lt (h.fr k cs hf))⟩
  exact h.wks.keep (OwnF.below h.wks.own hb) fun b es c hm => row_below hm hb (row_lt hm)
theorem LaAt.walked {S' : Wst} (h : LaAt w C ve us P M) (hk : Kp Mw ve w w') (hw : WkAt w' C.B C.bW C.gT C.vc C.vt ve' P S') (ho : ∀ k, ve'.ownBlock = some k → ve.ownBlock = some k ∨ w.heap.size ≤ k) : LaAt w' C ve' us P { M with W := S' } := by
  obtain ⟨vs, h1, h2, h3⟩ := h.dr
  refine ⟨hk.rowW h.row (by decide) (by decide) (by decide), h.hB, ⟨vs, h1.walked hk hw, h2, fun i v x hv hx => NxAt.keep (h3 i v x hv hx) (fun p u hp => hk.rowW hp (by decide) (by decide) (by decide)) (fun p u hp => hk.rowW hp (by decide) (by decide) (by decide)) (fun p u hp => hk.rowW hp (by decide) (by decide) (by decide)) fun p cs hp he => ⟨hk.cells p cs _ _ hp (by unfold Mw; decide) (fun _ => he), fun e => ?_⟩⟩, OwnF.kpW h.cells hk (by decide) (by decide) (by decide), h.clen, ?_, fun k cs hf => hk.rowW (h.fr k cs hf) (by decide) (by decide) (by decide)⟩
  · rcases ho p e with h | h
    · exact he h
    · have := row_lt hp; omega
  · exact h.wks.keep (OwnF.kpW h.wks.own hk (by decide) (by decide) (by decide)) fun b es c hm => hk.maps b es c hm
end

/-! ### cells of one type are written, or a map -/
section
variable {w w' w1 : World} {C : LC} {ve ve' : Value} {P : Pg} {M : LM} {us : List WkV} {T T' : TypeId → Prop}
def Ml (t : TypeId) : Prop := t = 116 ∨ t = 178
def Mm (t : TypeId) : Prop := t = 116 ∨ t = 178 ∨ t = 114
theorem WkAt.km {B bW gT : Nat} {vc vt : Value} {S : Wst} (h : WkAt w B bW gT vc vt ve P S) (hk : Kd Mm w w') : WkAt w' B bW gT vc vt ve P S :=
  ⟨hk _ _ _ _ h.row (by unfold Mm; decide), h.hB, OwnF.kd h.cells hk (by unfold Mm; decide), h.thr.kd hk (by unfold Mm; decide) (by unfold Mm; decide) (by unfold Mm; decide), OwnF.kd h.ths hk (by unfold Mm; decide), OwnF.kd h.evs hk (by unfold Mm; decide), h.ok, h.tok⟩
theorem DrAt.km {B bD bW gT gN : Nat} {vc vt pc pt rf : Value} {S : Wst} {nx : List Value} (h : DrAt w B bD bW gT gN vc vt ve pc pt rf P S nx) (hk : Kd Mm w w') : DrAt w' B bD bW gT gN vc vt ve pc pt rf P S nx :=
  ⟨hk _ _ _ _ h.row (by unfold Mm; decide), h.hB, h.walk.km hk, OwnF.kd h.pcells hk (by unfold Mm; decide), h.pthr.kd hk (by unfold Mm; decide) (by unfold Mm; decide) (by unfold Mm; decide), OwnF.kd h.next hk (by unfold Mm; decide)⟩
theorem Ml.mm : ∀ t, Ml t → Mm t := fun t h => h.elim .inl fun h => .inr (.inl h)
theorem WkAt.kd {B bW gT : Nat} {vc vt : Value} {S : Wst} (h : WkAt w B bW gT vc vt ve P S) (hk : Kd Ml w w') : WkAt w' B bW gT vc vt ve P S := h.km (hk.mono Ml.mm)
theorem DrAt.kd {B bD bW gT gN : Nat} {vc vt pc pt rf : Value} {S : Wst} {nx : List Value} (h : DrAt w B bD bW gT gN vc vt ve pc pt rf P S nx) (hk : Kd Ml w w') : DrAt w' B bD bW gT gN vc vt ve pc pt rf P S nx := h.km (hk.mono Ml.mm)
theorem LaAt.turn {us' : List WkV} {cs' : List Ce} {ws' : List Wo} (h : LaAt w C ve us P M) (hk : Kd Ml w w') (hce : OwnF Ce.cells 116 3 w' C.B C.ce cs') (hcl : cs'.length = P.cells.length) (hwk : WksAt w' C P.threads.length us' ws') : LaAt w' C ve us' P { M with cs := cs', ws := ws' } := by
  obtain ⟨vs, h1, h2, h3⟩ := h.dr
  exact ⟨hk _ _ _ _ h.row (by unfold Ml; decide), h.hB, ⟨vs, h1.kd hk, h2, fun i v x hv hx => NxAt.keep (h3 i v x hv hx) (fun p u hp => hk _ _ _ _ hp (by unfold Ml; decide)) (fun p u hp => hk _ _ _ _ hp (by unfold Ml; decide)) (fun p u hp => hk _ _ _ _ hp (by unfold Ml; decide)) fun p cs hp he => ⟨hk _ _ _ _ hp (by unfold Ml; decide), he⟩⟩, hce, hcl, hwk, fun k cs hf => hk _ _ _ _ (h.fr k cs hf) (by unfold Ml; decide)⟩
theorem LaAt.tock (h : LaAt w C ve us P M) (n : Int) : LaAt (w.setCell ⟨C.bM, 3, none⟩ (.int .i64 n)) C ve us P { M with clk := n } := by
  obtain ⟨vs, h1, h2, h3⟩ := h.dr
  have hk : Kd (fun t => t = 114) w (w.setCell ⟨C.bM, 3, none⟩ (.int .i64 n)) := Kd.set (T := fun t => t = 114) h.row rfl _
  have hkm : Kd Mm w (w.setCell ⟨C.bM, 3, none⟩ (.int .i64 n)) := hk.mono fun t e => .inr (.inr e)
  exact ⟨row_set h.row 3 _, h.hB, ⟨vs, h1.km hkm, h2, fun i v x hv hx => NxAt.keep (h3 i v x hv hx) (fun p u hp => hk _ _ _ _ hp (by decide)) (fun p u hp => hk _ _ _ _ hp (by decide)) (fun p u hp => hk _ _ _ _ hp (by decide)) fun p cs hp he => ⟨hk _ _ _ _ hp (by decide), he⟩⟩, OwnF.kd h.cells hk (by decide), h.clen, h.wks.keep (OwnF.kd h.wks.own hk (by decide)) (KmAll.set h.row _), fun k cs hf => hk _ _ _ _ (h.fr k cs hf) (by decide)⟩
theorem LaAt.frame (h : LaAt w C ve us P M) {F' : Nat → Array Value → Prop} (hf : ∀ (k : Nat) (cs : Array Value), F' k cs → w.heap[k]? = some (.cells cs 31 (0, 0))) : LaAt w { C with F := F' } ve us P M := by
  obtain ⟨vs, h1, h2, h3⟩ := h.dr
  refine ⟨h.row, h.hB, ⟨vs, h1, h2, fun i v x hv hx => ?_⟩, h.cells, h.clen, ⟨h.wks.own, h.wks.len, h.wks.maps, h.wks.apart⟩, hf⟩
  have := h3 i v x hv hx
  cases x with
  | none => exact this
  | abort => exact this
  | commit => exact this
  | tick => exact this
  | lock l => cases l <;> exact this
  | look n l => cases l <;> exact this
  | write n l => cases l <;> exact this
  | ans e => exact this
theorem WksAt.store {n : Nat} {ws : List Wo} (h : WksAt w C n us ws) {i b : Nat} {u : WkV} {o' : Wo} (hu : us[i]? = some u) (hb : mbs u.2 b) (ht : w.mapTurned w' b) (hw : WoAt w' C.B u o') : WksAt w' C n us (ws.set i o') := by
  refine ⟨OwnF.kd h.own (Kd.turned (T := fun _ => False) ht) (fun h => h), by rw [List.length_set]; exact h.len, fun j v o hv ho => ?_, h.apart⟩
  by_cases e : i = j
  · subst e
    rw [hu] at hv
    obtain rfl := Option.some.inj hv
    rw [List.getElem?_set_self (by have := (List.getElem?_eq_some_iff.1 ho).1; simpa using this)] at ho
    rw [← Option.some.inj ho]
    exact hw
  · rw [List.getElem?_set_ne e] at ho
    refine (h.maps j v o hv ho).keep fun b' hb' => turned_other ht ?_
    rintro rfl
    exact h.apart i j u v hu hv e _ hb hb'
theorem WksAt.begin {n : Nat} {ws : List Wo} (h : WksAt w C n us ws) {i : Nat} {u : WkV} {o' : Wo} (hm : KmAll w w') (h1 : OwnF wkC 178 3 w' C.B (.slice (some ⟨C.gW, 0, none⟩) n n) (us.set i u)) (hnew : ∀ b, mbs u.2 b → w.heap.size ≤ b) (hw : WoAt w' C.B u o') : WksAt w' C n (us.set i u) (ws.set i o') := by
  refine ⟨h1, by rw [List.length_set]; exact h.len, fun j v o hv ho => ?_, fun j k v v' hv hv' hne b hb hb' => ?_⟩
  · by_cases e : i = j
    · subst e
      rw [List.getElem?_set_self (by have := (List.getElem?_eq_some_iff.1 ho).1; simpa using this)] at ho
      rw [List.getElem?_set_self (by have := (List.getElem?_eq_some_iff.1 hv).1; simpa using this)] at hv
      rw [← Option.some.inj ho, ← Option.some.inj hv]
      exact hw
    · rw [List.getElem?_set_ne e] at ho hv
      refine (h.maps j v o hv ho).keep fun b' hb' => ?_
      obtain ⟨-, es, c, hh⟩ := (h.maps j v o hv ho).isMap b' hb'
      rw [hm _ _ _ hh, hh]
  · have old : ∀ (j : Nat) (v : WkV), us[j]? = some v → ∀ b, mbs v.2 b → b < w.heap.size := fun j v hv b hb => by
      obtain ⟨o, -, ho⟩ := h.at hv
      obtain ⟨-, es, c, hh⟩ := ho.isMap b hb
      exact row_lt hh
    by_cases e : i = j
    · subst e
      rw [List.getElem?_set_self (by have := (List.getElem?_eq_some_iff.1 hv).1; simpa using this)] at hv
      rw [List.getElem?_set_ne hne] at hv'
      obtain rfl := Option.some.inj hv
      have := hnew b hb
      have := old k v' hv' b hb'
      omega
    · rw [List.getElem?_set_ne e] at hv
      by_cases e2 : i = k
      · subst e2
        rw [List.getElem?_set_self (by have := (List.getElem?_eq_some_iff.1 hv').1; simpa using this)] at hv'
        obtain rfl := Option.some.inj hv'
        have := hnew b hb'
        have := old j v hv b hb
        omega
      · rw [List.getElem?_set_ne e2] at hv'
        exact h.apart j k v v' hv hv' hne b hb hb'
end

/-! ### one element written -/
end Go.Proofs.YtogphaiomlfofaaGreatDoor
