/- What stays while a range goes on, while a list of the call's own grows, while a map of the call's own is written. Conditions: those of each theorem, as typed. -/
import Derived.Test.YtlmeblhcipkgmaaGrR
import Derived.Test.YtlmeblhcipkgmaaSpoil
import Derived.Test.YtlmeblhcipkgmaaLow
import Derived.Test.YtlmeblhcipkgmaaGrD
import Derived.Test.YtlmeblhcipkgmaaRefB
namespace Go.Proofs.Ytlmeblhcipkgmaa
open Go.RowKit Go.Maps

abbrev MapI (w : World) (b : Nat) (M : List (Int × Int)) : Prop := IsMapK Try.prog 3 Rint (.int .i64) (fun n : Int => .lit (.int .i64 n)) w b M.length M
theorem zeroI (w : World) : (zeroValue 3).run Try.prog w = .ok (.int .i64 0) w := by kernel_rfl
section
variable {P : Program} {K : TypeId} {R : RdU} {kl : Int → Lit} {ε : Type} {ed : ε → DU} {w w' : World} {q n b r cnt : Nat} {L : List (Int × ε)} {S : Int → Bool}
variable {α : Type} {f : α → List Value} {e : TypeId} {sz B : Nat} {v v' : Value} {l : List α}
/-- An iterator stands at r. -/
def IterAt (w : World) (r : Nat) : Prop := ∃ m since seen c0, w.heap[r]? = some (.mapIter m since seen c0)
theorem Rng.iterAt (h : Rng P K R kl ed w b r n L S cnt) : IterAt w r := let ⟨s, s2, c, hr⟩ := h.iter; ⟨_, s, s2, c, hr⟩
theorem IsMapK.nextK (h : IsMapK P K R kl ed w q n L) (hi : IterAt w r) (hg : w.grownBy w' (some r)) : IsMapK P K R kl ed w' q n L := by
  obtain ⟨es, c, hb, -⟩ := id h
  refine h.obj (hg.block q h.lt fun e => ?_)
  cases e
  obtain ⟨m, s, s2, c, hr⟩ := hi
  rw [hb] at hr
  cases hr
theorem OwnF.nextK (h : OwnF f e sz w B v l) (hi : IterAt w r) (hg : w.grownBy w' (some r)) : OwnF f e sz w' B v l := by
  refine h.kept hg ?_
  refine .inr fun e => ?_
  obtain ⟨cs, hcs⟩ := h.keepObj r e
  obtain ⟨m, s, s2, c, hr⟩ := hi
  rw [hcs] at hr
  cases hr
theorem Rng.nextK {r' : Nat} (h : Rng P K R kl ed w b r n L S cnt) (hi : IterAt w r') (hne : r ≠ r') (hg : w.grownBy w' (some r')) : Rng P K R kl ed w' b r n L S cnt := by
  refine h.obj (hg.block b h.owns.lt fun e => ?_) (hg.block r h.lt fun e => hne (Option.some.inj e))
  cases e
  obtain ⟨es, c, hb, -⟩ := id h.owns
  obtain ⟨m, s, s2, c, hr⟩ := hi
  rw [hb] at hr
  cases hr
theorem IterAt.nextK {r' : Nat} (h : IterAt w r) (hne : r ≠ r') (hg : w.grownBy w' (some r')) : IterAt w' r := by
  obtain ⟨m, s, s2, c, hr⟩ := h
  exact ⟨m, s, s2, c, (hg.block r (row_lt hr) fun e => hne (Option.some.inj e)).trans hr⟩
theorem IsMapK.none (h : IsMapK P K R kl ed w q n L) (hg : w.grownBy w' Option.none) : IsMapK P K R kl ed w' q n L := h.obj (hg.block q h.lt (by simp))
theorem OwnF.none (h : OwnF f e sz w B v l) (hg : w.grownBy w' Option.none) : OwnF f e sz w' B v l := h.kept hg (by cases v.ownBlock <;> simp)
theorem Rng.none (h : Rng P K R kl ed w b r n L S cnt) (hg : w.grownBy w' Option.none) : Rng P K R kl ed w' b r n L S cnt := h.obj (hg.block b h.owns.lt (by simp)) (hg.block r h.lt (by simp))
theorem IsMapK.grw (h : IsMapK P K R kl ed w q n L) (ho : OwnF f e sz w B v l) (hg : Grw w w' v v') : IsMapK P K R kl ed w' q n L := by
  obtain ⟨es, c, hb, -⟩ := id h
  refine h.obj (hg.grown.block q h.lt fun e => ?_)
  obtain ⟨cs, hcs⟩ := ho.keepObj q e.symm
  rw [hb] at hcs
  cases hcs
theorem Rng.grw (h : Rng P K R kl ed w b r n L S cnt) (ho : OwnF f e sz w B v l) (hg : Grw w w' v v') : Rng P K R kl ed w' b r n L S cnt := by
  obtain ⟨s, s2, c, hr⟩ := h.iter
  obtain ⟨es, c, hb, -⟩ := id h.owns
  refine h.obj (hg.grown.block b h.owns.lt fun e => ?_) (hg.grown.block r h.lt fun e => ?_)
  · obtain ⟨cs, hcs⟩ := ho.keepObj b e.symm
    rw [hb] at hcs
    cases hcs
  · obtain ⟨cs, hcs⟩ := ho.keepObj r e.symm
    rw [hr] at hcs
    cases hcs
theorem IsMapK.turn (h : IsMapK P K R kl ed w q n L) {q' : Nat} (ht : w.mapTurned w' q') (hne : q ≠ q') : IsMapK P K R kl ed w' q n L := h.obj (turned_other ht hne)
theorem OwnF.turn (h : OwnF f e sz w B v l) {q' : Nat} (ht : w.mapTurned w' q') : OwnF f e sz w' B v l := h.keepC (Keep.turned ht)
theorem Rng.turn (h : Rng P K R kl ed w b r n L S cnt) {q' : Nat} (ht : w.mapTurned w' q') (hne : b ≠ q') : Rng P K R kl ed w' b r n L S cnt := by
  obtain ⟨s, s2, c, hr⟩ := h.iter
  refine h.obj (turned_other ht hne) (turned_other ht ?_)
  rintro rfl
  obtain ⟨es, c, es', c', hb, -⟩ := ht
  rw [hr] at hb
  cases hb
end
end Go.Proofs.Ytlmeblhcipkgmaa
