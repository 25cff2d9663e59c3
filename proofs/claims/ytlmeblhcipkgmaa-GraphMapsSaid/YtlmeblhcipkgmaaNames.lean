/- Names that stand for small numbers, as keys of maps. Conditions: those of each theorem, as typed. -/
import Derived.Test.YtlmeblhcipkgmaaKeysI
namespace Go.Proofs.Ytlmeblhcipkgmaa
open Go.RowKit Go.Maps Go.Sort Go.Shelf

/-- From 0 on: an x and a letter; below 0: a letter alone. -/
def nm (x : Int) : List UInt8 := if x < 0 then [UInt8.ofNat (97 + (x + 8).toNat)] else [120, UInt8.ofNat (97 + x.toNat)]
def dS (x : Int) : Prop := -8 ≤ x ∧ x ≤ 15
def nmB (x : Int) : ByteArray := ⟨(nm x).toArray⟩
abbrev nmV (x : Int) : Value := .string (nmB x)
def nmL (x : Int) : Lit := .string (nm x)
theorem dS_ex {x : Int} (h : dS x) : ∃ i : Fin 24, x = (i.val : Int) - 8 := ⟨⟨(x + 8).toNat, by unfold dS at h; omega⟩, by unfold dS at h; simp only; omega⟩
theorem nm_before : ∀ i j : Fin 24, bytesBefore (nm ((i.val : Int) - 8)) (nm ((j.val : Int) - 8)) = decide (i.val < j.val) := by decide +kernel
theorem nm_le : ∀ i j : Fin 24, decide (nm ((i.val : Int) - 8) ≤ nm ((j.val : Int) - 8)) = decide (i.val ≤ j.val) := by decide +kernel
theorem nm_inj {x y : Int} (hx : dS x) (hy : dS y) (h : nm x = nm y) : x = y := by
  obtain ⟨i, rfl⟩ := dS_ex hx
  obtain ⟨j, rfl⟩ := dS_ex hy
  have h1 := nm_before i j
  have h2 := nm_before j i
  rw [h] at h1 h2
  have h3 := nm_before j j
  rw [h3] at h1 h2
  simp only [Nat.lt_irrefl, decide_false] at h1 h2
  have h4 := of_decide_eq_false h1.symm
  have h5 := of_decide_eq_false h2.symm
  omega
theorem nm_length (x : Int) : (nm x).length ≤ 2 := by unfold nm; split <;> simp
theorem nm_leB {x y : Int} (hx : dS x) (hy : dS y) (h : x < y) : leB (nm x) (nm y) = true := by
  obtain ⟨i, rfl⟩ := dS_ex hx
  obtain ⟨j, rfl⟩ := dS_ex hy
  show decide _ = true
  rw [nm_le]
  simp
  omega
theorem keyT_str {P : Program} {K : TypeId} (hk : P.underlying K = some .string) : KeyT P K nmV nmL dS where
  keyed := string_keyed hk
  of x _ := by
    have := nm_length x
    have h2 : (ByteArray.mk (nm x).toArray).size = (nm x).length := by simp [ByteArray.size]
    unfold nmV nmB nmL keyOf mapKey
    rw [hk]
    simp only
    rw [if_pos (by rw [h2]; unfold maxLen; omega)]
  before x y hx hy := by
    obtain ⟨i, rfl⟩ := dS_ex hx
    obtain ⟨j, rfl⟩ := dS_ex hy
    show bytesBefore _ _ = true ↔ _
    rw [nm_before]
    simp
  inj x y hx hy h := by
    unfold nmL at h
    exact nm_inj hx hy (by simpa using h)
def nmC (x : Int) : List Value := [nmV x]
theorem nmC_len (x : Int) : (nmC x).length = 1 := rfl
theorem nm_one (x : Int) : ∀ u ∈ nmC x, u.oneCell' = true := by intro u hu; simp [nmC] at hu; subst hu; rfl
abbrev OwnN := OwnF nmC 9 1
theorem infoN : (Try.prog.info? 9).map (fun i => (i.zero, i.size, i.bytes)) = some (some (.string ⟨#[]⟩), 1, 16) := by kernel_rfl
theorem flat_nm (l : List Int) : l.flatMap nmC = (l.map nm).map encStr := by induction l with | nil => rfl | cons x l ih => simp [nmC, ih]; rfl
theorem sorts80 (m : Nat) : AnyZ.SortsIn Try.prog sorted80_ren Fence.wide m :=
  ⟨fun blk off cap ss W hH hblk hsz => callsIn_wide.2 (AnyM.slices_Sort_string sort106 blk off cap ss W hH hblk hsz),
   fun p cap W => callsIn_wide.2 (AnyM.slices_Sort_string_none sort106 p cap W)⟩
theorem mergeSort_nm {l : List Int} {ss : List (List UInt8)} (hp : ss.Perm (l.map nm)) (h : SrtI l) (hd : ∀ x ∈ l, dS x) : ss.mergeSort leB = l.map nm := by
  rw [mergeSort_of_perm hp]
  refine List.mergeSort_of_pairwise ?_
  rw [List.pairwise_map]
  exact List.Pairwise.imp_of_mem (fun {a b} ha hb hab => nm_leB (hd a ha) (hd b hb) hab) h
theorem strKeys_mapD {ε : Type} (ed : ε → DU) (M : List (Int × ε)) : strKeys (mapD nmL ed M) = (M.map (·.1)).map nm := by
  simp [strKeys, mapD, strOf, nmL]
theorem ownN_of_row {w : World} {B n : Nat} {v : Value} {l : List Int} (h : w.ownsRow B 9 1 v n ((l.map nm).map encStr)) (hn : n = l.length) : OwnN w B v l := by
  subst hn
  show w.ownsRow B _ 1 v l.length (l.flatMap nmC)
  rw [flat_nm]
  exact h
end Go.Proofs.Ytlmeblhcipkgmaa
