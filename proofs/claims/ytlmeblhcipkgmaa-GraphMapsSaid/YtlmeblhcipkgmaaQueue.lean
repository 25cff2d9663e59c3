/- A queue: a slice that is cut at its front and appended to at its end, in memory of the call's own. On the model alone. Conditions: those of each theorem, as typed. -/
import Derived.Test.YtlmeblhcipkgmaaApp
namespace Go.Proofs.Ytlmeblhcipkgmaa
open Go.RowKit

theorem map_eq_flat (enc : Int → Value) (l : List Int) : l.map enc = l.flatMap fun x => [enc x] := by induction l with | nil => rfl | cons x l ih => simp [ih]
def OwnQ (enc : Int → Value) (e : TypeId) (w : World) (B : Nat) (v : Value) (l : List Int) : Prop :=
  (v = .slice none 0 0 ∧ l = []) ∨ ∃ g off cap cur, v = .slice (some ⟨g, off, none⟩) l.length cap ∧ B ≤ g ∧ w.heap[g]? = some (.cells cur e (0, 0)) ∧ l.length ≤ cap ∧ cap ≤ maxLen ∧ off + cap ≤ cur.size ∧ ∀ j x, l[j]? = some x → cur[off + j]? = some (enc x)
section
variable {enc : Int → Value} {e : TypeId} {w w' : World} {B : Nat} {v : Value} {l : List Int}
theorem OwnQ.of_own {f : Int → List Value} (hf : ∀ x, f x = [enc x]) (h : OwnF f e 1 w B v l) : OwnQ enc e w B v l := by
  obtain ⟨h1, h2⟩ := h
  rcases h2 with ⟨h2, h3⟩ | ⟨g, cap, cur, rfl, hB, hh, hnc, hcm, hs, ht⟩
  · exact .inl ⟨h2, List.eq_nil_of_length_eq_zero h3⟩
  · refine .inr ⟨g, 0, cap, cur, rfl, hB, hh, hnc, hcm, by omega, fun j x hx => ?_⟩
    have hfl : l.flatMap f = l.map enc := by
      rw [show f = fun x => [enc x] from funext hf]
      exact (map_eq_flat enc l).symm
    rw [hfl, Nat.mul_one] at ht
    have hj : j < l.length := (List.getElem?_eq_some_iff.1 hx).1
    have : (cur.toList.take l.length)[j]? = some (enc x) := by rw [ht, List.getElem?_map, hx]; rfl
    rw [List.getElem?_take_of_lt hj] at this
    rw [Nat.zero_add]
    simpa using this
theorem OwnQ.lt (h : OwnQ enc e w B v l) : ∀ k, v.ownBlock = some k → B ≤ k ∧ k < w.heap.size := by
  intro k hk
  rcases h with ⟨rfl, -⟩ | ⟨g, off, cap, cur, rfl, hB, hh, -⟩
  · simp [Value.ownBlock] at hk
  · simp only [Value.ownBlock, Option.some.injEq] at hk
    subst hk
    exact ⟨hB, row_lt hh⟩
theorem OwnQ.obj (h : OwnQ enc e w B v l) : ∀ k, v.ownBlock = some k → ∃ cs, w.heap[k]? = some (.cells cs e (0, 0)) := by
  intro k hk
  rcases h with ⟨rfl, -⟩ | ⟨g, off, cap, cur, rfl, hB, hh, -⟩
  · simp [Value.ownBlock] at hk
  · simp only [Value.ownBlock, Option.some.injEq] at hk
    subst hk
    exact ⟨cur, hh⟩
theorem OwnQ.keep (h : OwnQ enc e w B v l) (hk : ∀ k cs, v.ownBlock = some k → w.heap[k]? = some (.cells cs e (0, 0)) → w'.heap[k]? = some (.cells cs e (0, 0))) : OwnQ enc e w' B v l := by
  rcases h with h | ⟨g, off, cap, cur, rfl, hB, hh, r⟩
  · exact .inl h
  · exact .inr ⟨g, off, cap, cur, rfl, hB, hk g cur rfl hh, r⟩
theorem OwnQ.below (h : OwnQ enc e w B v l) (hb : Below w.heap.size w w') : OwnQ enc e w' B v l := h.keep fun k _ hk hh => row_below hh hb (h.lt k hk).2
theorem OwnQ.ex (h : OwnQ enc e w B v l) : ∃ a cap, v = .slice a l.length cap ∧ l.length ≤ 9223372036854775807 := by
  rcases h with ⟨rfl, rfl⟩ | ⟨g, off, cap, cur, rfl, -, -, h1, h2, -⟩
  · exact ⟨none, 0, rfl, by simp⟩
  · exact ⟨_, cap, rfl, by unfold maxLen at h2; omega⟩
/-- The first, and what is left. -/
theorem OwnQ.pop {x : Int} {a : Option Addr} {n cap : Nat} (h : OwnQ enc e w B (.slice a n cap) (x :: l)) : ∃ g off, a = some ⟨g, off, none⟩ ∧ n = l.length + 1 ∧ 1 ≤ cap ∧ cap ≤ maxLen ∧ B ≤ g ∧ g < w.heap.size ∧ w.cell? ⟨g, off, none⟩ = some (enc x) ∧
    (1 < cap → OwnQ enc e w B (.slice (some ⟨g, off + 1, none⟩) l.length (cap - 1)) l) ∧ (cap = 1 → OwnQ enc e w B (.slice (some ⟨g, off, none⟩) l.length 0) l) := by
  rcases h with ⟨-, h⟩ | ⟨g, off, cap', cur, hv, hB, hh, h1, h2, h3, hc⟩
  · cases h
  · simp only [Value.slice.injEq, List.length_cons] at hv
    obtain ⟨rfl, rfl, rfl⟩ := hv
    simp only [List.length_cons] at h1
    refine ⟨g, off, rfl, rfl, by omega, h2, hB, row_lt hh, ?_, fun hlt => .inr ⟨g, off + 1, cap - 1, cur, rfl, hB, hh, by omega, by omega, by omega, fun j y hy => ?_⟩, fun he => .inr ⟨g, off, 0, cur, rfl, hB, hh, by omega, by omega, by omega, fun j y hy => ?_⟩⟩
    · rw [row_cell hh]
      have := hc 0 x rfl
      rwa [Nat.add_zero] at this
    · have := hc (j + 1) y (by simpa using hy)
      rw [← this]
      congr 1
      omega
    · have : j < l.length := (List.getElem?_eq_some_iff.1 hy).1
      omega

theorem run_append_room_off {P : Program} (w : World) (t ty e : TypeId) (i : TypeInfo) (ht : P.underlying t = some (.slice e)) (hi : P.info? e = some i)
    (g off sLen sCap : Nat) (cur : Array Value) (hg : w.heap[g]? = some (.cells cur e (0, 0)))
    (a : Addr) (m c : Nat) (news : List Value) (hl : news.length = m * i.size) (hnews : ∀ j u, news[j]? = some u → w.cell? (a.add j) = some u) (h1 : ∀ u ∈ news, u.oneCell' = true)
    (hroom : sLen + m ≤ sCap) (hfit : off + sLen * i.size + news.length ≤ cur.size) :
    (Builtin.append_ #[t, t] ty #[.slice (some ⟨g, off, none⟩) sLen sCap, .slice (some a) m c]).run P w =
      .ok (.slice (some ⟨g, off, none⟩) (sLen + m) sCap) (w.setRow g (cur.toList.take (off + sLen * i.size) ++ news ++ cur.toList.drop (off + sLen * i.size + news.length)).toArray) := by
  have hf := run_firstCells_some (P := P) w i.size m a m c news hl hnews
  have hst := run_storeCells_at P g (off + sLen * i.size) e news 0 cur w hg (by simpa using hfit) h1
  simp only [Nat.add_zero] at hst
  simp [Builtin.append_, run_underlying ht, sizeOf, typeInfo, hi, Builtin.lenOf, hroom, hf, Addr.add_lit, hst]

/-- append(queue, list...) -/
theorem run_appQ {P : Program} (t ty : TypeId) (z : Value) (bytes : Nat) (ht : P.underlying t = some (.slice e)) (hinfo : (P.info? e).map (fun i => (i.zero, i.size, i.bytes)) = some (some z, 1, bytes))
    (hzs : z.cells.size = 1) (h1 : ∀ x, (enc x).oneCell' = true) (h : OwnQ enc e w B v l) (hB : B ≤ w.heap.size) {u : Value} {ys : List Int} {f : Int → List Value} (hf : ∀ x, f x = [enc x]) {N : Nat} (hu : OwnF f e 1 w N u ys) (hn : l.length + ys.length ≤ 9223372036854775807) (hby : (l.length + ys.length) * bytes ≤ 140737488355328) :
    ∃ v' w', (Builtin.append_ #[t, t] ty #[v, u]).run P w = .ok v' w' ∧ OwnQ enc e w' B v' (l ++ ys) ∧ Grw w w' v v' := by
  obtain ⟨i, hi, hz0, hz1, hz2⟩ := info_parts hinfo
  have hff : f = fun x => [enc x] := funext hf
  subst hff
  obtain ⟨hu1, hu2⟩ := hu
  rcases hu2 with ⟨rfl, hy⟩ | ⟨gu, cu, curu, rfl, -, hhu, hncu, hcmu, hsu, htu⟩
  · obtain rfl : ys = [] := List.eq_nil_of_length_eq_zero hy
    rw [List.append_nil]
    rcases h with ⟨rfl, rfl⟩ | ⟨g, off, cap, cur, rfl, hBg, hh, hnc, r⟩
    · exact ⟨_, w, by simp [Builtin.append_, run_underlying ht, sizeOf, typeInfo, hi, Builtin.lenOf, Builtin.firstCells], .inl ⟨rfl, rfl⟩, Grw.refl _ _⟩
    · exact ⟨_, w, by simp [Builtin.append_, run_underlying ht, sizeOf, typeInfo, hi, Builtin.lenOf, Builtin.firstCells, hnc, storeCells], .inr ⟨g, off, cap, cur, rfl, hBg, hh, hnc, r⟩, Grw.refl _ _⟩
  · have hnews : ∀ j x, (ys.flatMap fun x => [enc x])[j]? = some x → w.cell? ((⟨gu, 0, none⟩ : Addr).add j) = some x := by
      intro j x hx
      have hadd : ((⟨gu, 0, none⟩ : Addr).add j) = ⟨gu, j, none⟩ := by unfold Addr.add; split <;> simp_all
      rw [hadd, row_cell hhu]
      rw [← htu, List.getElem?_take] at hx
      split at hx
      · simpa using hx
      · cases hx
    have hone : ∀ x ∈ (ys.flatMap fun x => [enc x]), x.oneCell' = true := by
      intro x hx
      rw [← map_eq_flat] at hx
      obtain ⟨y, _, rfl⟩ := List.mem_map.1 hx
      exact h1 y
    by_cases hy : ys = []
    · subst hy
      rw [List.append_nil]
      have hf0 := run_firstCells_some (P := P) w i.size 0 ⟨gu, 0, none⟩ 0 cu [] (by simp) (by simp)
      rcases h with ⟨rfl, rfl⟩ | ⟨g, off, cap, cur, rfl, hBg, hh, hnc, r⟩
      · exact ⟨_, w, by simp [Builtin.append_, run_underlying ht, sizeOf, typeInfo, hi, Builtin.lenOf, hf0], .inl ⟨rfl, rfl⟩, Grw.refl _ _⟩
      · exact ⟨_, w, by simp [Builtin.append_, run_underlying ht, sizeOf, typeInfo, hi, Builtin.lenOf, hf0, hnc, storeCells], .inr ⟨g, off, cap, cur, rfl, hBg, hh, hnc, r⟩, Grw.refl _ _⟩
    · have hm0 : 0 < ys.length := List.length_pos_iff.2 hy
      rcases h with ⟨rfl, rfl⟩ | ⟨g, off, cap, cur, rfl, hBg, hh, hnc, hcm, hoc, hc⟩
      · obtain ⟨g, cap, w', hr, hown', hgrow, hg⟩ := run_append1 (P := P) w B t ty e i z 1 bytes ht hi hz0 hz1 hz2 hzs (.slice none 0 0) 0 [] (World.ownsRow_nil w B e 1) ⟨gu, 0, none⟩ ys.length cu hm0 _ hu1 hnews hone (by unfold maxLen; simpa using hn) (by simpa using hby) hB
        refine ⟨_, w', hr, OwnQ.of_own (f := fun x => [enc x]) (fun _ => rfl) (show World.ownsRow _ _ _ _ _ _ _ from by simpa using hown'), ⟨hgrow, fun k hk => ?_⟩⟩
        rcases hg with rfl | hg
        · simp [Value.ownBlock] at hk; exact .inr (by omega)
        · simp [Value.ownBlock] at hg
      · by_cases hroom : l.length + ys.length ≤ cap
        · have hl : (ys.flatMap fun x => [enc x]).length = ys.length := by rw [← map_eq_flat, List.length_map]
          have hr := run_append_room_off (P := P) w t ty e i ht hi g off l.length cap cur hh ⟨gu, 0, none⟩ ys.length cu _ (by rw [hz1]; exact hu1) hnews hone hroom (by rw [hz1, hl]; omega)
          rw [hz1, hl, Nat.mul_one] at hr
          refine ⟨_, _, hr, .inr ⟨g, off, cap, _, by rw [List.length_append], hBg, setRow_heap w g cur _ e _ hh, by rw [List.length_append]; omega, hcm, ?_, fun j x hx => ?_⟩, ⟨⟨rfl, rfl, rfl, by simp [World.setRow], fun k _ hk => setRow_other w g k _ (fun e => hk (by simp [Value.ownBlock, e]))⟩, fun k hk => .inl hk⟩⟩
          · simp only [List.size_toArray, List.length_append, List.length_take, List.length_drop, Array.length_toList, hl]
            omega
          · rw [← map_eq_flat, List.getElem?_toArray, List.append_assoc]
            have hlt : (cur.toList.take (off + l.length)).length = off + l.length := by rw [List.length_take, show cur.toList.length = cur.size from Array.length_toList]; omega
            by_cases hj : j < l.length
            · rw [List.getElem?_append_left hj] at hx
              rw [List.getElem?_append_left (by omega), List.getElem?_take_of_lt (by omega)]
              have := hc j x hx
              simpa using this
            · rw [List.getElem?_append_right (by omega)] at hx
              rw [List.getElem?_append_right (by omega), hlt, show off + j - (off + l.length) = j - l.length from by omega, List.getElem?_append_left (by rw [List.length_map]; exact (List.getElem?_eq_some_iff.1 hx).1), List.getElem?_map, hx]
              rfl
        · have holds : ∀ j x, (l.map enc)[j]? = some x → w.cell? ((⟨g, off, none⟩ : Addr).add j) = some x := by
            intro j x hx
            have hadd : ((⟨g, off, none⟩ : Addr).add j) = ⟨g, off + j, none⟩ := by unfold Addr.add; split <;> simp_all
            rw [hadd, row_cell hh]
            rw [List.getElem?_map] at hx
            cases hl : l[j]? with
            | none => rw [hl] at hx; cases hx
            | some y => rw [hl] at hx; rw [hc j y hl]; exact hx
          obtain ⟨v', w', hr, hown', hgrow⟩ := run_append_arg_grows (P := P) w t ty e i z 1 bytes ht hi hz0 hz1 hz2 hzs (by omega) ⟨g, off, none⟩ l.length cap (l.map enc) (by simp) holds ⟨gu, 0, none⟩ ys.length cu _ hu1 hnews (by omega) (by unfold maxLen; omega) hby
          have hown2 : OwnF (fun x => [enc x]) e 1 w' w.heap.size v' (l ++ ys) := by
            show World.ownsRow _ _ _ _ _ _ _
            rw [List.length_append, List.flatMap_append, ← map_eq_flat enc l]
            exact hown'
          refine ⟨v', w', hr, OwnQ.of_own (f := fun x => [enc x]) (fun _ => rfl) (hown2.base hB), ⟨⟨hgrow.os, hgrow.tape, hgrow.output, hgrow.size, fun k hk _ => hgrow.block k hk (by simp)⟩, fun k hk => .inr (hown2.lt k hk).1⟩⟩

theorem wpList_appQ {P : Program} {ops : Array Oper} {rest : List Oper} {o : Oper} {a : Act} {Q : Exit → Act → World → Prop} (hgd : o.guard = none) (s x : Operand) (t : TypeId)
    (ho : o.op = .call { callee := .builtin .append, args := #[s, x], argTypes := #[t, t] })
    (z : Value) (bytes : Nat) (ht : P.underlying t = some (.slice e)) (hinfo : (P.info? e).map (fun i => (i.zero, i.size, i.bytes)) = some (some z, 1, bytes))
    (hzs : z.cells.size = 1) (h1 : ∀ x, (enc x).oneCell' = true) (h : OwnQ enc e w B v l) (hB : B ≤ w.heap.size) {u : Value} {ys : List Int} {f : Int → List Value} (hf : ∀ x, f x = [enc x]) {N : Nat} (hu : OwnF f e 1 w N u ys) (hs : a.eval s = v) (hx : a.eval x = u)
    (hn : l.length + ys.length ≤ 9223372036854775807) (hby : (l.length + ys.length) * bytes ≤ 140737488355328)
    (hK : ∀ ad cap w', OwnQ enc e w' B (.slice ad (l.length + ys.length) cap) (l ++ ys) → Grw w w' v (.slice ad (l.length + ys.length) cap) → wpList P ops Q rest (a.put o.dst (.slice ad (l.length + ys.length) cap)) w') :
    wpList P ops Q (o :: rest) a w := by
  refine wpList_plain hgd fun _ hK' => ?_
  obtain ⟨v', w', hr, h2, h3⟩ := run_appQ (P := P) t o.type z bytes ht hinfo hzs h1 h hB hf hu hn hby
  unfold Oper.wp execOp
  simp only [ho, resolve, invoke, builtin, Sem.run_bind, Sem.run_pure, Result.andThen_ok, List.map_toArray, List.map_cons, List.map_nil, hs, hx, hr]
  obtain ⟨ad, cap, rfl, -⟩ := h2.ex
  rw [List.length_append] at h2 h3 ⊢
  exact hK' _ _ (hK ad cap w' h2 h3)
end
end Go.Proofs.Ytlmeblhcipkgmaa
