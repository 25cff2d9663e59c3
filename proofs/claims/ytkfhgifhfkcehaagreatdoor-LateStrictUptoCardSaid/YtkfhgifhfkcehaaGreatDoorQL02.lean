/- Parts of the proof, merged by program out of 2 texts (Raw, RawS): the first: Maps in memory keyed by whole numbers, whatever stands at them: what is read, what a store, a deletion makes of it. Conditions: those of each theorem, as typed. -/
import Derived.Test.YtkfhgifhfkcehaaGreatDoorQL01
import Derived.Laws.EntriesVeiled
import Derived.DeepKeys4
set_option linter.unusedVariables false
set_option linter.unusedSimpArgs false
set_option linter.unusedSectionVars false
set_option maxRecDepth 100000
set_option maxHeartbeats 4000000
namespace Go.Proofs.YtkfhgifhfkcehaaGreatDoor
open Go.MapKept Go.Maps Go.RowKit
def Tells (es:Array MapEntry) (M:Int→Option Value):Prop:=∀k v,M k=some v↔∃x ∈ es.toList,x.key=.int .i64 k∧x.val=v
def RawM (w:World) (b:Nat) (M:Int→Option Value):Prop:=
 ∃(es:Array MapEntry) (c:Nat),w.heap[b]?=some (.map es c)∧(∀x ∈ es.toList,∃k:Int,x.key=.int .i64 k)∧Stamped es c∧Tells es M
def RawAt (w:World) (b:Nat) (M:Int→Option Value) (a n:Int):Prop:=
 ∃(es:Array MapEntry) (c:Nat),w.heap[b]?=some (.map es c)∧(∀x ∈ es.toList,∃k:Int,x.key=.int .i64 k)∧Stamped es c∧Tells es M∧∃x ∈ es.toList,x.key=.int .i64 a∧(x.born:Int)=n
def rup (M:Int→Option Value) (a:Int) (v:Option Value):Int→Option Value:=fun k=>if k=a then v else M k
theorem rup_same {M:Int→Option Value} {a:Int} {v:Option Value}:rup M a v a=v:=by simp[rup]
theorem rup_ne {M:Int→Option Value} {a k:Int} {v:Option Value} (h:k≠a):rup M a v k=M k:=by simp[rup,h]
section
variable {P:Program} {K t e:TypeId} {w w':World} {b:Nat} {M:Int→Option Value}
theorem RawM.lt (h:RawM w b M):b < w.heap.size:=by
 obtain⟨es,c,hb,-⟩:=h
 exact(Array.getElem?_eq_some_iff.1 hb).1
theorem RawM.isMap (h:RawM w b M):∃es c,w.heap[b]?=some (.map es c):=let ⟨es,c,hb,_⟩:=h;⟨es,c,hb⟩
theorem RawM.obj (h:RawM w b M) (hw:w'.heap[b]?=w.heap[b]?):RawM w' b M:=by
 obtain⟨es,c,hb,h⟩:=h
 exact⟨es,c,hw.trans hb,h⟩
theorem RawM.below {B:Nat} (h:RawM w b M) (hb:Below B w w') (hlt:b < B):RawM w' b M:=h.obj (hb.block b hlt)
theorem RawM.drew (h:RawM w b M):RawM w.drew b M:=h
theorem RawM.set (h:RawM w b M) {g j:Nat} {v:Value} (hg:b≠g):RawM (w.setCell ⟨g,j,none⟩ v) b M:=h.obj (RowKit.Below.heap_setCell _ _ _ _ hg)
theorem RawM.made (h:w.heap[b]?=some (.map #[] 0)):RawM w b (fun _=>none):=⟨#[],0,h,by simp,stamped_empty 0,by intro k v;simp⟩
theorem RawM.fun {N:Int→Option Value} (h:RawM w b M) (hN:∀k,N k=M k):RawM w b N:=by
 obtain⟨es,c,h1,h2,h3,h4⟩:=h
 exact⟨es,c,h1,h2,h3,fun k v=>by rw[hN];exact h4 k v⟩
theorem RawAt.raw {a n:Int} (h:RawAt w b M a n):RawM w b M:=let ⟨es,c,h1,h2,h3,h4,_⟩:=h;⟨es,c,h1,h2,h3,h4⟩
theorem RawAt.obj {a n:Int} (h:RawAt w b M a n) (hw:w'.heap[b]?=w.heap[b]?):RawAt w' b M a n:=by
 obtain⟨es,c,hb,h⟩:=h
 exact⟨es,c,hw.trans hb,h⟩
theorem RawM.find {es:Array MapEntry} (h2:∀x ∈ es.toList,∃k:Int,x.key=.int .i64 k) (h4:Tells es M) (a:Int):
  (Instr.findNow (.int .i64) (.int .i64 a) es.toList 0=some none∧(∀x ∈ es.toList,x.key≠.int .i64 a)∧M a=none)∨∃j x,Instr.findNow (.int .i64) (.int .i64 a) es.toList 0=some (some (j,x.val))∧es.toList[j]?=some x∧x.key=.int .i64 a∧M a=some x.val:=by
 have hks:∀x ∈ es.toList,IsKey (.int .i64) x.key:=fun x hx=>by
  obtain⟨k,hk⟩:=h2 x hx
  rw[hk]
  exact rfl
 rcases findNow_spec (k:=.int .i64 a) (d:=.int .i64) rfl es.toList 0 hks with⟨h1,hn⟩|⟨j,x,h1,hj,hx⟩
 ·refine .inl ⟨h1,hn,?_⟩
  cases hM:M a with
  |none=>rfl
  |some v=>
   obtain⟨x,hx,hk,-⟩:=(h4 a v).1 hM
   exact absurd hk (hn x hx)
 ·exact .inr ⟨j,x,by simpa using h1,hj,hx,(h4 a x.val).2 ⟨x,List.mem_of_getElem? hj,hx,rfl⟩⟩
theorem RawM.look (h:RawM w b M) (hK:P.underlying K=some (.int .i64)) (ht:P.underlying t=some (.map K e)) {zv:Value} (hz:(zeroValue e).run P w=.ok zv w) (a:Int) {r:Option Value} (hr:M a=r):
  (Instr.lookup t (.map (some b)) (.int .i64 a) false).run P w=.ok (r.getD zv) w∧(Instr.lookup t (.map (some b)) (.int .i64 a) true).run P w=.ok (.tuple #[r.getD zv,.bool r.isSome]) w:=by
 obtain⟨es,c,hb,h2,h3,h4⟩:=h
 rcases RawM.find h2 h4 a with⟨h1,-,hM⟩|⟨j,x,h1,-,-,hM⟩ <;>
 ·rw [hM] at hr
  subst hr
  constructor <;> simp[Instr.lookup,run_underlying ht,MapKept.run_getObj_map hb,MapKept.run_checkKey hK (k:=.int .i64 a) rfl,MapKept.run_findKey hK h1,hz,Result.andThen]
theorem keys_push {es:Array MapEntry} {a:Int} {v:Value} {c:Nat} (h2:∀x ∈ es.toList,∃k:Int,x.key=.int .i64 k):∀x ∈ (es.push ⟨.int .i64 a,v,c⟩).toList,∃k:Int,x.key=.int .i64 k:=by
 intro y hy
 simp only[Array.toList_push,List.mem_append,List.mem_singleton] at hy
 rcases hy with hy|rfl
 ·exact h2 y hy
 ·exact ⟨a,rfl⟩
theorem Tells.push {es:Array MapEntry} (h4:Tells es M) {a:Int} {v:Value} {c:Nat} (hn:∀x ∈ es.toList,x.key≠.int .i64 a):Tells (es.push ⟨.int .i64 a,v,c⟩) (rup M a (some v)):=by
 intro k u
 simp only[Array.toList_push,List.mem_append,List.mem_singleton]
 by_cases hk:k=a
 ·subst hk
  rw[rup_same]
  constructor
  ·intro hu
   cases hu
   exact⟨_,.inr rfl,rfl,rfl⟩
  ·rintro ⟨y,hy|rfl,h5,h6⟩
   ·exact absurd h5 (hn y hy)
   ·simpa using h6
 ·rw [rup_ne hk,h4]
  constructor
  ·rintro ⟨y,hy,h5⟩
   exact⟨y,.inl hy,h5⟩
  ·rintro ⟨y,hy|rfl,h5,h6⟩
   ·exact ⟨y,hy,h5,h6⟩
   ·simp only[Value.int.injEq,true_and] at h5
    exact absurd h5.symm hk
theorem mem_modify {es:Array MapEntry} {c:Nat} (hs:Stamped es c) {j:Nat} {x:MapEntry} (hj:es[j]?=some x) (f:MapEntry→MapEntry) (y:MapEntry):
  y ∈ (es.modify j f).toList↔y=f x∨(y ∈ es.toList∧y.key≠x.key):=by
 have h3:=hs.2.2
 rw[List.mem_iff_getElem?]
 constructor
 ·rintro ⟨i,hi⟩
  simp only[Array.getElem?_toList,Array.getElem?_modify] at hi
  split at hi
  ·rename_i he
   subst he
   rw[hj] at hi
   simp only[Option.map_some,Option.some.injEq] at hi
   exact .inl hi.symm
  ·rename_i he
   refine .inr ⟨List.mem_iff_getElem?.2 ⟨i,by simpa using hi⟩,fun hk=>he ?_⟩
   have hil:j < (es.toList.map (·.key)).length:=by
    have:=(Array.getElem?_eq_some_iff.1 hj).1
    simpa using this
   refine(List.getElem?_inj hil h3).1 ?_
   simp[hi,hj,hk]
 ·rintro (rfl|⟨hy,hne⟩)
  ·exact ⟨j,by simp[Array.getElem?_modify,hj]⟩
  ·obtain ⟨i,hi⟩:=List.mem_iff_getElem?.1 hy
   refine⟨i,?_⟩
   simp only[Array.getElem?_toList,Array.getElem?_modify]
   rw[if_neg (by
    rintro rfl
    rw[Array.getElem?_toList,hj] at hi
    cases hi
    exact hne rfl)]
   simpa using hi
theorem keys_modify {es:Array MapEntry} {c:Nat} (hs:Stamped es c) (h2:∀x ∈ es.toList,∃k:Int,x.key=.int .i64 k) {j:Nat} {x:MapEntry} (hj:es[j]?=some x) {f:MapEntry→MapEntry} {a:Int} (hf:(f x).key=.int .i64 a):∀y ∈ (es.modify j f).toList,∃k:Int,y.key=.int .i64 k:=by
 intro y hy
 rcases(mem_modify hs hj f y).1 hy with rfl|⟨hy,-⟩
 ·exact ⟨a,hf⟩
 ·exact h2 y hy
theorem Tells.modify {es:Array MapEntry} {c:Nat} (hs:Stamped es c) (h4:Tells es M) {j:Nat} {x:MapEntry} (hj:es[j]?=some x) {f:MapEntry→MapEntry} {a:Int} (hx:x.key=.int .i64 a) (hf:(f x).key=.int .i64 a):Tells (es.modify j f) (rup M a (some (f x).val)):=by
 intro k u
 by_cases hk:k=a
 ·subst hk
  rw[rup_same]
  constructor
  ·intro hu
   cases hu
   exact⟨_,(mem_modify hs hj f _).2 (.inl rfl),hf,rfl⟩
  ·rintro ⟨y,hy,h5,h6⟩
   rcases(mem_modify hs hj f y).1 hy with rfl|⟨-,hne⟩
   ·rw [h6]
   ·exact absurd (h5.trans hx.symm) hne
 ·rw [rup_ne hk,h4]
  constructor
  ·rintro ⟨y,hy,h5,h6⟩
   exact⟨y,(mem_modify hs hj f y).2 (.inr ⟨hy,by rw[h5,hx];simpa using hk⟩),h5,h6⟩
  ·rintro ⟨y,hy,h5,h6⟩
   rcases(mem_modify hs hj f y).1 hy with rfl|⟨hy,-⟩
   ·rw [hf] at h5
    simp only[Value.int.injEq,true_and] at h5
    exact absurd h5.symm hk
   ·exact ⟨y,hy,h5,h6⟩
theorem stamped_mod {es:Array MapEntry} {c:Nat} (hs:Stamped es c) {j:Nat} {x:MapEntry} (hj:es[j]?=some x) {f:MapEntry→MapEntry} (hb:∀y,(f y).born=y.born) (hk:(f x).key=x.key):Stamped (es.modify j f) c:=
 stamped_modify hs j f (fun y _=>hb y) fun y _ hy=>by rw[hj] at hy;cases hy;exact hk
theorem RawM.store (h:RawM w b M) (hK:P.underlying K=some (.int .i64)) (ht:P.underlying t=some (.map K e)) (a:Int) (v:Value):
  ∃w',(Instr.mapUpdate t (.map (some b)) (.int .i64 a) v).run P w=.ok () w'∧RawM w' b (rup M a (some v))∧w.mapTurned w' b:=by
 obtain⟨es,c,hb,h2,h3,h4⟩:=h
 rcases RawM.find h2 h4 a with⟨h1,hn,hM⟩|⟨j,x,h1,hj,hx,hM⟩
 ·refine ⟨ChangeMaps.setBlock w b (.map (es.push ⟨.int .i64 a,v,c⟩) (c+1)),?_,⟨_,_,ChangeMaps.heap_setBlock_same hb _,keys_push h2,stamped_push h3 hn,h4.push hn⟩,⟨_,_,_,_,hb,rfl⟩⟩
  simp[Instr.mapUpdate,run_underlying ht,MapKept.run_getObj_map hb,MapKept.run_checkKey hK (k:=.int .i64 a) rfl,MapKept.run_findKey hK h1,MapKept.run_setObj_map _ hb,Result.andThen,ChangeMaps.setBlock]
 ·have hj':es[j]?=some x:=by simpa using hj
  refine⟨ChangeMaps.setBlock w b (.map (es.modify j fun y=>{y with key:=.int .i64 a,val:=v}) c),?_,⟨_,_,ChangeMaps.heap_setBlock_same hb _,keys_modify h3 h2 hj' (a:=a) rfl,stamped_mod h3 hj' (fun _=>rfl) hx.symm,Tells.modify (f:=fun y=>{y with key:=.int .i64 a,val:=v}) h3 h4 hj' hx rfl⟩,⟨_,_,_,_,hb,rfl⟩⟩
  simp[Instr.mapUpdate,run_underlying ht,MapKept.run_getObj_map hb,MapKept.run_checkKey hK (k:=.int .i64 a) rfl,MapKept.run_findKey hK h1,hj',hx,MapKept.run_keyThatStays (d:=.int .i64) (k:=.int .i64 a) rfl,MapKept.run_setObj_map _ hb,Result.andThen,ChangeMaps.setBlock]
theorem RawM.drop (h:RawM w b M) (hK:P.underlying K=some (.int .i64)) (ht:P.underlying t=some (.map K e)) (a:Int) (ty:TypeId):
  ∃w',(Builtin.delete_ #[t,K] ty #[.map (some b),.int .i64 a]).run P w=.ok (.tuple #[]) w'∧RawM w' b (rup M a none)∧w.mapTurned w' b:=by
 obtain⟨es,c,hb,h2,h3,h4⟩:=h
 rcases RawM.find h2 h4 a with⟨h1,hn,hM⟩|⟨j,x,h1,hj,hx,hM⟩
 ·refine ⟨ChangeMaps.setBlock w b (.map es c),?_,⟨_,_,ChangeMaps.heap_setBlock_same hb _,h2,h3,?_⟩,⟨_,_,_,_,hb,rfl⟩⟩
  ·simp [Builtin.delete_,run_underlying ht,MapKept.run_getObj_map hb,MapKept.run_checkKey hK (k:=.int .i64 a) rfl,MapKept.run_findKey hK h1,MapKept.run_setObj_map _ hb,Result.andThen,ChangeMaps.setBlock]
  ·intro k u
   by_cases hk:k=a
   ·subst hk
    rw[rup_same]
    constructor
    ·intro hu;cases hu
    ·rintro ⟨y,hy,h5,-⟩
     exact absurd h5 (hn y hy)
   ·rw [rup_ne hk];exact h4 k u
 ·have hjl:j < es.size:=by
   have:=(List.getElem?_eq_some_iff.1 hj).1
   simpa using this
  have he:(es.eraseIdxIfInBounds j).toList=es.toList.eraseIdx j:=by
   unfold Array.eraseIdxIfInBounds
   rw[dif_pos hjl]
   simp
  have hsub:List.Sublist (es.toList.eraseIdx j) es.toList:=List.eraseIdx_sublist _ _
  refine⟨ChangeMaps.setBlock w b (.map (es.eraseIdxIfInBounds j) c),?_,⟨_,_,ChangeMaps.heap_setBlock_same hb _,?_,stamped_erase h3 j,?_⟩,⟨_,_,_,_,hb,rfl⟩⟩
  ·simp [Builtin.delete_,run_underlying ht,MapKept.run_getObj_map hb,MapKept.run_checkKey hK (k:=.int .i64 a) rfl,MapKept.run_findKey hK h1,MapKept.run_setObj_map _ hb,Result.andThen,ChangeMaps.setBlock]
  ·intro y hy
   rw[he] at hy
   exact h2 y (hsub.subset hy)
  ·have hmem:∀y,y ∈ es.toList.eraseIdx j↔y ∈ es.toList∧y.key≠.int .i64 a:=by
    intro y
    have hn:=h3.2.2
    rw[List.mem_eraseIdx_iff_getElem?]
    constructor
    ·rintro ⟨i,hi,hy⟩
     refine⟨List.mem_of_getElem? hy,fun hk=>hi ?_⟩
     have hil:j < (es.toList.map (·.key)).length:=by simpa using hjl
     refine((List.getElem?_inj hil hn).1 ?_).symm
     rw[List.getElem?_map,List.getElem?_map,hy,hj]
     simp[hk,hx]
    ·rintro ⟨hy,hne⟩
     obtain⟨i,hi⟩:=List.mem_iff_getElem?.1 hy
     refine⟨i,?_,hi⟩
     rintro rfl
     rw[hj] at hi
     cases hi
     exact hne hx
   intro k u
   rw[he]
   by_cases hk:k=a
   ·subst hk
    rw[rup_same]
    constructor
    ·intro hu;cases hu
    ·rintro ⟨y,hy,h5,-⟩
     exact absurd h5 ((hmem y).1 hy).2
   ·rw [rup_ne hk,h4]
    constructor
    ·rintro ⟨y,hy,h5,h6⟩
     exact⟨y,(hmem y).2 ⟨hy,by rw[h5];simpa using hk⟩,h5,h6⟩
    ·rintro ⟨y,hy,h5,h6⟩
     exact⟨y,((hmem y).1 hy).1,h5,h6⟩
theorem RawM.entry (h:RawM w b M) (hK:P.underlying K=some (.int .i64)) (ht:P.underlying t=some (.map K e)) {zv:Value} (hz:(zeroValue e).run P w=.ok zv w) (a:Int):
  ∃(w':World) (v:Value) (n:Int) (M':Int→Option Value),(Instr.mapEntry t (.map (some b)) (.int .i64 a)).run P w=.ok (.tuple #[v,.int .i64 n]) w'∧RawAt w' b M' a n∧(∀k,k≠a→M' k=M k)∧w.mapTurned w' b:=by
 obtain⟨es,c,hb,h2,h3,h4⟩:=h
 rcases RawM.find h2 h4 a with⟨h1,hn,hM⟩|⟨j,x,h1,hj,hx,hM⟩
 ·refine ⟨ChangeMaps.setBlock w b (.map (es.push ⟨.int .i64 a,zv,c⟩) (c+1)),zv,c,_,?_,⟨_,_,ChangeMaps.heap_setBlock_same hb _,keys_push h2,stamped_push h3 hn,h4.push hn,⟨.int .i64 a,zv,c⟩,by simp,rfl,rfl⟩,fun k hk=>rup_ne hk,⟨_,_,_,_,hb,rfl⟩⟩
  simp[Instr.mapEntry,run_underlying ht,MapKept.run_getObj_map hb,MapKept.run_checkKey hK (k:=.int .i64 a) rfl,MapKept.run_findKey hK h1,hz,MapKept.run_setObj_map _ hb,Result.andThen,ChangeMaps.setBlock,goInt]
 ·have hj':es[j]?=some x:=by simpa using hj
  refine⟨ChangeMaps.setBlock w b (.map (es.modify j fun y=>{y with key:=.int .i64 a}) c),x.val,x.born,_,?_,⟨_,_,ChangeMaps.heap_setBlock_same hb _,keys_modify h3 h2 hj' (a:=a) rfl,stamped_mod h3 hj' (fun _=>rfl) hx.symm,Tells.modify (f:=fun y=>{y with key:=.int .i64 a}) h3 h4 hj' hx rfl,_,(mem_modify h3 hj' _ _).2 (.inl rfl),rfl,rfl⟩,fun k hk=>rup_ne hk,⟨_,_,_,_,hb,rfl⟩⟩
  simp[Instr.mapEntry,run_underlying ht,MapKept.run_getObj_map hb,MapKept.run_checkKey hK (k:=.int .i64 a) rfl,MapKept.run_findKey hK h1,hj',hx,MapKept.run_keyThatStays (d:=.int .i64) (k:=.int .i64 a) rfl,MapKept.run_setObj_map _ hb,Result.andThen,ChangeMaps.setBlock,goInt]
theorem RawAt.stored {a n:Int} (h:RawAt w b M a n) (v:Value):
  ∃w',(Instr.entryStore t (.map (some b)) (.int .i64 n) v).run P w=.ok () w'∧RawM w' b (rup M a (some v))∧w.mapTurned w' b:=by
 obtain⟨es,c,hb,h2,h3,h4,x,hx,hk,hn⟩:=h
 subst hn
 obtain⟨j,hj⟩:=List.mem_iff_getElem?.1 hx
 have hj':es[j]?=some x:=by simpa using hj
 have hjl:=(Array.getElem?_eq_some_iff.1 hj').1
 have hf:es.findIdx? (fun y=>(y.born:Int)==x.born)=some j:=by
  rw[Array.findIdx?_eq_some_iff_getElem]
  obtain⟨hl,hv⟩:=Array.getElem?_eq_some_iff.1 hj'
  refine⟨hl,by simp[hv],fun i hi=>?_⟩
  simp only[Bool.not_eq_true,beq_eq_false_iff_ne,ne_eq]
  intro he
  have hil:i < (es.toList.map (·.born)).length:=by simp;omega
  have hii:es[i]?=some es[i]:=Array.getElem?_eq_getElem (by omega)
  have:=(List.getElem?_inj hil h3.2.1 (j:=j)).1 (by simp[hii,hj'];omega)
  omega
 refine⟨ChangeMaps.setBlock w b (.map (es.modify j fun y=>{y with val:=v}) c),?_,⟨_,_,ChangeMaps.heap_setBlock_same hb _,keys_modify h3 h2 hj' (a:=a) hk,stamped_mod h3 hj' (fun _=>rfl) rfl,Tells.modify (f:=fun y=>{y with val:=v}) h3 h4 hj' hk hk⟩,⟨_,_,_,_,hb,rfl⟩⟩
 simp[Instr.entryStore,MapKept.run_getObj_map hb,asInt,asIntOf,hf,MapKept.run_setObj_map _ hb,Result.andThen,ChangeMaps.setBlock]
theorem RawM.wp_store (h:RawM w b M) (hK:P.underlying K=some (.int .i64)) (ht:P.underlying t=some (.map K e)) {a:Int} {v:Value}
  {o:Oper} {act:Act} {Q:Exit→Act→World→Prop} {K':Act→World→Prop} {m x y:Operand} (hop:o.op=Op.mapUpdate t m x y∨o.op=Op.insert t m x y) (hm:act.eval m=.map (some b)) (hx:act.eval x=.int .i64 a) (hy:act.eval y=v)
  (hQ:∀w',RawM w' b (rup M a (some v))→w.mapTurned w' b→K' (act.put o.dst undef) w'):o.wp P act w K' Q:=by
 obtain⟨w',hrun,h1,h2⟩:=h.store hK ht a v
 rcases hop with hop|hop <;>
 ·unfold Oper.wp
  simp only[execOp,hop,hm,hx,hy,Sem.run_bind,hrun,Result.andThen_ok,Sem.run_pure]
  exact hQ w' h1 h2
theorem RawM.wpList_store (h:RawM w b M) (hK:P.underlying K=some (.int .i64)) (ht:P.underlying t=some (.map K e)) {a:Int} {v:Value}
  {ops:Array Oper} {rest:List Oper} {o:Oper} {act:Act} {Q:Exit→Act→World→Prop} {m x y:Operand} (hg:o.guard=none) (hop:o.op=Op.mapUpdate t m x y∨o.op=Op.insert t m x y) (hm:act.eval m=.map (some b)) (hx:act.eval x=.int .i64 a) (hy:act.eval y=v)
  (hQ:∀w',RawM w' b (rup M a (some v))→w.mapTurned w' b→wpList P ops Q rest (act.put o.dst undef) w'):wpList P ops Q (o::rest) act w:=
 wpList_plain hg fun _ hK'=>h.wp_store hK ht hop hm hx hy fun w' h1 h2=>hK' _ _ (hQ w' h1 h2)
theorem RawM.wp_drop (h:RawM w b M) (hK:P.underlying K=some (.int .i64)) (ht:P.underlying t=some (.map K e)) {a:Int}
  {o:Oper} {act:Act} {Q:Exit→Act→World→Prop} {K':Act→World→Prop} {m x:Operand} (hop:o.op=Op.call {callee:=Callee.builtin Builtin.delete,args:=#[m,x],argTypes:=#[t,K]}) (hm:act.eval m=.map (some b)) (hx:act.eval x=.int .i64 a)
  (hQ:∀w',RawM w' b (rup M a none)→w.mapTurned w' b→K' (act.put o.dst (.tuple #[])) w'):o.wp P act w K' Q:=by
 obtain⟨w',hrun,r1,r2⟩:=h.drop hK ht a o.type
 unfold Oper.wp
 simp[execOp,hop,resolve,invoke,builtin,hm,hx,hrun,Result.andThen]
 exact hQ w' r1 r2
theorem RawM.wpList_drop (h:RawM w b M) (hK:P.underlying K=some (.int .i64)) (ht:P.underlying t=some (.map K e)) {a:Int}
  {ops:Array Oper} {rest:List Oper} {o:Oper} {act:Act} {Q:Exit→Act→World→Prop} {m x:Operand} (hg:o.guard=none) (hop:o.op=Op.call {callee:=Callee.builtin Builtin.delete,args:=#[m,x],argTypes:=#[t,K]}) (hm:act.eval m=.map (some b)) (hx:act.eval x=.int .i64 a)
  (hQ:∀w',RawM w' b (rup M a none)→w.mapTurned w' b→wpList P ops Q rest (act.put o.dst (.tuple #[])) w'):wpList P ops Q (o::rest) act w:=
 wpList_plain hg fun K' hK'=>h.wp_drop hK ht hop hm hx fun w' r1 r2=>hK' _ _ (hQ w' r1 r2)
theorem RawM.wp_entry (h:RawM w b M) (hK:P.underlying K=some (.int .i64)) (ht:P.underlying t=some (.map K e)) {zv:Value} (hz:(zeroValue e).run P w=.ok zv w) {a:Int}
  {o:Oper} {act:Act} {Q:Exit→Act→World→Prop} {K':Act→World→Prop} {m x:Operand} (hop:o.op=Op.mapEntry t m x) (hm:act.eval m=.map (some b)) (hx:act.eval x=.int .i64 a)
  (hQ:∀(w':World) (v:Value) (n:Int) (M':Int→Option Value),RawAt w' b M' a n→(∀k,k≠a→M' k=M k)→w.mapTurned w' b→K' (act.put o.dst (.tuple #[v,.int .i64 n])) w'):o.wp P act w K' Q:=by
 obtain⟨w',v,n,M',hrun,h1,h2,h3⟩:=h.entry hK ht hz a
 unfold Oper.wp
 simp only[execOp,hop,hm,hx,Sem.run_bind,hrun,Result.andThen_ok,Sem.run_pure]
 exact hQ w' v n M' h1 h2 h3
theorem RawAt.wp_stored {a n:Int} (h:RawAt w b M a n) {v:Value}
  {o:Oper} {act:Act} {Q:Exit→Act→World→Prop} {K':Act→World→Prop} {m s y:Operand} (hop:o.op=Op.entryStore t m s y) (hm:act.eval m=.map (some b)) (hx:act.eval s=.int .i64 n) (hy:act.eval y=v)
  (hQ:∀w',RawM w' b (rup M a (some v))→w.mapTurned w' b→K' (act.put o.dst undef) w'):o.wp P act w K' Q:=by
 obtain⟨w',hrun,h1,h2⟩:=h.stored (P:=P) (t:=t) v
 unfold Oper.wp
 simp only[execOp,hop,hm,hx,hy,Sem.run_bind,hrun,Result.andThen_ok,Sem.run_pure]
 exact hQ w' h1 h2
end
structure KeyV {β:Type} (P:Program) (K:TypeId) (κ:β→Value):Prop where
 inj:∀{x y:β},κ x=κ y→x=y
 keyed:Keyed P K
 ok:∀x,∃l,keyOf P K (κ x)=some l
section
variable {β:Type} {κ:β→Value} {P:Program} {K t e:TypeId} {w w':World} {b:Nat} {M:β→Option Value}
def TellsV (κ:β→Value) (es:Array MapEntry) (M:β→Option Value):Prop:=∀k v,M k=some v↔∃x ∈ es.toList,x.key=κ k∧x.val=v
def RawV (κ:β→Value) (w:World) (b:Nat) (M:β→Option Value):Prop:=
 ∃(es:Array MapEntry) (c:Nat),w.heap[b]?=some (.map es c)∧(∀x ∈ es.toList,∃k:β,x.key=κ k)∧Stamped es c∧TellsV κ es M
open Classical in
noncomputable def rupV (M:β→Option Value) (a:β) (v:Option Value):β→Option Value:=fun k=>if k=a then v else M k
theorem rupV_same {a:β} {v:Option Value}:rupV M a v a=v:=by simp[rupV]
theorem rupV_ne {a k:β} {v:Option Value} (h:k≠a):rupV M a v k=M k:=by simp[rupV,h]
theorem RawV.lt (h:RawV κ w b M):b < w.heap.size:=by
 obtain⟨es,c,hb,-⟩:=h
 exact(Array.getElem?_eq_some_iff.1 hb).1
theorem RawV.isMap (h:RawV κ w b M):∃es c,w.heap[b]?=some (.map es c):=let ⟨es,c,hb,_⟩:=h;⟨es,c,hb⟩
theorem RawV.obj (h:RawV κ w b M) (hw:w'.heap[b]?=w.heap[b]?):RawV κ w' b M:=by
 obtain⟨es,c,hb,h⟩:=h
 exact⟨es,c,hw.trans hb,h⟩
theorem RawV.below {B:Nat} (h:RawV κ w b M) (hb:Below B w w') (hlt:b < B):RawV κ w' b M:=h.obj (hb.block b hlt)
theorem RawV.drew (h:RawV κ w b M):RawV κ w.drew b M:=h
theorem RawV.set (h:RawV κ w b M) {g j:Nat} {v:Value} (hg:b≠g):RawV κ (w.setCell ⟨g,j,none⟩ v) b M:=h.obj (RowKit.Below.heap_setCell _ _ _ _ hg)
theorem RawV.made (h:w.heap[b]?=some (.map #[] 0)):RawV κ w b (fun _=>none):=⟨#[],0,h,by simp,stamped_empty 0,by intro k v;simp⟩
theorem RawV.fun {N:β→Option Value} (h:RawV κ w b M) (hN:∀k,N k=M k):RawV κ w b N:=by
 obtain⟨es,c,h1,h2,h3,h4⟩:=h
 exact⟨es,c,h1,h2,h3,fun k v=>by rw[hN];exact h4 k v⟩
theorem RawV.find (T:KeyV P K κ) {es:Array MapEntry} (h2:∀x ∈ es.toList,∃k:β,x.key=κ k) (h4:TellsV κ es M) (w:World) (a:β):
  ((Instr.findKey K (κ a) es.toList).run P w=.ok none w∧(∀x ∈ es.toList,x.key≠κ a)∧M a=none)∨∃j x,(Instr.findKey K (κ a) es.toList).run P w=.ok (some (j,x.val)) w∧es.toList[j]?=some x∧x.key=κ a∧M a=some x.val:=by
 obtain⟨la,ha⟩:=T.ok a
 rcases T.keyed.find w ha es.toList (fun x hx=>by
  obtain⟨k,hk⟩:=h2 x hx
  rw[hk]
  exact T.ok k) with⟨h1,hn⟩|⟨j,x,h1,hj,hx⟩
 ·refine .inl ⟨h1,hn,?_⟩
  cases hM:M a with
  |none=>rfl
  |some v=>
   obtain⟨x,hx,hk,-⟩:=(h4 a v).1 hM
   exact absurd hk (hn x hx)
 ·exact .inr ⟨j,x,h1,hj,hx,(h4 a x.val).2 ⟨x,List.mem_of_getElem? hj,hx,rfl⟩⟩
theorem RawV.look (T:KeyV P K κ) (h:RawV κ w b M) (ht:P.underlying t=some (.map K e)) {zv:Value} (hz:(zeroValue e).run P w=.ok zv w) (a:β) {r:Option Value} (hr:M a=r):
  (Instr.lookup t (.map (some b)) (κ a) false).run P w=.ok (r.getD zv) w∧(Instr.lookup t (.map (some b)) (κ a) true).run P w=.ok (.tuple #[r.getD zv,.bool r.isSome]) w:=by
 obtain⟨es,c,hb,h2,h3,h4⟩:=h
 obtain⟨la,ha⟩:=T.ok a
 rcases RawV.find T h2 h4 w a with⟨h1,-,hM⟩|⟨j,x,h1,-,-,hM⟩ <;>
 ·rw [hM] at hr
  subst hr
  constructor <;> simp[Instr.lookup,run_underlying ht,MapKept.run_getObj_map hb,T.keyed.check w _ ha,h1,hz,Result.andThen]
theorem keysV_push {es:Array MapEntry} {a:β} {v:Value} {c:Nat} (h2:∀x ∈ es.toList,∃k:β,x.key=κ k):∀x ∈ (es.push ⟨κ a,v,c⟩).toList,∃k:β,x.key=κ k:=by
 intro y hy
 simp only[Array.toList_push,List.mem_append,List.mem_singleton] at hy
 rcases hy with hy|rfl
 ·exact h2 y hy
 ·exact ⟨a,rfl⟩
theorem TellsV.push (T:KeyV P K κ) {es:Array MapEntry} (h4:TellsV κ es M) {a:β} {v:Value} {c:Nat} (hn:∀x ∈ es.toList,x.key≠κ a):TellsV κ (es.push ⟨κ a,v,c⟩) (rupV M a (some v)):=by
 intro k u
 simp only[Array.toList_push,List.mem_append,List.mem_singleton]
 by_cases hk:k=a
 ·subst hk
  rw[rupV_same]
  constructor
  ·intro hu
   cases hu
   exact⟨_,.inr rfl,rfl,rfl⟩
  ·rintro ⟨y,hy|rfl,h5,h6⟩
   ·exact absurd h5 (hn y hy)
   ·simpa using h6
 ·rw [rupV_ne hk,h4]
  constructor
  ·rintro ⟨y,hy,h5⟩
   exact⟨y,.inl hy,h5⟩
  ·rintro ⟨y,hy|rfl,h5,h6⟩
   ·exact ⟨y,hy,h5,h6⟩
   ·exact absurd (T.inj h5).symm hk
theorem keysV_modify {es:Array MapEntry} {c:Nat} (hs:Stamped es c) (h2:∀x ∈ es.toList,∃k:β,x.key=κ k) {j:Nat} {x:MapEntry} (hj:es[j]?=some x) {f:MapEntry→MapEntry} {a:β} (hf:(f x).key=κ a):∀y ∈ (es.modify j f).toList,∃k:β,y.key=κ k:=by
 intro y hy
 rcases(mem_modify hs hj f y).1 hy with rfl|⟨hy,-⟩
 ·exact ⟨a,hf⟩
 ·exact h2 y hy
theorem TellsV.modify (T:KeyV P K κ) {es:Array MapEntry} {c:Nat} (hs:Stamped es c) (h4:TellsV κ es M) {j:Nat} {x:MapEntry} (hj:es[j]?=some x) {f:MapEntry→MapEntry} {a:β} (hx:x.key=κ a) (hf:(f x).key=κ a):TellsV κ (es.modify j f) (rupV M a (some (f x).val)):=by
 intro k u
 by_cases hk:k=a
 ·subst hk
  rw[rupV_same]
  constructor
  ·intro hu
   cases hu
   exact⟨_,(mem_modify hs hj f _).2 (.inl rfl),hf,rfl⟩
  ·rintro ⟨y,hy,h5,h6⟩
   rcases(mem_modify hs hj f y).1 hy with rfl|⟨-,hne⟩
   ·rw [h6]
   ·exact absurd (h5.trans hx.symm) hne
 ·rw [rupV_ne hk,h4]
  constructor
  ·rintro ⟨y,hy,h5,h6⟩
   exact⟨y,(mem_modify hs hj f y).2 (.inr ⟨hy,by rw[h5,hx];exact fun e=>hk (T.inj e)⟩),h5,h6⟩
  ·rintro ⟨y,hy,h5,h6⟩
   rcases(mem_modify hs hj f y).1 hy with rfl|⟨hy,-⟩
   ·rw [hf] at h5
    exact absurd (T.inj h5).symm hk
   ·exact ⟨y,hy,h5,h6⟩
theorem RawV.store (T:KeyV P K κ) (h:RawV κ w b M) (ht:P.underlying t=some (.map K e)) (a:β) (v:Value):
  ∃w',(Instr.mapUpdate t (.map (some b)) (κ a) v).run P w=.ok () w'∧RawV κ w' b (rupV M a (some v))∧w.mapTurned w' b:=by
 obtain⟨es,c,hb,h2,h3,h4⟩:=h
 obtain⟨la,ha⟩:=T.ok a
 rcases RawV.find T h2 h4 w a with⟨h1,hn,hM⟩|⟨j,x,h1,hj,hx,hM⟩
 ·refine ⟨ChangeMaps.setBlock w b (.map (es.push ⟨κ a,v,c⟩) (c+1)),?_,⟨_,_,ChangeMaps.heap_setBlock_same hb _,keysV_push h2,stamped_push h3 hn,h4.push T hn⟩,⟨_,_,_,_,hb,rfl⟩⟩
  simp[Instr.mapUpdate,run_underlying ht,MapKept.run_getObj_map hb,T.keyed.check w _ ha,h1,MapKept.run_setObj_map _ hb,Result.andThen,ChangeMaps.setBlock]
 ·have hj':es[j]?=some x:=by simpa using hj
  refine⟨ChangeMaps.setBlock w b (.map (es.modify j fun y=>{y with key:=κ a,val:=v}) c),?_,⟨_,_,ChangeMaps.heap_setBlock_same hb _,keysV_modify h3 h2 hj' (a:=a) rfl,stamped_mod h3 hj' (fun _=>rfl) hx.symm,TellsV.modify (f:=fun y=>{y with key:=κ a,val:=v}) T h3 h4 hj' hx rfl⟩,⟨_,_,_,_,hb,rfl⟩⟩
  simp[Instr.mapUpdate,run_underlying ht,MapKept.run_getObj_map hb,T.keyed.check w _ ha,h1,hj',hx,T.keyed.stays w ha,MapKept.run_setObj_map _ hb,Result.andThen,ChangeMaps.setBlock]
theorem RawV.wp_store (T:KeyV P K κ) (h:RawV κ w b M) (ht:P.underlying t=some (.map K e)) {a:β} {v:Value}
  {o:Oper} {act:Act} {Q:Exit→Act→World→Prop} {K':Act→World→Prop} {m x y:Operand} (hop:o.op=Op.mapUpdate t m x y) (hm:act.eval m=.map (some b)) (hx:act.eval x=κ a) (hy:act.eval y=v)
  (hQ:∀w',RawV κ w' b (rupV M a (some v))→w.mapTurned w' b→K' (act.put o.dst undef) w'):o.wp P act w K' Q:=by
 obtain⟨w',hrun,h1,h2⟩:=h.store T ht a v
 unfold Oper.wp
 simp only[execOp,hop,hm,hx,hy,Sem.run_bind,hrun,Result.andThen_ok,Sem.run_pure]
 exact hQ w' h1 h2
theorem RawV.wpList_store (T:KeyV P K κ) (h:RawV κ w b M) (ht:P.underlying t=some (.map K e)) {a:β} {v:Value}
  {ops:Array Oper} {rest:List Oper} {o:Oper} {act:Act} {Q:Exit→Act→World→Prop} {m x y:Operand} (hg:o.guard=none) (hop:o.op=Op.mapUpdate t m x y) (hm:act.eval m=.map (some b)) (hx:act.eval x=κ a) (hy:act.eval y=v)
  (hQ:∀w',RawV κ w' b (rupV M a (some v))→w.mapTurned w' b→wpList P ops Q rest (act.put o.dst undef) w'):wpList P ops Q (o::rest) act w:=
 wpList_plain hg fun _ hK'=>h.wp_store T ht hop hm hx hy fun w' h1 h2=>hK' _ _ (hQ w' h1 h2)
end
