/- Parts of the proof, merged by program out of 8 texts (Raw, EvE, EvF, EvG, EvH, ShM, ShN, ShL): the first: Maps in memory keyed by whole numbers, whatever stands at them: what is read, what a store, a deletion makes of it. Conditions: those of each theorem, as typed. -/
import Derived.Test.YtcpfbphcldocpaaGreatDoorQF05
import Derived.Laws.EntriesVeiled
import Derived.Test.YtcpfbphcldocpaaGreatDoorQF08
import Derived.Test.YtcpfbphcldocpaaGreatDoorQF01
import Derived.Test.YtcpfbphcldocpaaGreatDoorQF06
set_option linter.unusedVariables false
set_option linter.unusedSimpArgs false
set_option linter.unusedSectionVars false
set_option maxRecDepth 100000
set_option maxHeartbeats 4000000
namespace Go.Proofs.YtcpfbphcldocpaaGreatDoor
open Go.MapKept Go.Maps Go.RowKit
def Tells (es:Array MapEntry) (M:Int→Option Value):Prop:=∀k v,M k=some v↔∃x ∈ es.toList,x.key=.int .i64 k∧x.val=v
def RawM (w:World) (b:Nat) (M:Int→Option Value):Prop:=
 ∃(es:Array MapEntry) (c:Nat),w.heap[b]?=some (.map es c)∧(∀x ∈ es.toList,∃k:Int,x.key=.int .i64 k)∧Stamped es c∧Tells es M
def RawAt (w:World) (b:Nat) (M:Int→Option Value) (a n:Int):Prop:=
 ∃(es:Array MapEntry) (c:Nat),w.heap[b]?=some (.map es c)∧(∀x ∈ es.toList,∃k:Int,x.key=.int .i64 k)∧Stamped es c∧Tells es M∧∃x ∈ es.toList,x.key=.int .i64 a∧(x.born:Int)=n
def rup (M:Int→Option Value) (a:Int) (v:Option Value):Int→Option Value:=fun k=>if k=a then v else M k
theorem rup_same {M:Int→Option Value} {a:Int} {v:Option Value}:rup M a v a=v:=by simp[rup]
theorem rup_ne {M:Int→Option Value} {a k:Int} {v:Option Value} (h:k≠a):rup M a v k=M k:=by simp[rup,h]
section
variable {P:Program} {K t e:TypeId} {w w':World} {b:Nat} {M:Int→Option Value}
theorem RawM.lt (h:RawM w b M):b < w.heap.size:=by
 obtain⟨es,c,hb,-⟩:=h
 exact(Array.getElem?_eq_some_iff.1 hb).1
theorem RawM.isMap (h:RawM w b M):∃es c,w.heap[b]?=some (.map es c):=let ⟨es,c,hb,_⟩:=h;⟨es,c,hb⟩
theorem RawM.obj (h:RawM w b M) (hw:w'.heap[b]?=w.heap[b]?):RawM w' b M:=by
 obtain⟨es,c,hb,h⟩:=h
 exact⟨es,c,hw.trans hb,h⟩
theorem RawM.below {B:Nat} (h:RawM w b M) (hb:Below B w w') (hlt:b < B):RawM w' b M:=h.obj (hb.block b hlt)
theorem RawM.drew (h:RawM w b M):RawM w.drew b M:=h
theorem RawM.set (h:RawM w b M) {g j:Nat} {v:Value} (hg:b≠g):RawM (w.setCell ⟨g,j,none⟩ v) b M:=h.obj (RowKit.Below.heap_setCell _ _ _ _ hg)
theorem RawM.made (h:w.heap[b]?=some (.map #[] 0)):RawM w b (fun _=>none):=⟨#[],0,h,by simp,stamped_empty 0,by intro k v;simp⟩
theorem RawM.fun {N:Int→Option Value} (h:RawM w b M) (hN:∀k,N k=M k):RawM w b N:=by
 obtain⟨es,c,h1,h2,h3,h4⟩:=h
 exact⟨es,c,h1,h2,h3,fun k v=>by rw[hN];exact h4 k v⟩
theorem RawM.find {es:Array MapEntry} (h2:∀x ∈ es.toList,∃k:Int,x.key=.int .i64 k) (h4:Tells es M) (a:Int):
  (Instr.findNow (.int .i64) (.int .i64 a) es.toList 0=some none∧(∀x ∈ es.toList,x.key≠.int .i64 a)∧M a=none)∨∃j x,Instr.findNow (.int .i64) (.int .i64 a) es.toList 0=some (some (j,x.val))∧es.toList[j]?=some x∧x.key=.int .i64 a∧M a=some x.val:=by
 have hks:∀x ∈ es.toList,IsKey (.int .i64) x.key:=fun x hx=>by
  obtain⟨k,hk⟩:=h2 x hx
  rw[hk]
  exact rfl
 rcases findNow_spec (k:=.int .i64 a) (d:=.int .i64) rfl es.toList 0 hks with⟨h1,hn⟩|⟨j,x,h1,hj,hx⟩
 ·refine .inl ⟨h1,hn,?_⟩
  cases hM:M a with
  |none=>rfl
  |some v=>
   obtain⟨x,hx,hk,-⟩:=(h4 a v).1 hM
   exact absurd hk (hn x hx)
 ·exact .inr ⟨j,x,by simpa using h1,hj,hx,(h4 a x.val).2 ⟨x,List.mem_of_getElem? hj,hx,rfl⟩⟩
theorem RawM.look (h:RawM w b M) (hK:P.underlying K=some (.int .i64)) (ht:P.underlying t=some (.map K e)) {zv:Value} (hz:(zeroValue e).run P w=.ok zv w) (a:Int) {r:Option Value} (hr:M a=r):
  (Instr.lookup t (.map (some b)) (.int .i64 a) false).run P w=.ok (r.getD zv) w∧(Instr.lookup t (.map (some b)) (.int .i64 a) true).run P w=.ok (.tuple #[r.getD zv,.bool r.isSome]) w:=by
 obtain⟨es,c,hb,h2,h3,h4⟩:=h
 rcases RawM.find h2 h4 a with⟨h1,-,hM⟩|⟨j,x,h1,-,-,hM⟩ <;>
 ·rw [hM] at hr
  subst hr
  constructor <;> simp[Instr.lookup,run_underlying ht,MapKept.run_getObj_map hb,MapKept.run_checkKey hK (k:=.int .i64 a) rfl,MapKept.run_findKey hK h1,hz,Result.andThen]
theorem keys_push {es:Array MapEntry} {a:Int} {v:Value} {c:Nat} (h2:∀x ∈ es.toList,∃k:Int,x.key=.int .i64 k):∀x ∈ (es.push ⟨.int .i64 a,v,c⟩).toList,∃k:Int,x.key=.int .i64 k:=by
 intro y hy
 simp only[Array.toList_push,List.mem_append,List.mem_singleton] at hy
 rcases hy with hy|rfl
 ·exact h2 y hy
 ·exact ⟨a,rfl⟩
theorem Tells.push {es:Array MapEntry} (h4:Tells es M) {a:Int} {v:Value} {c:Nat} (hn:∀x ∈ es.toList,x.key≠.int .i64 a):Tells (es.push ⟨.int .i64 a,v,c⟩) (rup M a (some v)):=by
 intro k u
 simp only[Array.toList_push,List.mem_append,List.mem_singleton]
 by_cases hk:k=a
 ·subst hk
  rw[rup_same]
  constructor
  ·intro hu
   cases hu
   exact⟨_,.inr rfl,rfl,rfl⟩
  ·rintro ⟨y,hy|rfl,h5,h6⟩
   ·exact absurd h5 (hn y hy)
   ·simpa using h6
 ·rw [rup_ne hk,h4]
  constructor
  ·rintro ⟨y,hy,h5⟩
   exact⟨y,.inl hy,h5⟩
  ·rintro ⟨y,hy|rfl,h5,h6⟩
   ·exact ⟨y,hy,h5,h6⟩
   ·simp only[Value.int.injEq,true_and] at h5
    exact absurd h5.symm hk
theorem mem_modify {es:Array MapEntry} {c:Nat} (hs:Stamped es c) {j:Nat} {x:MapEntry} (hj:es[j]?=some x) (f:MapEntry→MapEntry) (y:MapEntry):
  y ∈ (es.modify j f).toList↔y=f x∨(y ∈ es.toList∧y.key≠x.key):=by
 have h3:=hs.2.2
 rw[List.mem_iff_getElem?]
 constructor
 ·rintro ⟨i,hi⟩
  simp only[Array.getElem?_toList,Array.getElem?_modify] at hi
  split at hi
  ·rename_i he
   subst he
   rw[hj] at hi
   simp only[Option.map_some,Option.some.injEq] at hi
   exact .inl hi.symm
  ·rename_i he
   refine .inr ⟨List.mem_iff_getElem?.2 ⟨i,by simpa using hi⟩,fun hk=>he ?_⟩
   have hil:j < (es.toList.map (·.key)).length:=by
    have:=(Array.getElem?_eq_some_iff.1 hj).1
    simpa using this
   refine(List.getElem?_inj hil h3).1 ?_
   simp[hi,hj,hk]
 ·rintro (rfl|⟨hy,hne⟩)
  ·exact ⟨j,by simp[Array.getElem?_modify,hj]⟩
  ·obtain ⟨i,hi⟩:=List.mem_iff_getElem?.1 hy
   refine⟨i,?_⟩
   simp only[Array.getElem?_toList,Array.getElem?_modify]
   rw[if_neg (by
    rintro rfl
    rw[Array.getElem?_toList,hj] at hi
    cases hi
    exact hne rfl)]
   simpa using hi
theorem keys_modify {es:Array MapEntry} {c:Nat} (hs:Stamped es c) (h2:∀x ∈ es.toList,∃k:Int,x.key=.int .i64 k) {j:Nat} {x:MapEntry} (hj:es[j]?=some x) {f:MapEntry→MapEntry} {a:Int} (hf:(f x).key=.int .i64 a):∀y ∈ (es.modify j f).toList,∃k:Int,y.key=.int .i64 k:=by
 intro y hy
 rcases(mem_modify hs hj f y).1 hy with rfl|⟨hy,-⟩
 ·exact ⟨a,hf⟩
 ·exact h2 y hy
theorem Tells.modify {es:Array MapEntry} {c:Nat} (hs:Stamped es c) (h4:Tells es M) {j:Nat} {x:MapEntry} (hj:es[j]?=some x) {f:MapEntry→MapEntry} {a:Int} (hx:x.key=.int .i64 a) (hf:(f x).key=.int .i64 a):Tells (es.modify j f) (rup M a (some (f x).val)):=by
 intro k u
 by_cases hk:k=a
 ·subst hk
  rw[rup_same]
  constructor
  ·intro hu
   cases hu
   exact⟨_,(mem_modify hs hj f _).2 (.inl rfl),hf,rfl⟩
  ·rintro ⟨y,hy,h5,h6⟩
   rcases(mem_modify hs hj f y).1 hy with rfl|⟨-,hne⟩
   ·rw [h6]
   ·exact absurd (h5.trans hx.symm) hne
 ·rw [rup_ne hk,h4]
  constructor
  ·rintro ⟨y,hy,h5,h6⟩
   exact⟨y,(mem_modify hs hj f y).2 (.inr ⟨hy,by rw[h5,hx];simpa using hk⟩),h5,h6⟩
  ·rintro ⟨y,hy,h5,h6⟩
   rcases(mem_modify hs hj f y).1 hy with rfl|⟨hy,-⟩
   ·rw [hf] at h5
    simp only[Value.int.injEq,true_and] at h5
    exact absurd h5.symm hk
   ·exact ⟨y,hy,h5,h6⟩
theorem stamped_mod {es:Array MapEntry} {c:Nat} (hs:Stamped es c) {j:Nat} {x:MapEntry} (hj:es[j]?=some x) {f:MapEntry→MapEntry} (hb:∀y,(f y).born=y.born) (hk:(f x).key=x.key):Stamped (es.modify j f) c:=
 stamped_modify hs j f (fun y _=>hb y) fun y _ hy=>by rw[hj] at hy;cases hy;exact hk
theorem RawM.store (h:RawM w b M) (hK:P.underlying K=some (.int .i64)) (ht:P.underlying t=some (.map K e)) (a:Int) (v:Value):
  ∃w',(Instr.mapUpdate t (.map (some b)) (.int .i64 a) v).run P w=.ok () w'∧RawM w' b (rup M a (some v))∧w.mapTurned w' b:=by
 obtain⟨es,c,hb,h2,h3,h4⟩:=h
 rcases RawM.find h2 h4 a with⟨h1,hn,hM⟩|⟨j,x,h1,hj,hx,hM⟩
 ·refine ⟨ChangeMaps.setBlock w b (.map (es.push ⟨.int .i64 a,v,c⟩) (c+1)),?_,⟨_,_,ChangeMaps.heap_setBlock_same hb _,keys_push h2,stamped_push h3 hn,h4.push hn⟩,⟨_,_,_,_,hb,rfl⟩⟩
  simp[Instr.mapUpdate,run_underlying ht,MapKept.run_getObj_map hb,MapKept.run_checkKey hK (k:=.int .i64 a) rfl,MapKept.run_findKey hK h1,MapKept.run_setObj_map _ hb,Result.andThen,ChangeMaps.setBlock]
 ·have hj':es[j]?=some x:=by simpa using hj
  refine⟨ChangeMaps.setBlock w b (.map (es.modify j fun y=>{y with key:=.int .i64 a,val:=v}) c),?_,⟨_,_,ChangeMaps.heap_setBlock_same hb _,keys_modify h3 h2 hj' (a:=a) rfl,stamped_mod h3 hj' (fun _=>rfl) hx.symm,Tells.modify (f:=fun y=>{y with key:=.int .i64 a,val:=v}) h3 h4 hj' hx rfl⟩,⟨_,_,_,_,hb,rfl⟩⟩
  simp[Instr.mapUpdate,run_underlying ht,MapKept.run_getObj_map hb,MapKept.run_checkKey hK (k:=.int .i64 a) rfl,MapKept.run_findKey hK h1,hj',hx,MapKept.run_keyThatStays (d:=.int .i64) (k:=.int .i64 a) rfl,MapKept.run_setObj_map _ hb,Result.andThen,ChangeMaps.setBlock]
theorem RawM.drop (h:RawM w b M) (hK:P.underlying K=some (.int .i64)) (ht:P.underlying t=some (.map K e)) (a:Int) (ty:TypeId):
  ∃w',(Builtin.delete_ #[t,K] ty #[.map (some b),.int .i64 a]).run P w=.ok (.tuple #[]) w'∧RawM w' b (rup M a none)∧w.mapTurned w' b:=by
 obtain⟨es,c,hb,h2,h3,h4⟩:=h
 rcases RawM.find h2 h4 a with⟨h1,hn,hM⟩|⟨j,x,h1,hj,hx,hM⟩
 ·refine ⟨ChangeMaps.setBlock w b (.map es c),?_,⟨_,_,ChangeMaps.heap_setBlock_same hb _,h2,h3,?_⟩,⟨_,_,_,_,hb,rfl⟩⟩
  ·simp [Builtin.delete_,run_underlying ht,MapKept.run_getObj_map hb,MapKept.run_checkKey hK (k:=.int .i64 a) rfl,MapKept.run_findKey hK h1,MapKept.run_setObj_map _ hb,Result.andThen,ChangeMaps.setBlock]
  ·intro k u
   by_cases hk:k=a
   ·subst hk
    rw[rup_same]
    constructor
    ·intro hu;cases hu
    ·rintro ⟨y,hy,h5,-⟩
     exact absurd h5 (hn y hy)
   ·rw [rup_ne hk];exact h4 k u
 ·have hjl:j < es.size:=by
   have:=(List.getElem?_eq_some_iff.1 hj).1
   simpa using this
  have he:(es.eraseIdxIfInBounds j).toList=es.toList.eraseIdx j:=by
   unfold Array.eraseIdxIfInBounds
   rw[dif_pos hjl]
   simp
  have hsub:List.Sublist (es.toList.eraseIdx j) es.toList:=List.eraseIdx_sublist _ _
  refine⟨ChangeMaps.setBlock w b (.map (es.eraseIdxIfInBounds j) c),?_,⟨_,_,ChangeMaps.heap_setBlock_same hb _,?_,stamped_erase h3 j,?_⟩,⟨_,_,_,_,hb,rfl⟩⟩
  ·simp [Builtin.delete_,run_underlying ht,MapKept.run_getObj_map hb,MapKept.run_checkKey hK (k:=.int .i64 a) rfl,MapKept.run_findKey hK h1,MapKept.run_setObj_map _ hb,Result.andThen,ChangeMaps.setBlock]
  ·intro y hy
   rw[he] at hy
   exact h2 y (hsub.subset hy)
  ·have hmem:∀y,y ∈ es.toList.eraseIdx j↔y ∈ es.toList∧y.key≠.int .i64 a:=by
    intro y
    have hn:=h3.2.2
    rw[List.mem_eraseIdx_iff_getElem?]
    constructor
    ·rintro ⟨i,hi,hy⟩
     refine⟨List.mem_of_getElem? hy,fun hk=>hi ?_⟩
     have hil:j < (es.toList.map (·.key)).length:=by simpa using hjl
     refine((List.getElem?_inj hil hn).1 ?_).symm
     rw[List.getElem?_map,List.getElem?_map,hy,hj]
     simp[hk,hx]
    ·rintro ⟨hy,hne⟩
     obtain⟨i,hi⟩:=List.mem_iff_getElem?.1 hy
     refine⟨i,?_,hi⟩
     rintro rfl
     rw[hj] at hi
     cases hi
     exact hne hx
   intro k u
   rw[he]
   by_cases hk:k=a
   ·subst hk
    rw[rup_same]
    constructor
    ·intro hu;cases hu
    ·rintro ⟨y,hy,h5,-⟩
     exact absurd h5 ((hmem y).1 hy).2
   ·rw [rup_ne hk,h4]
    constructor
    ·rintro ⟨y,hy,h5,h6⟩
     exact⟨y,(hmem y).2 ⟨hy,by rw[h5];simpa using hk⟩,h5,h6⟩
    ·rintro ⟨y,hy,h5,h6⟩
     exact⟨y,((hmem y).1 hy).1,h5,h6⟩
theorem RawM.entry (h:RawM w b M) (hK:P.underlying K=some (.int .i64)) (ht:P.underlying t=some (.map K e)) {zv:Value} (hz:(zeroValue e).run P w=.ok zv w) (a:Int):
  ∃(w':World) (v:Value) (n:Int) (M':Int→Option Value),(Instr.mapEntry t (.map (some b)) (.int .i64 a)).run P w=.ok (.tuple #[v,.int .i64 n]) w'∧RawAt w' b M' a n∧(∀k,k≠a→M' k=M k)∧w.mapTurned w' b:=by
 obtain⟨es,c,hb,h2,h3,h4⟩:=h
 rcases RawM.find h2 h4 a with⟨h1,hn,hM⟩|⟨j,x,h1,hj,hx,hM⟩
 ·refine ⟨ChangeMaps.setBlock w b (.map (es.push ⟨.int .i64 a,zv,c⟩) (c+1)),zv,c,_,?_,⟨_,_,ChangeMaps.heap_setBlock_same hb _,keys_push h2,stamped_push h3 hn,h4.push hn,⟨.int .i64 a,zv,c⟩,by simp,rfl,rfl⟩,fun k hk=>rup_ne hk,⟨_,_,_,_,hb,rfl⟩⟩
  simp[Instr.mapEntry,run_underlying ht,MapKept.run_getObj_map hb,MapKept.run_checkKey hK (k:=.int .i64 a) rfl,MapKept.run_findKey hK h1,hz,MapKept.run_setObj_map _ hb,Result.andThen,ChangeMaps.setBlock,goInt]
 ·have hj':es[j]?=some x:=by simpa using hj
  refine⟨ChangeMaps.setBlock w b (.map (es.modify j fun y=>{y with key:=.int .i64 a}) c),x.val,x.born,_,?_,⟨_,_,ChangeMaps.heap_setBlock_same hb _,keys_modify h3 h2 hj' (a:=a) rfl,stamped_mod h3 hj' (fun _=>rfl) hx.symm,Tells.modify (f:=fun y=>{y with key:=.int .i64 a}) h3 h4 hj' hx rfl,_,(mem_modify h3 hj' _ _).2 (.inl rfl),rfl,rfl⟩,fun k hk=>rup_ne hk,⟨_,_,_,_,hb,rfl⟩⟩
  simp[Instr.mapEntry,run_underlying ht,MapKept.run_getObj_map hb,MapKept.run_checkKey hK (k:=.int .i64 a) rfl,MapKept.run_findKey hK h1,hj',hx,MapKept.run_keyThatStays (d:=.int .i64) (k:=.int .i64 a) rfl,MapKept.run_setObj_map _ hb,Result.andThen,ChangeMaps.setBlock,goInt]
theorem RawAt.stored {a n:Int} (h:RawAt w b M a n) (v:Value):
  ∃w',(Instr.entryStore t (.map (some b)) (.int .i64 n) v).run P w=.ok () w'∧RawM w' b (rup M a (some v))∧w.mapTurned w' b:=by
 obtain⟨es,c,hb,h2,h3,h4,x,hx,hk,hn⟩:=h
 subst hn
 obtain⟨j,hj⟩:=List.mem_iff_getElem?.1 hx
 have hj':es[j]?=some x:=by simpa using hj
 have hjl:=(Array.getElem?_eq_some_iff.1 hj').1
 have hf:es.findIdx? (fun y=>(y.born:Int)==x.born)=some j:=by
  rw[Array.findIdx?_eq_some_iff_getElem]
  obtain⟨hl,hv⟩:=Array.getElem?_eq_some_iff.1 hj'
  refine⟨hl,by simp[hv],fun i hi=>?_⟩
  simp only[Bool.not_eq_true,beq_eq_false_iff_ne,ne_eq]
  intro he
  have hil:i < (es.toList.map (·.born)).length:=by simp;omega
  have hii:es[i]?=some es[i]:=Array.getElem?_eq_getElem (by omega)
  have:=(List.getElem?_inj hil h3.2.1 (j:=j)).1 (by simp[hii,hj'];omega)
  omega
 refine⟨ChangeMaps.setBlock w b (.map (es.modify j fun y=>{y with val:=v}) c),?_,⟨_,_,ChangeMaps.heap_setBlock_same hb _,keys_modify h3 h2 hj' (a:=a) hk,stamped_mod h3 hj' (fun _=>rfl) rfl,Tells.modify (f:=fun y=>{y with val:=v}) h3 h4 hj' hk hk⟩,⟨_,_,_,_,hb,rfl⟩⟩
 simp[Instr.entryStore,MapKept.run_getObj_map hb,asInt,asIntOf,hf,MapKept.run_setObj_map _ hb,Result.andThen,ChangeMaps.setBlock]
theorem RawM.wp_store (h:RawM w b M) (hK:P.underlying K=some (.int .i64)) (ht:P.underlying t=some (.map K e)) {a:Int} {v:Value}
  {o:Oper} {act:Act} {Q:Exit→Act→World→Prop} {K':Act→World→Prop} {m x y:Operand} (hop:o.op=Op.mapUpdate t m x y∨o.op=Op.insert t m x y) (hm:act.eval m=.map (some b)) (hx:act.eval x=.int .i64 a) (hy:act.eval y=v)
  (hQ:∀w',RawM w' b (rup M a (some v))→w.mapTurned w' b→K' (act.put o.dst undef) w'):o.wp P act w K' Q:=by
 obtain⟨w',hrun,h1,h2⟩:=h.store hK ht a v
 rcases hop with hop|hop <;>
 ·unfold Oper.wp
  simp only[execOp,hop,hm,hx,hy,Sem.run_bind,hrun,Result.andThen_ok,Sem.run_pure]
  exact hQ w' h1 h2
theorem RawM.wpList_store (h:RawM w b M) (hK:P.underlying K=some (.int .i64)) (ht:P.underlying t=some (.map K e)) {a:Int} {v:Value}
  {ops:Array Oper} {rest:List Oper} {o:Oper} {act:Act} {Q:Exit→Act→World→Prop} {m x y:Operand} (hg:o.guard=none) (hop:o.op=Op.mapUpdate t m x y∨o.op=Op.insert t m x y) (hm:act.eval m=.map (some b)) (hx:act.eval x=.int .i64 a) (hy:act.eval y=v)
  (hQ:∀w',RawM w' b (rup M a (some v))→w.mapTurned w' b→wpList P ops Q rest (act.put o.dst undef) w'):wpList P ops Q (o::rest) act w:=
 wpList_plain hg fun _ hK'=>h.wp_store hK ht hop hm hx hy fun w' h1 h2=>hK' _ _ (hQ w' h1 h2)
theorem RawM.wp_drop (h:RawM w b M) (hK:P.underlying K=some (.int .i64)) (ht:P.underlying t=some (.map K e)) {a:Int}
  {o:Oper} {act:Act} {Q:Exit→Act→World→Prop} {K':Act→World→Prop} {m x:Operand} (hop:o.op=Op.call {callee:=Callee.builtin Builtin.delete,args:=#[m,x],argTypes:=#[t,K]}) (hm:act.eval m=.map (some b)) (hx:act.eval x=.int .i64 a)
  (hQ:∀w',RawM w' b (rup M a none)→w.mapTurned w' b→K' (act.put o.dst (.tuple #[])) w'):o.wp P act w K' Q:=by
 obtain⟨w',hrun,r1,r2⟩:=h.drop hK ht a o.type
 unfold Oper.wp
 simp[execOp,hop,resolve,invoke,builtin,hm,hx,hrun,Result.andThen]
 exact hQ w' r1 r2
theorem RawM.wp_entry (h:RawM w b M) (hK:P.underlying K=some (.int .i64)) (ht:P.underlying t=some (.map K e)) {zv:Value} (hz:(zeroValue e).run P w=.ok zv w) {a:Int}
  {o:Oper} {act:Act} {Q:Exit→Act→World→Prop} {K':Act→World→Prop} {m x:Operand} (hop:o.op=Op.mapEntry t m x) (hm:act.eval m=.map (some b)) (hx:act.eval x=.int .i64 a)
  (hQ:∀(w':World) (v:Value) (n:Int) (M':Int→Option Value),RawAt w' b M' a n→(∀k,k≠a→M' k=M k)→w.mapTurned w' b→K' (act.put o.dst (.tuple #[v,.int .i64 n])) w'):o.wp P act w K' Q:=by
 obtain⟨w',v,n,M',hrun,h1,h2,h3⟩:=h.entry hK ht hz a
 unfold Oper.wp
 simp only[execOp,hop,hm,hx,Sem.run_bind,hrun,Result.andThen_ok,Sem.run_pure]
 exact hQ w' v n M' h1 h2 h3
theorem RawAt.wp_stored {a n:Int} (h:RawAt w b M a n) {v:Value}
  {o:Oper} {act:Act} {Q:Exit→Act→World→Prop} {K':Act→World→Prop} {m s y:Operand} (hop:o.op=Op.entryStore t m s y) (hm:act.eval m=.map (some b)) (hx:act.eval s=.int .i64 n) (hy:act.eval y=v)
  (hQ:∀w',RawM w' b (rup M a (some v))→w.mapTurned w' b→K' (act.put o.dst undef) w'):o.wp P act w K' Q:=by
 obtain⟨w',hrun,h1,h2⟩:=h.stored (P:=P) (t:=t) v
 unfold Oper.wp
 simp only[execOp,hop,hm,hx,hy,Sem.run_bind,hrun,Result.andThen_ok,Sem.run_pure]
 exact hQ w' h1 h2
end
section
attribute [local irreducible] wpL
theorem turned_cells {w w':World} {b g:Nat} {cs:Array Value} {t:TypeId} {fz:Nat×Nat} (h:w.mapTurned w' b) (hg:w.heap[g]?=some (.cells cs t fz)):w'.heap[g]?=w.heap[g]?:=turned_other h (by
 rintro rfl
 obtain⟨es,c,es',c',hb,-⟩:=h
 rw[hb] at hg
 cases hg)
def fdsOf (k:Int):List Fd:=if k=1 then[fdTx,fdTh] else[fdTx]
def ClAt (w:World) (B:Nat) (v:Value) (l:List Fd):Prop:=∃(bl:Nat) (sv:Value),v=.func (.func 180) #[] #[.pointer (some ⟨bl,0,none⟩)]∧w.heap[bl]?=some (.cells #[sv] 304 (0,0))∧OwnF Fd.cells 260 4 w B sv l
theorem ClAt.below {w w':World} {B:Nat} {v:Value} {l:List Fd} (h:ClAt w B v l) (hb:Below w.heap.size w w'):ClAt w' B v l:=let ⟨bl,sv,h1,h2,h3⟩:=h;⟨bl,sv,h1,row_below h2 hb (row_lt h2),OwnF.below h3 hb⟩
theorem ClAt.turned {w w':World} {B b:Nat} {v:Value} {l:List Fd} (h:ClAt w B v l) (ht:w.mapTurned w' b):ClAt w' B v l:=let ⟨bl,sv,h1,h2,h3⟩:=h;⟨bl,sv,h1,(turned_cells ht h2).trans h2,OwnF.kd h3 (Kd.turned (T:=fun _=>False) ht) fun h=>h⟩
def FldMid (w W:World):Exit→Act→World→Prop:=fun e a' X=>∃bm bl gs:Nat,e=.normal∧a'={tmps:=#[.map none,.pointer (some ⟨w.heap.size,0,none⟩),.map (some bm),undef,undef,.map (some bm),.func (.func 179) #[] #[],fdTx.val,fdTh.val,.slice (some ⟨gs,0,none⟩) 2 2,.func (.func 180) #[] #[.pointer (some ⟨bl,0,none⟩)],.map (some bm),undef,undef,undef,undef,undef,undef,undef,undef,undef,undef,undef,undef,undef,undef,undef,undef,undef,undef],defers:=[]}∧RawM X bm (rup (fun _=>none) 1 (some (.func (.func 180) #[] #[.pointer (some ⟨bl,0,none⟩)])))∧X.heap[bl]?=some (.cells #[.slice (some ⟨gs,0,none⟩) 2 2] 304 (0,0))∧OwnF Fd.cells 260 4 X W.heap.size (.slice (some ⟨gs,0,none⟩) 2 2) [fdTx,fdTh]∧Below W.heap.size W X∧W.heap.size≤bm
end
section
attribute [local irreducible] wpL
def fdAll:List Fd:=[fdTx,fdTh,fdOb,fdOp,fdVa,fdRe]
def offOf (f:Fd):Nat:=if f.f=214 then 1 else if f.f=215 then 2 else if f.f=216 then 3 else if f.f=217 then 4 else if f.f=219 then 6 else 7
theorem fd_of {f:Fd} (h:f ∈ fdAll) (b:Nat) (w:World):Calls Tryz.prog f.f #[.pointer (some ⟨b,0,none⟩)] w fun e w'=>e=.returned (.pointer (some ⟨b,offOf f,none⟩))∧w'=w:=by
 simp only[fdAll,List.mem_cons,List.not_mem_nil,or_false] at h
 rcases h with rfl|rfl|rfl|rfl|rfl|rfl
 ·exact e_tx1 b w
 ·exact e_thread1 b w
 ·exact e_obj1 b w
 ·exact e_op1 b w
 ·exact e_val1 b w
 ·exact e_ret1 b w
theorem cf_of {f:Fd} (h:f ∈ fdAll) (args:Array Value) (X:World):Sem.run Tryz.prog (callFunc f.f args) X=.ok (.enter f.f args) X:=by
 simp only[fdAll,List.mem_cons,List.not_mem_nil,or_false] at h
 rcases h with rfl|rfl|rfl|rfl|rfl|rfl <;> kernel_rfl
theorem off_lt {f:Fd} (h:f ∈ fdAll):1≤offOf f∧offOf f < 8:=by
 simp only[fdAll,List.mem_cons,List.not_mem_nil,or_false] at h
 rcases h with rfl|rfl|rfl|rfl|rfl|rfl <;> decide
theorem set_row (cs:List Value) (j:Nat) (v:Value):cs.toArray.setIfInBounds j v=(cs.set j v).toArray:=by simp
def evCs (x:Ev):List Value:=[.int .i64 0,.int .i64 x.tx,.int .i64 x.thread,.int .i64 x.obj,.int .i64 x.op,.int .i64 x.key,.int .i64 x.val,.int .i64 x.ret]
theorem ba_loop (s:ByteArray):∀(n i:Nat) (r:List UInt8),s.size - i=n→ByteArray.toList.loop s i r=r.reverse++s.data.toList.drop i
 |0,i,r,h=>by
  unfold ByteArray.toList.loop
  have h1:s.size=s.data.size:=rfl
  rw[if_neg (by omega),List.drop_eq_nil_of_le (by simp;omega)]
  simp
 |n+1,i,r,h=>by
  unfold ByteArray.toList.loop
  have h1:s.size=s.data.size:=rfl
  rw[if_pos (by omega),ba_loop s n (i+1) _ (by omega)]
  have hi:i < s.data.toList.length:=by simp;omega
  rw[List.drop_eq_getElem_cons hi]
  have:s.get! i=s.data.toList[i]:=by
   show s.data[i]! =_
   rw[getElem!_pos s.data i (by simpa using hi)]
   simp
  simp[this]
theorem ba_toList (s:ByteArray):s.toList=s.data.toList:=by
 unfold ByteArray.toList
 rw[ba_loop s _ 0 [] rfl]
 simp
theorem zeroFn (w:World):(zeroValue 255).run Tryz.prog w=.ok .nilFunc w:=by kernel_rfl
end
section
attribute [local irreducible] wpL
structure Chg (S:Nat→Prop) (w w':World):Prop where
 os:w'.os=w.os
 tape:w'.tape=w.tape
 output:w'.output=w.output
 size:w.heap.size≤w'.heap.size
 keep:∀k,k < w.heap.size→¬S k→w'.heap[k]?=w.heap[k]?
section
variable {S T:Nat→Prop} {w w' w1:World}
theorem Chg.refl (w:World):Chg S w w:=⟨rfl,rfl,rfl,Nat.le_refl _,fun _ _ _=>rfl⟩
theorem Chg.trans (h:Chg S w w1) (k:Chg T w1 w') (hT:∀j,j < w.heap.size→T j→S j):Chg S w w':=
 ⟨k.os.trans h.os,k.tape.trans h.tape,k.output.trans h.output,Nat.le_trans h.size k.size,fun j hj hs=>(k.keep j (Nat.lt_of_lt_of_le hj h.size) fun ht=>hs (hT j hj ht)).trans (h.keep j hj hs)⟩
theorem Chg.mono (h:Chg S w w') (hS:∀j,S j→T j):Chg T w w':=⟨h.os,h.tape,h.output,h.size,fun j hj ht=>h.keep j hj fun hs=>ht (hS j hs)⟩
theorem Chg.of_below (h:Below w.heap.size w w'):Chg S w w':=⟨h.os,h.tape,h.output,h.size,fun j hj _=>h.block j hj⟩
theorem Chg.below {B:Nat} (h:Chg S w w') (hS:∀j,S j→B≤j) (hB:B≤w.heap.size):Below B w w':=⟨h.os,h.tape,h.output,h.size,fun j hj=>h.keep j (by omega) fun hs=>by have:=hS j hs;omega⟩
theorem Chg.set (h:Chg S w w') {g j:Nat} {v:Value} (hg:S g):Chg S w (w'.setCell ⟨g,j,none⟩ v):=
 ⟨h.os,h.tape,h.output,by have:=h.size;rw[show (w'.setCell ⟨g,j,none⟩ v).heap.size=w'.heap.size from by simp];exact this,fun k hk hs=>(Go.RowKit.Below.heap_setCell _ _ _ _ (by rintro rfl;exact hs hg)).trans (h.keep k hk hs)⟩
theorem Chg.alloc (h:Chg S w w') (o:Obj):Chg S w (w'.alloc o):=⟨h.os,h.tape,h.output,by have:=h.size;simp;omega,fun k hk hs=>(heap_alloc_old w' o (by have:=h.size;omega)).trans (h.keep k hk hs)⟩
theorem Chg.drew (h:Chg S w w'):Chg S w w'.drew:=⟨h.os,h.tape,h.output,h.size,h.keep⟩
theorem Chg.turned {b:Nat} (h:w.mapTurned w' b) (hb:S b):Chg S w w':=by
 obtain⟨es,c,es',c',hh,rfl⟩:=h
 exact⟨rfl,rfl,rfl,by simp[ChangeMaps.setBlock],fun k hk hs=>Go.ChangeMaps.heap_setBlock_other hh _ (by rintro rfl;exact hs hb)⟩
theorem Chg.grw {v v':Value} (h:Grw w w' v v') (hv:∀k,v.ownBlock=some k→S k):Chg S w w':=
 ⟨h.grown.os,h.grown.tape,h.grown.output,h.grown.size,fun k hk hs=>h.grown.block k hk fun e=>hs (hv k e.symm)⟩
theorem Chg.row {g:Nat} {x:Obj} (h:Chg S w w') (hg:w.heap[g]?=some x) (hs:¬S g):w'.heap[g]?=some x:=(h.keep g (row_lt hg) hs).trans hg
theorem OwnF.typ {α:Type} {f:α→List Value} {e:TypeId} {sz B:Nat} {v:Value} {l:List α} (h:OwnF f e sz w B v l) {g:Nat} (hg:v.ownBlock=some g):∃cs fz,w.heap[g]?=some (.cells cs e fz):=by
 obtain⟨-,h2⟩:=h
 rcases h2 with⟨rfl,-⟩|⟨g',cap,cur,rfl,-,hh,-⟩
 ·cases hg
 ·simp only[Value.ownBlock,Option.some.injEq] at hg
  subst hg
  exact⟨_,_,hh⟩
theorem OwnF.chg {α:Type} {f:α→List Value} {e:TypeId} {sz B:Nat} {v:Value} {l:List α} (h:OwnF f e sz w B v l) (hc:Chg S w w') (hs:∀g,v.ownBlock=some g→¬S g):OwnF f e sz w' B v l:=by
 obtain⟨h1,h2⟩:=h
 refine⟨h1,?_⟩
 rcases h2 with h2|⟨g,cap,cur,rfl,hg,hh,r⟩
 ·exact .inl h2
 ·exact .inr ⟨g,cap,cur,rfl,hg,hc.row hh (hs g rfl),r⟩
theorem RawM.chg {b:Nat} {M:Int→Option Value} (h:RawM w b M) (hc:Chg S w w') (hs:¬S b):RawM w' b M:=h.obj (hc.keep b h.lt hs)
end
def stCs (s:St) (dv:Value):List Value:=[.int .i64 s.id,.int .i64 s.thread,.int .i64 s.status,.int .i64 s.beg,.int .i64 s.fin,.int .i64 s.tri,dv,.int .i64 s.stand]
abbrev OwnD (w:World) (B:Nat) (v:Value) (l:List Dd):Prop:=OwnF Dd.cells 112 8 w B v l
structure StAt (w:World) (B:Nat) (p:Nat×Value) (s:St):Prop where
 row:w.heap[p.1]?=some (.cells (stCs s p.2).toArray 179 (0,0))
 hB:B≤p.1
 dds:OwnD w B p.2 s.deeds
def stS (p:Nat×Value):Nat→Prop:=fun k=>k=p.1∨p.2.ownBlock=some k
def ptrV (g:Nat):Value:=.pointer (some ⟨g,0,none⟩)
def BzIs (M:Int→Option Value) (Z:Int→Prop):Prop:=(∀x,¬Z x→M x=none)∧∀x,Z x→∃g,M x=some (ptrV g)
structure AuIn (w:World) (B bA bY bZ:Nat) (ov tv:Value) (os:List Ob) (n:Nat) (A:Au) (Z:Int→Prop) (bs:List (Nat×Value)):Prop where
 row:w.heap[bA]?=some (.cells #[ov,.int .i64 n,tv,.map (some bY),.map (some bZ)] 176 (0,0))
 hB:B≤bA
 obs:OwnF Ob.cells 62 2 w B ov os
 txs:OwnF valC 177 1 w B tv (bs.map fun p=>ptrV p.1)
 len:bs.length=A.length
 sts:∀(k:Nat) (p:Nat×Value) (s:St),bs[k]?=some p→A[k]?=some s→StAt w B p s
 nod:(bs.map (·.1)).Nodup
 dis:∀(j k:Nat) (p q:Nat×Value),bs[j]?=some p→bs[k]?=some q→j≠k→∀g,p.2.ownBlock=some g→q.2.ownBlock≠some g
 by_:B≤bY∧∃M,RawM w bY M∧(∀(k:Nat) (p:Nat×Value) (s:St),bs[k]?=some p→A[k]?=some s→M s.id=some (ptrV p.1))∧∀x,¬hasId x A→M x=none
 bz:B≤bZ∧∃M,RawM w bZ M∧BzIs M Z
 ne:bY≠bZ
def AuAt (w:World) (B bA:Nat) (os:List Ob) (n:Nat) (A:Au):Prop:=∃bY bZ ov tv bs,AuIn w B bA bY bZ ov tv os n A (fun x=>isBusy x A) bs
section
variable {w w':World} {B bA bY bZ n:Nat} {ov tv:Value} {os:List Ob} {A:Au} {Z:Int→Prop} {bs:List (Nat×Value)}
theorem StAt.typ {p:Nat×Value} {s:St} (h:StAt w B p s) {k:Nat} (hk:stS p k):∃cs t fz,w.heap[k]?=some (.cells cs t fz)∧(t=179∨t=112):=by
 rcases hk with rfl|hk
 ·exact ⟨_,_,_,h.row,.inl rfl⟩
 ·obtain ⟨cs,fz,hh⟩:=OwnF.typ h.dds hk
  exact⟨_,_,_,hh,.inr rfl⟩
theorem StAt.ge {p:Nat×Value} {s:St} (h:StAt w B p s) {k:Nat} (hk:stS p k):B≤k:=by
 rcases hk with rfl|hk
 ·exact h.hB
 ·exact (OwnF.lt h.dds k hk).1
theorem StAt.notCells {p:Nat×Value} {s:St} (h:StAt w B p s) {g:Nat} {cs:Array Value} {t:TypeId} {fz:Nat×Nat} (hg:w.heap[g]?=some (.cells cs t fz)) (h1:t≠179) (h2:t≠112):¬stS p g:=fun hk=>by
 obtain⟨cs',t',fz',hh,ht⟩:=h.typ hk
 rw[hg] at hh
 simp only[Option.some.injEq,Obj.cells.injEq] at hh
 rcases ht with ht|ht
 ·exact h1 (hh.2.1.trans ht)
 ·exact h2 (hh.2.1.trans ht)
theorem StAt.notMap {p:Nat×Value} {s:St} (h:StAt w B p s) {g:Nat} (hg:∃es c,w.heap[g]?=some (.map es c)):¬stS p g:=fun hk=>by
 obtain⟨cs',t',fz',hh,-⟩:=h.typ hk
 obtain⟨es,c,hg⟩:=hg
 rw[hg] at hh
 cases hh
theorem AuIn.get (h:AuIn w B bA bY bZ ov tv os n A Z bs) {k:Nat} {s:St} (hs:A[k]?=some s):∃p,bs[k]?=some p∧StAt w B p s:=by
 have hk:=(List.getElem?_eq_some_iff.1 hs).1
 obtain⟨p,hp⟩:∃p,bs[k]?=some p:=⟨_,List.getElem?_eq_getElem (by rw[h.len];exact hk)⟩
 exact⟨p,hp,h.sts k p s hp hs⟩
theorem AuIn.apart (h:AuIn w B bA bY bZ ov tv os n A Z bs) {j k:Nat} {p q:Nat×Value} {s t:St} (hp:bs[j]?=some p) (hq:bs[k]?=some q) (hs:A[j]?=some s) (ht:A[k]?=some t) (hne:j≠k) {g:Nat} (hg:stS p g):¬stS q g:=by
 have hj:=(List.getElem?_eq_some_iff.1 hp).1
 rcases hg with rfl|hg
 ·rintro (hk|hk)
  ·have:=(List.getElem?_inj (i:=j) (j:=k) (by simpa using hj) h.nod).1 (by simp[hp,hq,hk])
   exact hne this
  ·obtain ⟨cs,fz,hh⟩:=OwnF.typ (h.sts k q t hq ht).dds hk
   rw[(h.sts j p s hp hs).row] at hh
   simp at hh
 ·rintro (hk|hk)
  ·obtain ⟨cs,fz,hh⟩:=OwnF.typ (h.sts j p s hp hs).dds hg
   rw[hk,(h.sts k q t hq ht).row] at hh
   simp at hh
  ·exact h.dis j k p q hp hq hne g hg hk
theorem StAt.chg {S:Nat→Prop} {p:Nat×Value} {s:St} (h:StAt w B p s) (hc:Chg S w w') (hs:∀g,stS p g→¬S g):StAt w' B p s:=⟨hc.row h.row (hs _ (.inl rfl)),h.hB,OwnF.chg h.dds hc fun g hg=>hs g (.inr hg)⟩
theorem AuIn.chg {S:Nat→Prop} (h:AuIn w B bA bY bZ ov tv os n A Z bs) (hc:Chg S w w') (hS:∀k,k < w.heap.size→¬S k):AuIn w' B bA bY bZ ov tv os n A Z bs:=by
 have hw:∀k x,w.heap[k]?=some x→¬S k:=fun k x hx=>hS k (row_lt hx)
 refine⟨hc.row h.row (hw _ _ h.row),h.hB,OwnF.chg h.obs hc fun g hg=>hS g (OwnF.lt h.obs g hg).2,OwnF.chg h.txs hc fun g hg=>hS g (OwnF.lt h.txs g hg).2,h.len,fun k p s hp hs=>(h.sts k p s hp hs).chg hc fun g hg=>?_,h.nod,h.dis,⟨h.by_.1,?_⟩,⟨h.bz.1,?_⟩,h.ne⟩
 ·obtain ⟨cs,t,fz,hh,-⟩:=(h.sts k p s hp hs).typ hg
  exact hw _ _ hh
 ·obtain ⟨M,h1,h2⟩:=h.by_.2
  exact⟨M,h1.chg hc (hS _ h1.lt),h2⟩
 ·obtain ⟨M,h1,h2⟩:=h.bz.2
  exact⟨M,h1.chg hc (hS _ h1.lt),h2⟩
theorem AuIn.below (h:AuIn w B bA bY bZ ov tv os n A Z bs) (hb:Below w.heap.size w w'):AuIn w' B bA bY bZ ov tv os n A Z bs:=h.chg (S:=fun _=>False) (Chg.of_below hb) (fun _ _ h=>h)
theorem AuIn.moved (h:AuIn w B bA bY bZ ov tv os n A Z bs) {k:Nat} {p:Nat×Value} {s s':St} (hp:bs[k]?=some p) (hs:A[k]?=some s) (hc:Chg (stS p) w w') {dv:Value} (hst:StAt w' B (p.1,dv) s') (hid:s'.id=s.id) (hth:s'.thread=s.thread)
  (hdv:∀g,dv.ownBlock=some g→p.2.ownBlock=some g∨w.heap.size≤g):AuIn w' B bA bY bZ ov tv os n (A.set k s') Z (bs.set k (p.1,dv)):=by
 have hsp:=h.sts k p s hp hs
 have hmap:(bs.set k (p.1,dv)).map (fun p=>ptrV p.1)=bs.map fun p=>ptrV p.1:=by
  apply List.ext_getElem?
  intro j
  by_cases e:k=j
  ·subst e
   rw[List.getElem?_map,List.getElem?_map,List.getElem?_set_self (List.getElem?_eq_some_iff.1 hp).1,hp];rfl
  ·rw [List.getElem?_map,List.getElem?_map,List.getElem?_set_ne e]
 have hmap1:(bs.set k (p.1,dv)).map (·.1)=bs.map (·.1):=by
  apply List.ext_getElem?
  intro j
  by_cases e:k=j
  ·subst e
   rw[List.getElem?_map,List.getElem?_map,List.getElem?_set_self (List.getElem?_eq_some_iff.1 hp).1,hp];rfl
  ·rw [List.getElem?_map,List.getElem?_map,List.getElem?_set_ne e]
 have fresh:∀(j:Nat) (q:Nat×Value) (t:St),bs[j]?=some q→A[j]?=some t→∀g,q.2.ownBlock=some g→g < w.heap.size:=fun j q t hq ht g hg=>(OwnF.lt (h.sts j q t hq ht).dds g hg).2
 have getA:∀(j:Nat) (q:Nat×Value),bs[j]?=some q→∃t,A[j]?=some t:=fun j q hq=>⟨_,List.getElem?_eq_getElem (by rw[←h.len];exact(List.getElem?_eq_some_iff.1 hq).1)⟩
 refine⟨hc.row h.row (hsp.notCells h.row (by decide) (by decide)),h.hB,OwnF.chg h.obs hc fun g hg=>?_,?_,by simpa using h.len,fun j q t hq ht=>?_,by rw[hmap1];exact h.nod,fun i j q r hq hr hne g hg=>?_,⟨h.by_.1,?_⟩,⟨h.bz.1,?_⟩,h.ne⟩
 ·obtain ⟨cs,fz,hh⟩:=OwnF.typ h.obs hg
  exact hsp.notCells hh (by decide) (by decide)
 ·rw [hmap]
  refine OwnF.chg h.txs hc fun g hg=>?_
  obtain⟨cs,fz,hh⟩:=OwnF.typ h.txs hg
  exact hsp.notCells hh (by decide) (by decide)
 ·rcases get_set hq with⟨rfl,rfl⟩|⟨hne,hq⟩
  ·rcases get_set ht with⟨-,rfl⟩|⟨hne,-⟩
   ·exact hst
   ·exact absurd rfl hne
  ·rw [List.getElem?_set_ne hne] at ht
   exact(h.sts j q t hq ht).chg hc fun g hg=>h.apart hq hp ht hs (Ne.symm hne) hg
 ·rcases get_set hq with⟨rfl,rfl⟩|⟨hne1,hq⟩
  ·rw [List.getElem?_set_ne hne] at hr
   obtain⟨t,ht⟩:=getA j r hr
   rcases hdv g hg with h1|h1
   ·exact h.dis k j p r hp hr hne g h1
   ·intro h2
    have:=fresh j r t hr ht g h2
    omega
  ·rcases get_set hr with⟨rfl,rfl⟩|⟨hne2,hr⟩
   ·intro h2
    obtain⟨t,ht⟩:=getA i q hq
    rcases hdv g h2 with h1|h1
    ·exact h.dis i k q p hq hp hne g hg h1
    ·have:=fresh i q t hq ht g hg
     omega
   ·exact h.dis i j q r hq hr hne g hg
 ·obtain ⟨M,h1,h2,h3⟩:=h.by_.2
  refine⟨M,h1.chg hc (hsp.notMap h1.isMap),fun j q t hq ht=>?_,fun x hx=>h3 x fun hh=>hx ?_⟩
  ·rcases get_set hq with⟨rfl,rfl⟩|⟨hne,hq⟩
   ·rcases get_set ht with⟨-,rfl⟩|⟨hne,-⟩
    ·rw [hid];exact h2 k p s hp hs
    ·exact absurd rfl hne
   ·rw [List.getElem?_set_ne hne] at ht
    exact h2 j q t hq ht
  ·obtain ⟨t,ht,hti⟩:=hh
   obtain⟨j,hj⟩:=List.mem_iff_getElem?.1 ht
   by_cases e:k=j
   ·subst e
    rw[hs] at hj
    obtain rfl:=Option.some.inj hj
    exact⟨s',mem_set_self hs,hid.trans hti⟩
   ·exact ⟨t,List.mem_iff_getElem?.2 ⟨j,by rw[List.getElem?_set_ne e];exact hj⟩,hti⟩
 ·obtain ⟨M,h1,h2⟩:=h.bz.2
  exact⟨M,h1.chg hc (hsp.notMap h1.isMap),h2⟩
theorem AuIn.zmono {Z':Int→Prop} (h:AuIn w B bA bY bZ ov tv os n A Z bs) (hz:∀x,Z x↔Z' x):AuIn w B bA bY bZ ov tv os n A Z' bs:=
 ⟨h.row,h.hB,h.obs,h.txs,h.len,h.sts,h.nod,h.dis,h.by_,⟨h.bz.1,let ⟨M,h1,h2⟩:=h.bz.2;⟨M,h1,fun x hx=>h2.1 x fun e=>hx ((hz x).1 e),fun x hx=>h2.2 x ((hz x).2 hx)⟩⟩,h.ne⟩
end
end
section
attribute [local irreducible] wpL
def MvRet (w:World) (B:Nat) (p:Nat×Value) (s':St) (e:Ending) (w':World):Prop:=e=.returned .nilIface∧∃dv,StAt w' B (p.1,dv) s'∧Chg (stS p) w w'∧∀g,dv.ownBlock=some g→p.2.ownBlock=some g∨w.heap.size≤g
theorem StAt.own {w w':World} {B p:Nat} {dv:Value} {s s':St} (h:StAt w B (p,dv) s) (hc:Chg (fun k=>k=p) w w') (hr:w'.heap[p]?=some (.cells (stCs s' dv).toArray 179 (0,0))) (hd:s'.deeds=s.deeds):∃dv',StAt w' B (p,dv') s'∧Chg (stS (p,dv)) w w'∧∀g,dv'.ownBlock=some g→dv.ownBlock=some g∨w.heap.size≤g:=by
 refine⟨dv,⟨hr,h.hB,?_⟩,hc.mono fun j hj=>.inl hj,fun g hg=>.inl hg⟩
 rw[hd]
 refine OwnF.chg h.dds hc fun g hg hk=>?_
 obtain⟨cs,fz,hh⟩:=OwnF.typ h.dds hg
 rw[hk,h.row] at hh
 simp at hh
section
variable {w:World} {B p:Nat} {dv:Value} {s:St}
theorem mv_can (xk xx xh xj xo xy xv xr:Int) (n:Nat) (h:StAt w B (p,dv) s):
  Calls Tryz.prog 176 #[.pointer (some ⟨p,0,none⟩),evV ⟨xk,xx,xh,xj,xo,xy,xv,xr⟩,.int .i64 n] w (MvRet w B (p,dv) (canS s)):=by
 have l0:=row_lt h.row
 have H:=hid h
 have r0:=h.row
 have y:=row_cell r0
 have y0:=y 0
 have y1:=y 1
 have y2:=y 2
 have y3:=y 3
 have y4:=y 4
 have y5:=y 5
 have y6:=y 6
 have y7:=y 7
 simp[stCs] at y0 y1 y2 y3 y4 y5 y6 y7
 have yf:∀j,w.frozen? ⟨p,j,none⟩=false:=fun j=>row_free r0 j
 have R0:=hid r0
 clear y h r0
 go_enter Tryz.func176,Tryz.ntmps176
 go_wp2
 go_ret
 have r1:=row_set R0.out 7 (.int .i64 4)
 have rz:=row_old (o:=.cells #[.int .i64 xk,.int .i64 xx,.int .i64 xh,.int .i64 xj,.int .i64 xo,.int .i64 xy,.int .i64 xv,.int .i64 xr] 69) r1
 exact⟨rfl,H.out.own (s':=(canS s)) (((Chg.refl (S:=fun k=>k=p) w).set (g:=p) (j:=7) rfl (v:=.int .i64 4)).alloc _) rz rfl⟩
theorem mv_try (xk xx xh xj xo xy xv xr:Int) (n:Nat) (h:StAt w B (p,dv) s):
  Calls Tryz.prog 175 #[.pointer (some ⟨p,0,none⟩),evV ⟨xk,xx,xh,xj,xo,xy,xv,xr⟩,.int .i64 n] w (MvRet w B (p,dv) (tryS n s)):=by
 have l0:=row_lt h.row
 have H:=hid h
 have r0:=h.row
 have y:=row_cell r0
 have y0:=y 0
 have y1:=y 1
 have y2:=y 2
 have y3:=y 3
 have y4:=y 4
 have y5:=y 5
 have y6:=y 6
 have y7:=y 7
 simp[stCs] at y0 y1 y2 y3 y4 y5 y6 y7
 have yf:∀j,w.frozen? ⟨p,j,none⟩=false:=fun j=>row_free r0 j
 have R0:=hid r0
 clear y h r0
 go_enter Tryz.func175,Tryz.ntmps175
 go_wp2
 go_ret
 have r1:=row_set R0.out 7 (.int .i64 3)
 have r2:=row_set r1 5 (.int .i64 n)
 have r3:=row_set r2 2 (.int .i64 2)
 have rz:=row_old (o:=.cells #[.int .i64 xk,.int .i64 xx,.int .i64 xh,.int .i64 xj,.int .i64 xo,.int .i64 xy,.int .i64 xv,.int .i64 xr] 69) r3
 exact⟨rfl,H.out.own (s':=(tryS n s)) (((((Chg.refl (S:=fun k=>k=p) w).set (g:=p) (j:=7) rfl (v:=.int .i64 3)).set (g:=p) (j:=5) rfl (v:=.int .i64 n)).set (g:=p) (j:=2) rfl (v:=.int .i64 2)).alloc _) rz rfl⟩
theorem mv_end (xk xx xh xj xo xy xv xr:Int) (n:Nat) (c:Nat) (st:Int) (hc:w.heap[c]?=some (.cells #[.int .i64 st] 3 (0,0))) (hcp:c≠p) (h:StAt w B (p,dv) s):
  Calls Tryz.prog 171 #[.pointer (some ⟨p,0,none⟩),evV ⟨xk,xx,xh,xj,xo,xy,xv,xr⟩,.int .i64 n,.pointer (some ⟨c,0,none⟩)] w (MvRet w B (p,dv) (endS st n s)):=by
 have l0:=row_lt h.row
 have H:=hid h
 have r0:=h.row
 have y:=row_cell r0
 have y0:=y 0
 have y1:=y 1
 have y2:=y 2
 have y3:=y 3
 have y4:=y 4
 have y5:=y 5
 have y6:=y 6
 have y7:=y 7
 simp[stCs] at y0 y1 y2 y3 y4 y5 y6 y7
 have yf:∀j,w.frozen? ⟨p,j,none⟩=false:=fun j=>row_free r0 j
 have R0:=hid r0
 clear y h r0
 have hc0:=row_cell hc 0
 have lc:=row_lt hc
 simp at hc0
 clear hc
 go_enter Tryz.func171,Tryz.ntmps171
 go_wp2_with fail
 obtain⟨W,hW⟩:∃W,W=w.alloc (.cells #[.int .i64 xk,.int .i64 xx,.int .i64 xh,.int .i64 xj,.int .i64 xo,.int .i64 xy,.int .i64 xv,.int .i64 xr] 69):=⟨_,rfl⟩
 have bW:Below w.heap.size w W:=by rw[hW];exact(Below.refl _ w).alloc (Nat.le_refl _) _
 rw[←hW]
 have r1:=row_below R0.out bW l0
 clear y0 y1 y2 y3 y4 y5 y6 y7 yf
 have y:=row_cell r1
 have y0:=y 0
 have y1:=y 1
 have y2:=y 2
 have y3:=y 3
 have y4:=y 4
 have y5:=y 5
 have y6:=y 6
 have y7:=y 7
 simp[stCs] at y0 y1 y2 y3 y4 y5 y6 y7
 have yf:∀j,W.frozen? ⟨p,j,none⟩=false:=fun j=>row_free r1 j
 have l1:=row_lt r1
 have lcW:w.heap.size≤W.heap.size:=bW.size
 have hc0:=cell_below bW lc hc0
 have lc1:c < W.heap.size:=by omega
 have R1:=hid r1
 have BW:=hid bW
 clear y r1 bW hW
 refine wp_rK (fun k=>k=c) [0,0,0,0,1,0,0,3,0,0,0,3,0,0,0,3] (.fin [0,1,2,3,4,5,6,7,8,9,10,11,12,13,14,15]) (by kernel_rfl) ?_
 simp only[wpT,selX,guardAt,sD,sE,sF,sG]
 repeat first|(refine wpL_p fun K hK=>?_;go_simp;refine hK _ _ ?_;clear hK K)|(apply wpL_s;(intro w2 hw2;have hk1:=hw2.cell;(try simp only at hk1);have hk3:=hw2.1;clear hw2;go_simp;with_reducible rfl);simp only[Act.put,sA,sB,sC])
 refine wpL_k (fun K hK=>?_)
 go_simp
 refine hK _ _ (RK.KeepsN.set _ _ _ (fun h=>hcp h.symm)) ?_
 clear hK K
 repeat (refine wpL_p fun K hK=>?_;go_simp;refine hK _ _ ?_;clear hK K)
 refine wpL_k (fun K hK=>?_)
 go_simp
 refine hK _ _ (RK.KeepsN.set _ _ _ (fun h=>hcp h.symm)) ?_
 clear hK K
 repeat (refine wpL_p fun K hK=>?_;go_simp;refine hK _ _ ?_;clear hK K)
 refine wpL_k (fun K hK=>?_)
 go_simp
 refine hK _ _ (RK.KeepsN.set _ _ _ (fun h=>hcp h.symm)) ?_
 clear hK K
 repeat refine wpL_nil ?_
 go_wp2
 go_ret
 have r2:=row_set (row_drew R1.out) 7 (.int .i64 5)
 have r3:=row_set r2 4 (.int .i64 n)
 have r4:=row_set r3 2 (.int .i64 st)
 have hcg:Chg (fun k=>k=p) w W.drew:=(Chg.of_below BW.out).drew
 exact⟨rfl,H.out.own (s':=endS st n s) (((hcg.set (g:=p) (j:=7) rfl (v:=.int .i64 5)).set (g:=p) (j:=4) rfl (v:=.int .i64 n)).set (g:=p) (j:=2) rfl (v:=.int .i64 st)) r4 rfl⟩
end
end
section
attribute [local irreducible] wpL
theorem s_Index (v:Value) (l:List Int) (x:Int) (j:Nat) (w:World) (h:Sl w w.heap.size 1 v l.length (l.map (.int .i64))) (hj:l[j]?=some x) (hn:∀i:Nat,i < j→l[i]?≠some x):
  Calls Tryz.prog 177 #[v,.int .i64 x] w fun e w'=>e=.returned (.int .i64 j)∧w'=w:=by
 obtain⟨a,c,rfl,hm⟩:=h.ex
 have hl:=(List.getElem?_eq_some_iff.1 hj).1
 have H:=hid h
 have HJ:=hid hj
 have HN:=hid hn
 clear h hj hn
 go_enter Tryz.func177,Tryz.ntmps177
 go_wp2_with fail
 obtain⟨W,rfl⟩:∃W,W=w:=⟨_,rfl⟩
 go_loopw [8] (fun p wr=>∃i:Nat,i≤j∧p=.int .i64 i∧wr=W) (fun p _=>j - (intOf p).toNat)
 case atStart=>exact⟨0,by omega,by go_num,rfl⟩
 case round=>
  obtain⟨i,hi,rfl,rfl⟩:=hrel
  have hil:i < l.length:=by omega
  obtain⟨b,off,u,hat,hb,hx,hc⟩:=H.out.at1 hil
  subst hat
  have hx2:∃y,l[i]?=some y∧u=.int .i64 y:=by
   rw[List.getElem?_map] at hx
   cases hy:l[i]? with
   |none=>rw[hy] at hx;cases hx
   |some y=>rw[hy] at hx;exact⟨y,rfl,by simpa using hx.symm⟩
  obtain⟨y,hy,rfl⟩:=hx2
  clear hx
  by_cases hij:i=j
  ·subst hij
   have e1:y=x:=by rw[HJ.out] at hy;exact(Option.some.inj hy).symm
   subst e1
   clear hy
   go_wp2
   go_ret
   exact⟨rfl,rfl⟩
  ·have e1:(x==y)=false:=by
    have:=HN.out i (by omega)
    rw[hy] at this
    simp only[ne_eq,Option.some.injEq] at this
    simp;omega
   clear hy
   go_wp2_with fail
   go_roundw
   case rel=>exact⟨i+1,by omega,by go_num,trivial⟩
   case measure=>simp[intOf];omega
theorem first_at (l:List Int) (x:Int) (h:x ∈ l):∃j:Nat,l[j]?=some x∧∀i:Nat,i < j→l[i]?≠some x:=by
 induction l with
 |nil=>cases h
 |cons y l ih=>
  by_cases e:y=x
  ·subst e
   exact⟨0,rfl,fun i hi=>by omega⟩
  ·have:x ∈ l:=by
    rcases List.mem_cons.1 h with h|h
    ·exact absurd h.symm e
    ·exact h
   obtain⟨j,h1,h2⟩:=ih this
   refine⟨j+1,by simpa using h1,fun i hi=>?_⟩
   cases i with
   |zero=>simpa using e
   |succ i=>simpa using h2 i (by omega)
theorem s_Contains (v:Value) (l:List Int) (x:Int) (w:World) (h:Sl w w.heap.size 1 v l.length (l.map (.int .i64))) (hx:x ∈ l):
  Calls Tryz.prog 129 #[v,.int .i64 x] w fun e w'=>e=.returned (.bool true)∧w'=w:=by
 obtain⟨a,c,rfl,hm⟩:=h.ex
 obtain⟨j,h1,h2⟩:=first_at l x hx
 have hl:=(List.getElem?_eq_some_iff.1 h1).1
 have hi:=hid (s_Index _ l x j w h h1 h2)
 clear h h1 h2 hx
 have q:decide ((j:Int)≥0)=true:=by simp
 have q2:decide (0≤(j:Int))=true:=by simp
 go_enter Tryz.func129,Tryz.ntmps129
 go_wp2_with fail
 refine hi.out.mono ?_
 rintro e w1 ⟨rfl,rfl⟩
 go_wp2
 go_ret
 exact⟨rfl,rfl⟩
end
