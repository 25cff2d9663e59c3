/- Parts of the proof; the first: The premise of the fast way, its answer, its versions: plain lists, and the chain's. Conditions: those of each theorem, as typed. -/
import Derived.Test.YtcpfbphcldocpaaGreatDoorQC20
import Derived.Test.YtcpfbphcldocpaaGreatDoorQC16
import Derived.Test.YtcpfbphcldocpaaGreatDoorQC21
import Derived.Test.YtcpfbphcldocpaaGreatDoorQC22
import Derived.Test.YtcpfbphcldocpaaGreatDoorQC17
import Derived.Test.YtcpfbphcldocpaaGreatDoorQC12
import Derived.Test.YtcpfbphcldocpaaGreatDoorQC13
import Derived.Test.YtcpfbphcldocpaaGreatDoorQC04
set_option linter.unusedVariables false
set_option linter.unusedSimpArgs false
set_option linter.unusedSectionVars false
set_option maxRecDepth 100000
set_option maxHeartbeats 4000000
namespace Go.Proofs.YtcpfbphcldocpaaGreatDoor
open Go.Maps Go.RowKit
def Mj (lev:Int) (inits:List Int) (A:Au) (T:List Bool) (i:Nat):Option (Int×Nat):=match A[i]? with
 |some s=>if qZ lev T i then(xF inits A T i (yG s) 0 [] s.deeds).map fun k=>(s.id,k) else none
 |none=>none
def Ja (lev:Int) (inits:List Int) (A:Au) (T:List Bool):Option (Int×Nat):=(List.range A.length).findSome? (Mj lev inits A T)
def ZY (A:Au) (T:List Bool) (x:Int):Bool:=(List.range A.length).any fun i=>match A[i]? with
 |some s=>decide (s.id=x)&&T.getD i false
 |none=>false
def VT (lev:Int) (A:Au) (T:List Bool):List (Int×Bool):=(List.range A.length).filterMap fun i=>match A[i]? with
 |some s=>if Mh lev s&&!qZ lev T i then some (s.id,false) else none
 |none=>none
def XM (lev:Int) (A:Au) (T:List Bool) (ord:List Int):List (Int×Bool):=(ord.map fun x=>(x,ZY A T x))++VT lev A T
structure WW where
 kind:Int
 steps:List (Int×Bool)
 pre:Int
 tx:Int
 deed:Int
 cyc:List Int
def yB (lev:Int) (inits:List Int) (A:Au) (a:WW):Prop:=match Ja lev inits A (qT lev A) with
 |some (x,k)=>a=⟨2,[],0,x,k,[]⟩
 |none=>match uq (xG (qR lev A (qT lev A)).2) (qR lev A (qT lev A)).1 with
  |some ord=>a=⟨1,XM lev A (qT lev A) ord,0,0,0,[]⟩
  |none=>∃c,IsCyc (xG (qR lev A (qT lev A)).2) (qR lev A (qT lev A)).1 c/\a=⟨3,[],0,0,0,c⟩
def uc (A:Au) (T:List Bool) (o:Int):List Nat:=(List.range A.length).filter fun i=>T.getD i false&&(match A[i]? with
 |some s=>(fnd o (zb s)).isSome
 |none=>false)
def Zp (A:Au) (o v:Int) (left:List Nat):List Nat:=left.filter fun i=>match A[i]? with
 |some s=>fnd o (yG s)==some v
 |none=>false
def wrV (A:Au) (o:Int) (i:Nat):Int:=match A[i]? with
 |some s=>(fnd o (zb s)).getD 0
 |none=>0
def zH (A:Au) (o:Int):Nat->List Nat->List Int->List Int×Bool
 |0,_,out=>(out,true)
 |_+1,[],out=>(out,true)
 |n+1,l,out=>match Zp A o (out.getLastD 0) l with
  |[i]=>zH A o n (l.filter (· !=i)) (out++[wrV A o i])
  |_=>(out,false)
def jQ (lev:Int) (inits:List Int) (A:Au) (o:Int):List Int×Bool:=zH A o ((uc A (qT lev A) o).length+1) (uc A (qT lev A) o) [inits.getD o.toNat 0]
section
attribute [local irreducible] xL
theorem KK {α:Type} {f:Nat->Option α} {n k:Nat} {b:α} (hk:k < n) (h1:f k=some b) (h2:(List.range k).findSome? f=none):(List.range n).findSome? f=some b:=by
 obtain⟨d,rfl⟩:∃d,n=k+(d+1):=⟨n - k - 1,by omega⟩
 rw[List.range_add,List.findSome?_append,h2,List.range_succ_eq_map];simp[h1]
theorem Uv {α:Type} {f:Nat->Option α} {k:Nat} (h1:f k=none) (h2:(List.range k).findSome? f=none):(List.range (k+1)).findSome? f=none:=by
 rw[List.range_succ,List.findSome?_append,h2];simp[h1]
theorem any_snoc {f:Nat->Bool} {k:Nat}:(List.range (k+1)).any f=((List.range k).any f||f k):=by
 rw[List.range_succ,List.any_append];simp
theorem YY {P:List Pr} {N:List Int}:∀{m:Nat} {out l:List Int},zI P N m out=some l->l.length=out.length+m
 |0,out,l,h=>by simp only[zI,Option.some.injEq] at h;subst h;rfl
 |m+1,out,l,h=>by
  unfold zI at h;cases e:Qw P N out with
  |none=>rw[e] at h;cases h
  |some x=>rw[e] at h;have:=YY h;simp at this;omega
theorem Nj {P:List Pr} {N l:List Int} (h:uq P N=some l):l.length=N.length:=by have:=YY h;simpa using this
def uz (A:Au) (T:List Bool):Nat->Int->Option Value
 |0=>fun _=>none
 |k+1=>match A[k]? with
  |some s=>UN (uz A T k) s.id (some (.bool (T.getD k false)))
  |none=>uz A T k
theorem ZX {A:Au} {T:List Bool} (hnd:(A.map (·.id)).Nodup) (x:Int):∀{k:Nat},k<=A.length->(uz A T k x).getD (.bool false)=.bool ((List.range k).any fun i=>match A[i]? with
  |some s=>decide (s.id=x)&&T.getD i false
  |none=>false)
 |0,_=>rfl
 |k+1,hk=>by
  have hg:A[k]?=some A[k]:=List.getElem?_eq_getElem (by omega);have ih:=ZX (T:=T) hnd x (k:=k) (by omega);rw[any_snoc];unfold uz;rw[hg];simp only;by_cases e:x=A[k].id
  ·subst e
   rw[xD];have h0:((List.range k).any fun i=>match A[i]? with
     |some s=>decide (s.id=A[k].id)&&T.getD i false
     |none=>false)=false:=by
    rw[List.any_eq_false];intro i hi;have hi:=List.mem_range.1 hi;rw[List.getElem?_eq_getElem (show i < A.length by omega)];simp only;have hne:A[i].id≠A[k].id:=fun e=>by
     have h1:(A.map (·.id))[i]'(by simp;omega)=(A.map (·.id))[k]'(by simp;omega):=by simpa using e
     have h2:(A.map (·.id))[i]?=(A.map (·.id))[k]?:=by
      rw[List.getElem?_eq_getElem (by simp;omega),List.getElem?_eq_getElem (by simp;omega),h1]
     have:=(List.getElem?_inj (by simp;omega) hnd (j:=k)).1 h2;omega
    simp[hne]
   rw[h0];simp
  ·rw [qV e,ih]
   have:decide (A[k].id=x)=false:=by simpa using fun h=>e h.symm
   rw[this];simp
def Yn (lev:Int) (A:Au) (T:List Bool) (k:Nat):List (Int×Bool):=(List.range k).filterMap (fun i=>match A[i]? with
 |some s=>if Mh lev s&&!qZ lev T i then some (s.id,false) else none
 |none=>none)
theorem Kj {lev:Int} {A:Au} {T:List Bool} {k:Nat} {s:St} (h:A[k]?=some s):Yn lev A T (k+1)=Yn lev A T k++(if Mh lev s&&!qZ lev T k then[(s.id,false)] else[]):=by
 unfold Yn;rw[List.range_succ,List.filterMap_append];congr 1;rw[List.filterMap_cons,h];simp only;cases (Mh lev s&&!qZ lev T k) <;> rfl
theorem Nr {lev:Int} {A:Au} {T:List Bool} {k:Nat}:(Yn lev A T k).length<=k:=by
 unfold Yn;refine Nat.le_trans (List.length_filterMap_le _ _) (by simp)
def uR (a:WW) (vs vc:Value):Value:=.agg #[.int .i64 a.kind,vs,.slice none 0 0,.int .i64 a.pre,.int .i64 a.tx,.int .i64 a.deed,vc]
def UE (w:World) (B:Nat) (vs vc:Value) (a:WW):Prop:=qj vL 87 2 w B vs a.steps/\yF w B vc a.cyc
section
variable {w:World} {lo hi pW bB:Nat} {lev:Int} {ov vv lv:Value} {ms:List xz} {A:Au} {T:List Bool} {os:List Ob}
theorem RD (h:xN w lo hi pW bB lev ov vv ms lv A (qT lev A)) (ho:Sl w w.heap.size 2 ov os.length (os.flatMap Ob.cells)) (hvv:∃x y z,vv=.slice x y z) (hD:JE os A) (hd:vB A) (hal:A.length<=200) (hnd:(A.map (·.id)).Nodup) (hlv:lev=1\/lev=2\/lev=3) (hhi:hi<=w.heap.size):
  Calls Tryz.prog 32 #[.pointer (some ⟨pW,0,none⟩)] w fun e w'=>∃a vs vc,e=.returned (uR a vs vc)/\yB lev (os.map (·.init)) A a/\UE w' w.heap.size vs vc a/\Below w.heap.size w w':=by
 obtain⟨ao,co,hov,mo⟩:=ho.ex;have HOV:=qd (show ∃x y z,ov=.slice x y z from⟨_,_,_,hov⟩);have HVV:=qd hvv;obtain⟨al,cl,hlv0⟩:=qj.sli h.lst;subst hlv0;obtain⟨T,hT⟩:∃T,qT lev A=T:=⟨_,rfl⟩
 rw[hT] at h;have HT:=qd hT;have HH:=qd h;have HO:=qd ho;have HD:=qd hD;have HMD:=qd hd;have HND:=qd hnd;have HLV:=qd hlv;have hml:ms.length=A.length:=h.len;have hml2:ms.length<=200:=by omega
 have HML:=qd hml;have hmm:=@run_makeMap Tryz.prog;have b0:Below w.heap.size w (w.alloc (.cells #[.int .i64 0,.slice none 0 0,.slice none 0 0,.int .i64 0,.int .i64 0,.int .i64 0,.slice none 0 0] 32)):=(Below.refl _ w).alloc (Nat.le_refl _) _;have B0:=qd b0;have R0:=qd (qs w (.cells #[.int .i64 0,.slice none 0 0,.slice none 0 0,.int .i64 0,.int .i64 0,.int .i64 0,.slice none 0 0] 32));have F0:=qd (h.below b0 hhi (Nat.le_refl _));have hz0:w.heap.size < (w.alloc (.cells #[.int .i64 0,.slice none 0 0,.slice none 0 0,.int .i64 0,.int .i64 0,.int .i64 0,.slice none 0 0] 32)).heap.size:=by simp
 have yq:=qa h.row 3;simp at yq;have yql:=qe h.row;clear h ho hvv hD hd hnd hlv hov mo hml hT b0;go_enter Tryz.func32,Tryz.ntmps32;go_wp2_with fail;generalize w.alloc (.cells #[.int .i64 0,.slice none 0 0,.slice none 0 0,.int .i64 0,.int .i64 0,.int .i64 0,.slice none 0 0] 32)=W at *
 go_loopw [23] (fun q wr=>∃(k:Nat),k<=ms.length/\q=.int .i64 k/\(List.range k).findSome? (Mj lev (os.map (·.init)) A T)=none/\xN wr lo hi pW bB lev ov vv ms (.slice al ms.length cl) A T/\wr.heap[w.heap.size]?=some (.cells #[.int .i64 0,.slice none 0 0,.slice none 0 0,.int .i64 0,.int .i64 0,.int .i64 0,.slice none 0 0] 32 (0,0))/\Below w.heap.size w wr) (fun q _=>ms.length - (intOf q).toNat)
 case atStart=>exact⟨0,by omega,by go_num,rfl,F0.o,R0.o,B0.o⟩
 case round=>
  obtain⟨k,hk,rfl,hno,hF,hR,hB⟩:=hrel;have HNO:=qd hno;have HF:=qd hF;have HR:=qd hR;have HB:=qd hB;have hwz:=hB.size;clear hno hF hR hB F0 R0 B0 hz0 yq yql W;by_cases hlt:k < ms.length
  ·obtain ⟨bl,ol,m,hqe,hbl,hmk,hcl⟩:=(qj.sl HF.o.lst).atF xz.len rfl hlt
   subst hqe;have c0:wr.cell? ⟨bl,ol+k,none⟩=some (.pointer (some ⟨m.p,0,none⟩)):=by have:=hcl 0 (by decide);simpa[xz.cells,xE] using this
   obtain⟨m0,s,g1,hsk,hMv⟩:=HF.o.get (k:=k) (by have:=HML.o;omega);rw[hmk] at g1;obtain rfl:=Option.some.inj g1;have HMK:=qd hmk;have HSK:=qd hsk;have ym:=qa hMv.row;have ym9:=ym 9;simp at ym9;have yml:=qe hMv.row;obtain⟨lk,hlk⟩:∃lk,qZ lev T k=lk:=⟨_,rfl⟩
   rw[hlk] at ym9;have HLK:=qd hlk;clear hmk hsk hMv ym hcl hlk;cases lk with
   |false=>
    go_wp2_with fail;go_roundw
    case rel=>exact⟨k+1,by omega,by go_num,Uv (by unfold Mj;rw[HSK.o];simp only[HLK.o,Bool.false_eq_true,if_false]) HNO.o,HF.o,HR.o,HB.o⟩
    case measure=>simp[intOf];omega
   |true=>
    have EC:=qd (f_expl HF.o ((HO.o.below HB.o).more hwz) HVV.o HD.o HMK.o HSK.o (by omega));go_wp2_with fail;refine(EC.o).mono ?_;rintro e W4 ⟨he,b4⟩;have HBD:=qd (show Mj lev (os.map (·.init)) A T k=(xF (os.map (·.init)) A T k (yG s) 0 [] s.deeds).map fun x=>(s.id,x) by unfold Mj;rw[HSK.o];simp only[HLK.o,if_true]);obtain⟨R,hRe⟩:∃R,xF (os.map (·.init)) A T k (yG s) 0 [] s.deeds=R:=⟨_,rfl⟩
    rw[hRe] at he HBD;have F4:=qd (HF.o.below b4 (by omega) (Nat.le_refl _));have R4:=qd (qh HR.o b4 (qe HR.o));have B4:=qd (HB.o.trans (b4.mono hwz));clear b4 EC HF HR HB hRe;cases R with
    |none=>
     unfold Vm at he;subst he;go_wp2_with fail;go_roundw
     case rel=>exact⟨k+1,by omega,by go_num,Uv (by rw[HBD.o];rfl) HNO.o,F4.o,R4.o,B4.o⟩
     case measure=>simp[intOf];omega
    |some x=>
     unfold Vm at he;simp only at he;subst he;have HBF:=qd (show Ja lev (os.map (·.init)) A T=some (s.id,x) by unfold Ja;exact KK (by have:=HML.o;omega) (by rw[HBD.o];rfl) HNO.o);have rm:=(F4.o.mv k m s HMK.o HSK.o).row;have ym0:=qa rm 0;simp at ym0;have yml4:=qe rm;have yr:=qa R4.o;have yr0:=yr 0;have yr1:=yr 1;have yr2:=yr 2;have yr3:=yr 3;have yr4:=yr 4;have yr5:=yr 5;have yr6:=yr 6;simp at yr0 yr1 yr2 yr3 yr4 yr5 yr6;have yrf:=fun o=>qt R4.o o;have yrl:=qe R4.o;clear rm yr ym9 yml c0;go_wp2_with fail;have RF:=qn (qn (qn (qn (qn (qn (qn R4.o 0 (.int .i64 2)) 1 (.slice none 0 0)) 2 (.slice none 0 0)) 3 (.int .i64 0)) 4 (.int .i64 s.id)) 5 (.int .i64 x)) 6 (.slice none 0 0);have hB9:=qd (((((((B4.o.setCell (p:=⟨w.heap.size,0,none⟩) (Nat.le_refl _) (.int .i64 2)).setCell (p:=⟨w.heap.size,1,none⟩) (Nat.le_refl _) (.slice none 0 0)).setCell (p:=⟨w.heap.size,2,none⟩) (Nat.le_refl _) (.slice none 0 0)).setCell (p:=⟨w.heap.size,3,none⟩) (Nat.le_refl _) (.int .i64 0)).setCell (p:=⟨w.heap.size,4,none⟩) (Nat.le_refl _) (.int .i64 s.id)).setCell (p:=⟨w.heap.size,5,none⟩) (Nat.le_refl _) (.int .i64 x)).setCell (p:=⟨w.heap.size,6,none⟩) (Nat.le_refl _) (.slice none 0 0));have c0:=qa RF 0;have c1:=qa RF 1;have c2:=qa RF 2;have c3:=qa RF 3;have c4:=qa RF 4;have c5:=qa RF 5;have c6:=qa RF 6;simp only[Array.set!,Array.setIfInBounds,List.getElem?_toArray,List.getElem?_cons_zero,List.getElem?_cons_succ] at c0 c1 c2 c3 c4 c5 c6;simp at c0 c1 c2 c3 c4 c5 c6;refine bodyPost_ret (v:=uR ⟨2,[],0,s.id,x,[]⟩ (.slice none 0 0) (.slice none 0 0)) (by simp[results,Tryz.results32,go_sem,uR,c0,c1,c2,c3,c4,c5,c6]) rfl ?_;refine⟨⟨2,[],0,s.id,x,[]⟩,_,_,rfl,?_,⟨qj.nil _ _,qj.nil _ _⟩,hB9.o⟩;unfold yB;rw[HT.o,HBF.o]
  ·obtain rfl:k=ms.length:=by omega
   have hq:decide ((ms.length:Int) < (ms.length:Int))=false:=by simp
   have HBF:=qd (show Ja lev (os.map (·.init)) A T=none by unfold Ja;rw[←HML.o];exact HNO.o);have GC:=qd (f_graph HF.o HOV.o HVV.o HMD.o HD.o.id hal (by omega));go_wp2_with fail;refine(GC.o).mono ?_;rintro e W4 ⟨pg,rfl,hg4,b4⟩;have F4:=qd (HF.o.below b4 (by omega) (Nat.le_refl _));have R4:=qd (qh HR.o b4 (qe HR.o));have B4:=qd (HB.o.trans (b4.mono hwz));have hNl:(qR lev A T).1.length<=900000/\(qR lev A T).2.length<=900000:=KI hal;have G4:=qd hg4;have TC:=qd (gr_topo hg4 (Nat.le_refl _) hNl.1 hNl.2);have hz4:=b4.size;clear b4 hg4 GC HF HR HB;go_wp2_with fail;refine(TC.o).mono ?_;rintro e W5 ⟨vo,o,rfl,ho5,hot,b5⟩;cases o with
   |none=>
    simp only[Option.isSome_none];have CC:=qd (gr_cycle (w:=W5) (G4.o.below b5 (Nat.le_refl _)) b5.size hNl.1 hNl.2);have R5:=qd (qh R4.o b5 (qe R4.o));have B5:=qd (B4.o.trans (b5.mono (by omega)));have HOT:=qd hot;have hz5:=b5.size;clear ho5 hot b5 TC G4 F4 R4 B4;go_wp2_with fail;refine(CC.o).mono ?_;rintro e W6 ⟨v,c,rfl,hv,hcy,b6⟩;have R6:=qd (qh R5.o b6 (qe R5.o));have yr:=qa R6.o;have yr0:=yr 0;have yr1:=yr 1;have yr2:=yr 2;have yr3:=yr 3;have yr4:=yr 4;have yr5:=yr 5;have yr6:=yr 6;simp at yr0 yr1 yr2 yr3 yr4 yr5 yr6;have yrf:=fun o=>qt R6.o o;have yrl:=qe R6.o;have HV6:=qd hv;have HCY:=qd hcy;have B6:=qd (B5.o.trans (b6.mono (by omega)));obtain⟨av,cv,hvq⟩:=qj.sli hv;subst hvq;clear yr hv hcy b6;go_wp2_with fail;have RF:=qn (qn (qn (qn (qn (qn (qn R6.o 0 (.int .i64 3)) 1 (.slice none 0 0)) 2 (.slice none 0 0)) 3 (.int .i64 0)) 4 (.int .i64 0)) 5 (.int .i64 0)) 6 (.slice av c.length cv);have hB9:=qd (((((((B6.o.setCell (p:=⟨w.heap.size,0,none⟩) (Nat.le_refl _) (.int .i64 3)).setCell (p:=⟨w.heap.size,1,none⟩) (Nat.le_refl _) (.slice none 0 0)).setCell (p:=⟨w.heap.size,2,none⟩) (Nat.le_refl _) (.slice none 0 0)).setCell (p:=⟨w.heap.size,3,none⟩) (Nat.le_refl _) (.int .i64 0)).setCell (p:=⟨w.heap.size,4,none⟩) (Nat.le_refl _) (.int .i64 0)).setCell (p:=⟨w.heap.size,5,none⟩) (Nat.le_refl _) (.int .i64 0)).setCell (p:=⟨w.heap.size,6,none⟩) (Nat.le_refl _) (.slice av c.length cv));have c0:=qa RF 0;have c1:=qa RF 1;have c2:=qa RF 2;have c3:=qa RF 3;have c4:=qa RF 4;have c5:=qa RF 5;have c6:=qa RF 6;simp at c0 c1 c2 c3 c4 c5 c6;have HV9:=qd (show qj jF 3 1 ((((((((W6.setCell ⟨w.heap.size,0,none⟩ (.int .i64 3)).setCell ⟨w.heap.size,1,none⟩ (.slice none 0 0)).setCell ⟨w.heap.size,2,none⟩ (.slice none 0 0)).setCell ⟨w.heap.size,3,none⟩ (.int .i64 0)).setCell ⟨w.heap.size,4,none⟩ (.int .i64 0)).setCell ⟨w.heap.size,5,none⟩ (.int .i64 0)).setCell ⟨w.heap.size,6,none⟩ (.slice av c.length cv))) w.heap.size (.slice av c.length cv) c from by
     have hne:=qj.neT HV6.o R6.o (by decide);exact qj.base (qj.other (qj.other (qj.other (qj.other (qj.other (qj.other (qj.other HV6.o hne _) hne _) hne _) hne _) hne _) hne _) hne _) (by omega))
    refine bodyPost_ret (v:=uR ⟨3,[],0,0,0,c⟩ (.slice none 0 0) (.slice av c.length cv)) (by simp[results,Tryz.results32,go_sem,uR,c0,c1,c2,c3,c4,c5,c6]) rfl ?_;refine⟨⟨3,[],0,0,0,c⟩,_,_,rfl,?_,⟨qj.nil _ _,HV9.o⟩,hB9.o⟩;unfold yB;rw[HT.o,HBF.o,←HOT.o];exact⟨c,HCY.o,rfl⟩
   |some ord=>
    simp only[Option.isSome_some];obtain⟨ao,co,hvq⟩:=qj.sli ho5;subst hvq;simp only[Option.getD_some] at ho5 ⊢;have HOT:=qd hot;have HOO:=qd ho5;have HOL:=qd (Nj hot.symm);have F5:=qd (F4.o.below b5 (by omega) (Nat.le_refl _));have R5:=qd (qh R4.o b5 (qe R4.o));have B5:=qd (B4.o.trans (b5.mono (by omega)));have hz5:=b5.size;have HNL:=qd hNl.1;have hol9:ord.length<=900000:=by have:=HOL.o;have:=HNL.o;omega
    clear ho5 hot b5 TC G4 F4 R4 B4 hNl;have b7:=((Below.refl _ W5).alloc (Nat.le_refl _) (.cells #[.int .i64 1,.slice none 0 0,.slice none 0 0,.int .i64 0,.int .i64 0,.int .i64 0,.slice none 0 0] 32)).alloc (by simp) (.map #[] 0);have B7:=qd b7;have F7:=qd (F5.o.below b7 (by omega) (Nat.le_refl _));have RT7:=qd (qy (qs W5 (.cells #[.int .i64 1,.slice none 0 0,.slice none 0 0,.int .i64 0,.int .i64 0,.int .i64 0,.slice none 0 0] 32)) (o:=.map #[] 0));have hz7:((W5.alloc (.cells #[.int .i64 1,.slice none 0 0,.slice none 0 0,.int .i64 0,.int .i64 0,.int .i64 0,.slice none 0 0] 32)).alloc (.map #[] 0)).heap.size=W5.heap.size+1+1:=by simp
    have M7:=qd (show qL ((W5.alloc (.cells #[.int .i64 1,.slice none 0 0,.slice none 0 0,.int .i64 0,.int .i64 0,.int .i64 0,.slice none 0 0] 32)).alloc (.map #[] 0)) (W5.heap.size+1) (uz A T 0) from qL.fun (qL.made (by have:=heap_alloc_new (W5.alloc (.cells #[.int .i64 1,.slice none 0 0,.slice none 0 0,.int .i64 0,.int .i64 0,.int .i64 0,.slice none 0 0] 32)) (.map #[] 0);simpa using this)) fun _=>rfl);have yq:=qa F7.o.row 3;simp at yq;have yql:=qe F7.o.row;clear b7;go_wp2_with fail;have HZ7:=qd hz7;generalize (W5.alloc (.cells #[.int .i64 1,.slice none 0 0,.slice none 0 0,.int .i64 0,.int .i64 0,.int .i64 0,.slice none 0 0] 32)).alloc (.map #[] 0)=W7 at *;clear hz7
    go_loopw [67] (fun q wq=>∃(k:Nat),k<=ms.length/\q=.int .i64 k/\qL wq (W5.heap.size+1) (uz A T k)/\wq.heap[W5.heap.size]?=some (.cells #[.int .i64 1,.slice none 0 0,.slice none 0 0,.int .i64 0,.int .i64 0,.int .i64 0,.slice none 0 0] 32 (0,0))/\Below W5.heap.size W5 wq) (fun q _=>ms.length - (intOf q).toNat)
    case atStart=>exact⟨0,by omega,by go_num,M7.o,RT7.o,B7.o⟩
    case round=>
     obtain⟨k,hk,rfl,hM,hT,hB⟩:=hrel;have HM:=qd hM;have HTR:=qd hT;have HB:=qd hB;have HF:=qd (F5.o.below hB (by omega) (Nat.le_refl _));clear hM hT hB M7 RT7 B7 F7 HZ7 yq yql W7;by_cases hlt:k < ms.length
     ·obtain ⟨bl,ol,m,hqe,hbl,hmk,hcl⟩:=(qj.sl HF.o.lst).atF xz.len rfl hlt
      subst hqe;have c0:wr.cell? ⟨bl,ol+k,none⟩=some (.pointer (some ⟨m.p,0,none⟩)):=by have:=hcl 0 (by decide);simpa[xz.cells,xE] using this
      obtain⟨m0,s,g1,hsk,hMv⟩:=HF.o.get (k:=k) (by have:=HML.o;omega);rw[hmk] at g1;obtain rfl:=Option.some.inj g1;have HSK:=qd hsk;have hr:=hMv.row;obtain⟨tk,htk⟩:∃tk,T.getD k false=tk:=⟨_,rfl⟩
      have HTK:=qd htk;rw[htk] at hr;have ym:=qa hr;have ym0:=ym 0;have ym10:=ym 10;simp at ym0 ym10;have yml:=qe hr;clear hmk hsk hMv ym hcl hr htk;go_wp2_with fail;refine qD (wr.heap.size) [0,0,0,0,0,1,0,0,0,1,2] (.fin [0,1,2,3,4,5,6,7,8,9,10]) (by kernel_rfl) ?_;simp only[xC,qJ,qu,sD,sE,sF,sG]
      repeat first|(refine qq fun K hK=>?_;go_simp;refine hK _ _ ?_;clear hK K)|(apply qx;(intro w2 hw2;have hk1:=hw2.cell;have hk3:=hw2.1;clear hw2;go_simp;with_reducible rfl);simp only[Act.put,sA,sB,sC])
      refine qF (fun K hK=>?_);refine(qL.drew HM.o).wp_store Tryz.underlying3 Tryz.underlying102 (a:=s.id) (v:=.bool tk) (.inl rfl) (by rfl) (by rfl) (by rfl) ?_;intro w6 h6 t6;refine hK _ _ ?_;clear hK K;have M6:=qd (show qL w6 (W5.heap.size+1) (uz A T (k+1)) by unfold uz;rw[HSK.o];simp only;rw[HTK.o];exact h6);have B6:=qd ((HB.o.drew).trans (Below.turned t6 (Nat.le_succ _)));have T6:=qd (show w6.heap[W5.heap.size]?=some (.cells #[.int .i64 1,.slice none 0 0,.slice none 0 0,.int .i64 0,.int .i64 0,.int .i64 0,.slice none 0 0] 32 (0,0)) from(qA t6 (by omega)).trans HTR.o);clear h6 t6
      repeat refine qm ?_
      go_wp2_with fail;go_roundw
      case rel=>exact⟨k+1,by omega,by go_num,M6.o,T6.o,B6.o⟩
      case measure=>simp[intOf];omega
     ·obtain rfl:k=ms.length:=by omega
      have hq:decide ((ms.length:Int) < (ms.length:Int))=false:=by simp
      go_wp2_with fail;have MC:=qd (show qL wr (W5.heap.size+1) (uz A T A.length) by rw[←HML.o];exact HM.o);have RT0:=qd HTR.o;have B0':=qd HB.o
      go_loopw [84] (fun q wq=>∃(k:Nat) (vs:Value),k<=ord.length/\q=.int .i64 k/\qL wq (W5.heap.size+1) (uz A T A.length)/\wq.heap[W5.heap.size]?=some (.cells #[.int .i64 1,vs,.slice none 0 0,.int .i64 0,.int .i64 0,.int .i64 0,.slice none 0 0] 32 (0,0))/\qj vL 87 2 wq W5.heap.size vs ((ord.take k).map fun x=>(x,ZY A T x))/\Below W5.heap.size W5 wq) (fun q _=>ord.length - (intOf q).toNat)
      case atStart=>exact⟨0,_,by omega,by go_num,MC.o,RT0.o,qj.nil _ _,B0'.o⟩
      case round=>
       clear HM HTR HB HF MC RT0 B0' hq;obtain⟨k,vs,hk,rfl,hM,hT,hS,hB⟩:=hrel;have HM:=qd hM;have HTR:=qd hT;have HB:=qd hB;have HS:=qd hS;obtain⟨aS,cS,hvq⟩:=qj.sli hS;subst hvq;obtain⟨L,hL⟩:∃L,(ord.take k).map (fun x=>(x,ZY A T x))=L:=⟨_,rfl⟩
       rw[hL] at HS hS HTR hT;have HLL:=qd hL;have HLE:=qd (show L.length=k by rw[←hL];simp;omega);have hwz:=hB.size;have yr:=qa hT;have yr1:=yr 1;simp at yr1;have yrl:=qe hT;have yrf:=fun o=>qt hT o;clear hM hT hB hS hL yr;by_cases hlt:k < ord.length
       ·obtain ⟨bo,oo,x,hqe,hbo,hxk,hcl⟩:=(qj.sl HOO.o).atF Zy rfl hlt
        subst hqe;have c0:wr.cell? ⟨bo,oo+k,none⟩=some (.int .i64 x):=by have:=qp HB.o hbo (hcl 0 (by decide));simpa[jF] using this
        have hbw:bo < wr.heap.size:=by omega
        obtain⟨cx,hcx⟩:∃cx,ZY A T x=cx:=⟨_,rfl⟩
        have HCX:=qd hcx;have HXK:=qd hxk;have hlk:Sem.run Tryz.prog (Instr.lookup 102 (.map (some (W5.heap.size+1))) (.int .i64 x) false) wr=.ok (.bool cx) wr:=by
         have:=(HM.o.look Tryz.underlying3 Tryz.underlying102 (YU _) x rfl).1;rw[ZX HND.o x (Nat.le_refl _)] at this;rw[←hcx];exact this
        have hkb:L.length<=900000:=by have:=HNL.o;have:=HOL.o;have:=HLE.o;omega
        clear hcl hcx hxk;go_wp2_with (at_builtin;refine qM rfl _ _ _ rfl _ 16 Tryz.underlying28 Wt rfl HS.o (x,cx) (by first|omega|(simp <;> omega)) (by rfl) (by rfl) (by first|rfl|simp) rfl (VF _) (by first|omega|(simp only[List.length_append,List.length_cons,List.length_nil,List.length_replicate];omega)) (by first|omega|(simp only[List.length_append,List.length_cons,List.length_nil,List.length_replicate];omega)) ?_;refine qH.halt ?_)
        refine qH.go ?_;intro g8 c8 w8 o8 G8;have hne:=qj.neT HS.o HTR.o (by decide);have rt8:=qS HTR.o G8 hne;have hne8:=qj.neT o8 rt8 (by decide);have T9:=qd (qn rt8 1 (.slice (some ⟨g8,0,none⟩) (L.length+1) c8));have O9:=qd (qj.other (j:=1) o8 hne8 (.slice (some ⟨g8,0,none⟩) (L.length+1) c8));have M9:=qd (qL.set (j:=1) (HM.o.obj (G8.grown.block (W5.heap.size+1) HM.o.lt fun e=>qj.neM HS.o HM.o.isMap e.symm)) (g:=W5.heap.size) (by omega) (v:=.slice (some ⟨g8,0,none⟩) (L.length+1) c8));have B9:=qd ((HB.o.trans (G8.below hwz fun j hj=>(qj.lt HS.o j hj).1)).setCell (p:=⟨W5.heap.size,1,none⟩) (Nat.le_refl _) (.slice (some ⟨g8,0,none⟩) (L.length+1) c8));have y8l:=qe rt8;have y8:=qa rt8 1;simp at y8;have y8f:=qt rt8 1;clear rt8 o8 G8 hne hne8 yr1 yrl yrf c0 hlk;go_wp2_with fail;go_roundw
        case rel=>
         refine⟨k+1,_,by omega,by go_num,M9.o,by simpa using T9.o,?_,B9.o⟩;rw[List.take_add_one,HXK.o,List.map_append,HLL.o,Option.toList_some,List.map_cons,List.map_nil,HCX.o];exact O9.o
        case measure=>
         simp[intOf];omega
       ·obtain rfl:k=ord.length:=by omega
        have hq:decide ((ord.length:Int) < (ord.length:Int))=false:=by simp
        have HLL:=qd (show ord.map (fun x=>(x,ZY A T x))=L by have:=HLL.o;rwa [List.take_length] at this);have HF:=qd (F5.o.below HB.o (by omega) (Nat.le_refl _));have yq:=qa HF.o.row 3;simp at yq;have yql:=qe HF.o.row;go_wp2_with fail;have S0:=qd HS.o;have RT0:=qd HTR.o;have B0':=qd HB.o
        go_loopw [104] (fun q wq=>∃(k:Nat) (vs:Value),k<=ms.length/\q=.int .i64 k/\wq.heap[W5.heap.size]?=some (.cells #[.int .i64 1,vs,.slice none 0 0,.int .i64 0,.int .i64 0,.int .i64 0,.slice none 0 0] 32 (0,0))/\qj vL 87 2 wq W5.heap.size vs (L++Yn lev A T k)/\Below W5.heap.size W5 wq) (fun q _=>ms.length - (intOf q).toNat)
        case atStart=>exact⟨0,_,by omega,by go_num,RT0.o,by simpa[Yn] using S0.o,B0'.o⟩
        case round=>
         clear HM HTR HB HF S0 RT0 B0' hq yq yql yr1 yrl yrf HS;obtain⟨k,vs,hk,rfl,hT,hS,hB⟩:=hrel;have HTR:=qd hT;have HB:=qd hB;have HF:=qd (F5.o.below hB (by omega) (Nat.le_refl _));have HS:=qd hS;obtain⟨aS,cS,hvq⟩:=qj.sli hS;subst hvq;obtain⟨KL,hL⟩:∃KL,L++Yn lev A T k=KL:=⟨_,rfl⟩
         rw[hL] at HS hS HTR hT;have HKK:=qd hL;have hkl:KL.length<=901000:=by
          rw[←hL,List.length_append];have h1:=Nr (lev:=lev) (A:=A) (T:=T) (k:=k);have h2:=HNL.o;have h3:=HOL.o;have h4:=HLE.o;omega
         have hwz:=hB.size;have yr:=qa hT;have yr1:=yr 1;simp at yr1;have yrl:=qe hT;have yrf:=fun o=>qt hT o;by_cases hlt:k < ms.length
         ·obtain ⟨bl,ol,m,hqe,hbl,hmk,hcl⟩:=(qj.sl HF.o.lst).atF xz.len rfl hlt
          subst hqe;have c0:wr.cell? ⟨bl,ol+k,none⟩=some (.pointer (some ⟨m.p,0,none⟩)):=by have:=hcl 0 (by decide);simpa[xz.cells,xE] using this
          obtain⟨m0,s,g1,hsk,hMv⟩:=HF.o.get (k:=k) (by have:=HML.o;omega);rw[hmk] at g1;obtain rfl:=Option.some.inj g1;have HSK:=qd hsk;obtain⟨ad,cd,hdv⟩:=qj.sli hMv.dds;have hr:=hMv.row;unfold Rr at hr;rw[hdv] at hr;obtain⟨lk,hlk⟩:∃lk,qZ lev T k=lk:=⟨_,rfl⟩
          rw[hlk] at hr;have HLK:=qd hlk;have ym:=qa hr;have ym0:=ym 0;have ym1:=ym 1;have ym2:=ym 2;have ym3:=ym 3;have ym4:=ym 4;have ym5:=ym 5;have ym6:=ym 6;have ym9:=ym 9;simp at ym0 ym1 ym2 ym3 ym4 ym5 ym6 ym9;have yml:=qe hr;have HRW:=qd hr;have SC:=qd (Kh lev HLV.o s.id s.thread s.status s.beg s.fin s.tri ad s.deeds.length cd wr.drew);have yw:=qa HF.o.row 1;have yw2:=qa HF.o.row 2;simp at yw2;have ywl:=qe HF.o.row;clear hmk hsk hMv ym hcl hr hlk hdv hT hS hB hL yr yw;go_wp2_with fail;refine qD (wr.heap.size) [0,0,0,1,0,0,0,1,2,0,0,0,0,1,0,0] (.fin [0,1,2,3,4,5,6,7,8,9,10,11,12,13,14,15]) (by kernel_rfl) ?_;simp only[xC,qJ,qu,sD,sE,sF,sG,Option.bind_some]
          repeat first|(refine qq fun K hK=>?_;go_simp;refine hK _ _ ?_;clear hK K)|(apply qx;(intro w2 hw2;have hk1:=hw2.cell;have hk3:=hw2.1;clear hw2;go_simp;with_reducible rfl);simp only[Act.put,sA,sB,sC])
          refine qF (fun K hK=>?_);go_simp;refine(SC.o).mono ?_;rintro e W6 ⟨rfl,b6⟩;refine hK _ _ ?_;clear hK K;have hb6:Below wr.heap.size wr W6:=(Below.refl wr.heap.size wr).drew.trans b6;have B6:=qd (HB.o.trans (hb6.mono hwz));have T6:=qd (qh HTR.o hb6 (qe HTR.o));have S6:=qd (qj.below HS.o hb6);have r6:=qh HRW.o hb6 (qe HRW.o);have zm0:=qa r6 0;have zm9:=qa r6 9;simp at zm0 zm9;have zml:=qe r6;have z1:=qa T6.o 1;simp at z1;have zl:=qe T6.o;have hw6:W5.heap.size<=W6.heap.size:=B6.o.size;have HRC:=qd (Kj (lev:=lev) (T:=T) HSK.o);rw[cntd_L,HLK.o] at HRC;obtain⟨cc,hcc⟩:∃cc,cntL lev s.status=cc:=⟨_,rfl⟩
          rw[hcc] at HRC ⊢;clear b6 hb6 hcc r6 ym0 ym1 ym2 ym3 ym4 ym5 ym6 ym9 yr1 yrl yrf SC c0 yw2 ywl;cases cc with
          |false=>
           repeat first|(refine qq fun K hK=>?_;go_simp;refine hK _ _ ?_;clear hK K)|(apply qx;(intro w2 hw2;have hk1:=hw2.cell;have hk3:=hw2.1;clear hw2;go_simp;with_reducible rfl);simp only[Act.put,sA,sB,sC])|refine qz rfl rfl ?_|(refine qE rfl rfl fun K hK=>?_;simp only[Act.put,sA,sB,sC];refine hK _ _ ?_;clear hK K)|(refine qQ rfl fun K hK=>?_;simp only[Act.put,sA,sB,sC];refine hK _ _ ?_;clear hK K)|refine qm ?_
           go_wp2_with fail;go_roundw
           case rel=>exact⟨k+1,_,by omega,by go_num,T6.o,by rw[HRC.o,if_neg (by simp),←List.append_assoc,HKK.o];simpa using S6.o,B6.o⟩
           case measure=>simp[intOf];omega
          |true=>
           cases lk with
           |true=>
            repeat first|(refine qq fun K hK=>?_;go_simp;refine hK _ _ ?_;clear hK K)|(apply qx;(intro w2 hw2;have hk1:=hw2.cell;have hk3:=hw2.1;clear hw2;go_simp;with_reducible rfl);simp only[Act.put,sA,sB,sC])|refine qz rfl rfl ?_|(refine qE rfl rfl fun K hK=>?_;simp only[Act.put,sA,sB,sC];refine hK _ _ ?_;clear hK K)|(refine qQ rfl fun K hK=>?_;simp only[Act.put,sA,sB,sC];refine hK _ _ ?_;clear hK K)|refine qm ?_
            go_wp2_with fail;go_roundw
            case rel=>exact⟨k+1,_,by omega,by go_num,T6.o,by rw[HRC.o,if_neg (by simp),←List.append_assoc,HKK.o];simpa using S6.o,B6.o⟩
            case measure=>simp[intOf];omega
           |false=>
            repeat first|(refine qq fun K hK=>?_;go_simp;refine hK _ _ ?_;clear hK K)|(apply qx;(intro w2 hw2;have hk1:=hw2.cell;have hk3:=hw2.1;clear hw2;go_simp;with_reducible rfl);simp only[Act.put,sA,sB,sC])|refine qz rfl rfl ?_|(refine qE rfl rfl fun K hK=>?_;simp only[Act.put,sA,sB,sC];refine hK _ _ ?_;clear hK K)|(refine qQ rfl fun K hK=>?_;simp only[Act.put,sA,sB,sC];refine hK _ _ ?_;clear hK K)|refine qm ?_
            go_wp2_with fail;refine up [0,1,0,0,0,0,1,0,3,2,0,2] [0,1,2,3,4,5,6,7,8,9,10,11] (by kernel_rfl) ?_;simp only[qJ,qu,sD,sE,sF,sG]
            repeat first|(refine qq fun K hK=>?_;go_simp;refine hK _ _ ?_;clear hK K)|(apply qx;(intro w2 hw2;have hk1:=hw2.cell;have hk3:=hw2.heap;clear hw2;go_simp;with_reducible rfl);simp only[Act.put,sA,sB,sC])|refine qz rfl rfl ?_|(refine qE rfl rfl fun K hK=>?_;simp only[Act.put,sA,sB,sC];refine hK _ _ ?_;clear hK K)|refine qm ?_
            refine qC (fun K hK=>?_);go_simp;refine hK _ _ (jg.alloc _ _) ?_;clear hK K;refine qF (fun K' hK=>?_);rw[ZS];refine QY _ _ _ rfl _ 16 Tryz.underlying28 Wt rfl S6.o.drew (s.id,false) (by first|omega|(simp <;> omega)) (by rfl) (by rfl) (by first|rfl|simp) rfl (VF _) (by first|omega|(simp only[List.length_append,List.length_cons,List.length_nil,List.length_replicate];omega)) (by first|omega|(simp only[List.length_append,List.length_cons,List.length_nil,List.length_replicate];omega)) ?_;intro g8 c8 w8 o8 G8;have hne:=qj.neT S6.o T6.o (by decide);have rt8:=qS (zS T6.o) G8 hne;have hne8:=qj.neT o8 rt8 (by decide);have T9:=qd (qn rt8 1 (.slice (some ⟨g8,0,none⟩) (KL.length+1) c8));have O9:=qd (qj.other (j:=1) o8 hne8 (.slice (some ⟨g8,0,none⟩) (KL.length+1) c8));have B9:=qd ((B6.o.drew.trans (G8.below (by exact hw6) fun j hj=>(qj.lt S6.o j hj).1)).setCell (p:=⟨W5.heap.size,1,none⟩) (Nat.le_refl _) (.slice (some ⟨g8,0,none⟩) (KL.length+1) c8));have y8l:=qe rt8;have y8:=qa rt8 1;simp at y8;have y8f:=qt rt8 1;clear rt8 o8 G8 hne hne8 zm0 zm9 z1;refine hK _ _ ?_;clear hK K'
            repeat first|(refine qq fun K hK=>?_;go_simp;refine hK _ _ ?_;clear hK K)|(apply qx;(intro w2 hw2;have hk1:=hw2.cell;have hk3:=hw2.heap;clear hw2;go_simp;with_reducible rfl);simp only[Act.put,sA,sB,sC])|refine qz rfl rfl ?_|(refine qE rfl rfl fun K hK=>?_;simp only[Act.put,sA,sB,sC];refine hK _ _ ?_;clear hK K)|refine qm ?_
            refine qF (fun K' hK=>?_);go_simp;refine hK _ _ ?_;clear hK K'
            repeat first|(refine qq fun K hK=>?_;go_simp;refine hK _ _ ?_;clear hK K)|(apply qx;(intro w2 hw2;have hk1:=hw2.cell;have hk3:=hw2.heap;clear hw2;go_simp;with_reducible rfl);simp only[Act.put,sA,sB,sC])|refine qz rfl rfl ?_|(refine qE rfl rfl fun K hK=>?_;simp only[Act.put,sA,sB,sC];refine hK _ _ ?_;clear hK K)|refine qm ?_
            go_wp2_with fail;go_roundw
            case rel=>exact⟨k+1,_,by omega,by go_num,by simpa using T9.o,by rw[HRC.o,if_pos (by simp),←List.append_assoc,HKK.o];exact O9.o,B9.o⟩
            case measure=>simp[intOf];omega
         ·obtain rfl:k=ms.length:=by omega
          have hq:decide ((ms.length:Int) < (ms.length:Int))=false:=by simp
          have hKK:KL=XM lev A T ord:=by
           rw[←hL,←HLL.o,HML.o];rfl
          have HKK2:=qd hKK;have yr0:=yr 0;have yr2:=yr 2;have yr3:=yr 3;have yr4:=yr 4;have yr5:=yr 5;have yr6:=yr 6;simp at yr0 yr2 yr3 yr4 yr5 yr6;have rw5:=qh R5.o HB.o (qe R5.o);have RW:=qd rw5;have yv:=qa rw5;have yv0:=yv 0;have yv1:=yv 1;have yv2:=yv 2;have yv3:=yv 3;have yv4:=yv 4;have yv5:=yv 5;have yv6:=yv 6;simp at yv0 yv1 yv2 yv3 yv4 yv5 yv6;have yvf:=fun o=>qt rw5 o;have yvl:=qe rw5;have BW:=qd (B5.o.trans (HB.o.mono B5.o.size));clear hT hS hB hL hKK yr yv rw5 yrf;go_wp2_with fail;have RF:=qn (qn (qn (qn (qn (qn (qn RW.o 0 (.int .i64 1)) 1 (.slice aS KL.length cS)) 2 (.slice none 0 0)) 3 (.int .i64 0)) 4 (.int .i64 0)) 5 (.int .i64 0)) 6 (.slice none 0 0);have hB9:=qd (((((((BW.o.setCell (p:=⟨w.heap.size,0,none⟩) (Nat.le_refl _) (.int .i64 1)).setCell (p:=⟨w.heap.size,1,none⟩) (Nat.le_refl _) (.slice aS KL.length cS)).setCell (p:=⟨w.heap.size,2,none⟩) (Nat.le_refl _) (.slice none 0 0)).setCell (p:=⟨w.heap.size,3,none⟩) (Nat.le_refl _) (.int .i64 0)).setCell (p:=⟨w.heap.size,4,none⟩) (Nat.le_refl _) (.int .i64 0)).setCell (p:=⟨w.heap.size,5,none⟩) (Nat.le_refl _) (.int .i64 0)).setCell (p:=⟨w.heap.size,6,none⟩) (Nat.le_refl _) (.slice none 0 0));have c0:=qa RF 0;have c1:=qa RF 1;have c2:=qa RF 2;have c3:=qa RF 3;have c4:=qa RF 4;have c5:=qa RF 5;have c6:=qa RF 6;simp at c0 c1 c2 c3 c4 c5 c6;have HV9:=qd (show qj vL 87 2 ((((((((wr.setCell ⟨w.heap.size,0,none⟩ (.int .i64 1)).setCell ⟨w.heap.size,1,none⟩ (.slice aS KL.length cS)).setCell ⟨w.heap.size,2,none⟩ (.slice none 0 0)).setCell ⟨w.heap.size,3,none⟩ (.int .i64 0)).setCell ⟨w.heap.size,4,none⟩ (.int .i64 0)).setCell ⟨w.heap.size,5,none⟩ (.int .i64 0)).setCell ⟨w.heap.size,6,none⟩ (.slice none 0 0))) w.heap.size (.slice aS KL.length cS) KL from by
           have hne:=qj.neT HS.o RW.o (by decide);exact qj.base (qj.other (qj.other (qj.other (qj.other (qj.other (qj.other (qj.other HS.o hne _) hne _) hne _) hne _) hne _) hne _) hne _) (by omega))
          refine bodyPost_ret (v:=uR ⟨1,KL,0,0,0,[]⟩ (.slice aS KL.length cS) (.slice none 0 0)) (by simp[results,Tryz.results32,go_sem,uR,c0,c1,c2,c3,c4,c5,c6]) rfl ?_;refine⟨⟨1,KL,0,0,0,[]⟩,_,_,rfl,?_,⟨HV9.o,qj.nil _ _⟩,hB9.o⟩;unfold yB;rw[HT.o,HBF.o,←HOT.o,HKK2.o]
end
end
section
attribute [local irreducible] xL
structure Jk (w:World) (ov vv:Value) (os:List Ob) (r:Option Au):Prop where
 ho:Sl w w.heap.size 2 ov os.length (os.flatMap Ob.cells)
 hvv:∃a n c,vv=.slice a n c
 hT:∀W,Below w.heap.size w W->Calls Tryz.prog 13 #[.agg #[ov,vv]] W (vZ W r)
 hD:∀A,r=some A->JE os A
 hev:∃t v,w.cell? ⟨6,0,none⟩=some (.iface t v)
 hel:6 < w.heap.size
section
variable {w W:World} {ov vv:Value} {os:List Ob} {r:Option Au} {A:Au} {lev:Int}
theorem xN.low {lo lo' hi pW bB:Nat} {lv:Value} {ms:List xz} {T:List Bool} (h:xN w lo hi pW bB lev ov vv ms lv A T) (hl:lo'<=lo):xN w lo' hi pW bB lev ov vv ms lv A T:=by
 refine⟨h.row,⟨⟨Nat.le_trans hl h.pB.1.1,h.pB.1.2⟩,Nat.le_trans hl h.pB.2.1,h.pB.2.2⟩,qj.base h.lst hl,h.lstb,h.len,h.tl,fun k m s hm hs=>?_,h.inj,h.nb,h.by_⟩;have q:=h.mv k m s hm hs;exact⟨q.row,qj.base q.dds hl,q.dvb,q.rd,q.wr,⟨⟨Nat.le_trans hl q.b.1.1,q.b.1.2⟩,⟨Nat.le_trans hl q.b.2.1.1,q.b.2.1.2⟩,Nat.le_trans hl q.b.2.2.1,q.b.2.2.2⟩⟩
theorem JE.mv (h:JE os A):vB A:=fun s hs=>
 ⟨zo (g:=Dd.got) (X:=xt [] s.deeds) (M:=[]) (fun _ h=>by cases h) fun x hx=>h.dobj hs (jp hx).1,
  zo (g:=Dd.val) (X:=xX s.deeds) (M:=[]) (fun _ h=>by cases h) fun x hx=>h.dobj hs (uo hx)⟩
theorem Jk.below (h:Jk w ov vv os r) (hb:Below w.heap.size w W):Jk W ov vv os r:=by
 obtain⟨t,v,hev⟩:=h.hev;exact⟨(h.ho.below hb).more hb.size,h.hvv,fun X hX=>h.hT X (hb.trans (hX.mono hb.size)),h.hD,⟨t,v,qp hb h.hel hev⟩,Nat.lt_of_lt_of_le h.hel hb.size⟩
theorem f_prem (h:Jk w ov vv os r):Calls Tryz.prog 43 #[.agg #[ov,vv]] w (vZ w (xQ os r)):=by
 cases r with
 |none=>exact Vk ov vv os w h.ho h.hvv h.hT
 |some A=>
  obtain⟨t,v,hev⟩:=h.hev;exact ZK ov vv os A w h.ho h.hvv h.hT (h.hD A rfl) hev h.hel
theorem qW (h:xQ os r=some A):r=some A/\qU os [] A=true:=by
 cases r with
 |none=>cases h
 |some B=>
  unfold xQ at h;simp only at h
  split at h
  ·rename_i hp
   obtain rfl:=Option.some.inj h;exact⟨rfl,hp⟩
  ·cases h
theorem Vl (h:Jk w ov vv os r) (e:xQ os r=some A):Calls Tryz.prog 31 #[.agg #[ov,vv],.int .i64 lev] w (Vt w lev ov vv A):=by
 obtain⟨ao,co,hov,-⟩:=h.ho.ex;refine f_look ov vv os A lev w ⟨_,_,_,hov⟩ h.hvv (fun W hW=>?_) (h.hD A (qW e).1);rw[←e];exact f_prem (h.below hW)
theorem uP (h:Jk w ov vv os r):Calls Tryz.prog 16 #[.agg #[ov,vv]] w fun e w'=>(match xQ os r with
  |some _=>e=.returned .nilIface
  |none=>∃t x,e=.returned (.iface t x))/\Below w.heap.size w w':=by
 obtain⟨ao,co,hov,-⟩:=h.ho.ex;obtain⟨av,nv,cv,hvv⟩:=h.hvv;have b0:Below w.heap.size w (w.alloc (.cells #[ov,vv] 25)):=(Below.refl _ w).alloc (Nat.le_refl _) _;have PC:=qd (f_prem (h.below b0));have B0:=qd b0;subst hov hvv;obtain⟨pr,hpr⟩:∃pr,xQ os r=pr:=⟨_,rfl⟩
 rw[hpr] at PC ⊢;clear h b0 hpr;cases pr with
 |none=>
  go_enter Tryz.func16,Tryz.ntmps16;go_wp2_with fail;refine PC.o.mono ?_;rintro e W1 ⟨⟨t,x,rfl⟩,b1⟩;have B1:=qd (B0.o.trans (b1.mono B0.o.size));clear b1;go_wp2_with fail;exact bodyPost_ret (v:=.iface t x) (by simp[results,Tryz.results16,go_sem]) rfl ⟨⟨t,x,rfl⟩,B1.o⟩
 |some A=>
  go_enter Tryz.func16,Tryz.ntmps16;go_wp2_with fail;refine PC.o.mono ?_;rintro e W1 ⟨tv,rfl,ht,b1⟩;have B1:=qd (B0.o.trans (b1.mono B0.o.size));clear b1 ht;go_wp2_with fail;exact bodyPost_ret (v:=.nilIface) (by simp[results,Tryz.results16,go_sem]) rfl ⟨rfl,B1.o⟩
theorem f_atS (h:Jk w ov vv os r) (e:xQ os r=some A) (hl:lev=1\/lev=2\/lev=3):Calls Tryz.prog 35 #[.agg #[ov,vv],.int .i64 lev] w (Vt w lev ov vv A):=by
 obtain⟨ao,co,hov,-⟩:=h.ho.ex;obtain⟨av,nv,cv,hvv⟩:=h.hvv;have b0:Below w.heap.size w (w.alloc (.cells #[ov,vv] 25)):=(Below.refl _ w).alloc (Nat.le_refl _) _;have PC:=qd (Vl (lev:=lev) (h.below b0) e);have B0:=qd b0;subst hov hvv;have hl0:(lev < 1)=False:=by simp;omega
 have hl1:(3 < lev)=False:=by simp;omega
 clear h b0 e hl;go_enter Tryz.func35,Tryz.ntmps35;go_wp2_with fail;refine PC.o.mono ?_;rintro e W1 ⟨pW,bB,ms,lv,rfl,hF,b1⟩;have B1:=qd (B0.o.trans (b1.mono B0.o.size));have HF:=qd hF;have hz:=B0.o.size;clear b1 hF;go_wp2_with fail;exact bodyPost_ret (v:=.tuple #[.pointer (some ⟨pW,0,none⟩),.nilIface]) (by simp[results,Tryz.results35,go_sem]) rfl ⟨pW,bB,ms,lv,rfl,HF.o.low hz,B1.o⟩
def JudgeRet (w:World) (lev:Int) (os:List Ob) (A:Au) (e:Ending) (w':World):Prop:=∃a vs vc,e=.returned (.tuple #[uR a vs vc,.nilIface])/\yB lev (os.map (·.init)) A a/\UE w' w.heap.size vs vc a/\Below w.heap.size w w'
theorem WD (h:Jk w ov vv os r) (e:xQ os r=some A) (hl:lev=1\/lev=2\/lev=3) (hal:A.length<=200) (hnd:(A.map (·.id)).Nodup):Calls Tryz.prog 9 #[.agg #[ov,vv],.int .i64 lev] w (JudgeRet w lev os A):=by
 obtain⟨ao,co,hov,-⟩:=h.ho.ex;obtain⟨av,nv,cv,hvv⟩:=h.hvv;have HH:=qd h;have HE:=qd e;have HD:=qd (h.hD A (qW e).1);have HND:=qd hnd;have HLV:=qd hl;subst hov hvv;have hl0:(lev < 1)=False:=by simp;omega
 have hl1:(4 < lev)=False:=by simp;omega
 have hl4:(lev !=4)=true:=by simp;omega
 clear h e hl hnd;go_enter Tryz.func9,Tryz.ntmps9;go_wp2_with fail;have hb0:Below w.heap.size w (((w.alloc (.cells #[.slice ao os.length co,.slice av nv cv] 25)).alloc (.cells #[.int .i64 0,.slice none 0 0,.slice none 0 0,.int .i64 0,.int .i64 0,.int .i64 0,.slice none 0 0] 32)).alloc (.cells #[.nilIface] 34)):=(((Below.refl _ w).alloc (Nat.le_refl _) _).alloc (by simp) _).alloc (by simp;omega) _;have B0:=qd hb0;have H0:=qd (HH.o.below hb0);have R0:=qd (qy (qs (w.alloc (.cells #[.slice ao os.length co,.slice av nv cv] 25)) (.cells #[.int .i64 0,.slice none 0 0,.slice none 0 0,.int .i64 0,.int .i64 0,.int .i64 0,.slice none 0 0] 32)) (o:=.cells #[.nilIface] 34));have E0:=qd (qs ((w.alloc (.cells #[.slice ao os.length co,.slice av nv cv] 25)).alloc (.cells #[.int .i64 0,.slice none 0 0,.slice none 0 0,.int .i64 0,.int .i64 0,.int .i64 0,.slice none 0 0] 32)) (.cells #[.nilIface] 34));have X0:=qd (qy (qy (qs w (.cells #[.slice ao os.length co,.slice av nv cv] 25)) (o:=.cells #[.int .i64 0,.slice none 0 0,.slice none 0 0,.int .i64 0,.int .i64 0,.int .i64 0,.slice none 0 0] 32)) (o:=.cells #[.nilIface] 34));have hz0:((((w.alloc (.cells #[.slice ao os.length co,.slice av nv cv] 25)).alloc (.cells #[.int .i64 0,.slice none 0 0,.slice none 0 0,.int .i64 0,.int .i64 0,.int .i64 0,.slice none 0 0] 32)).alloc (.cells #[.nilIface] 34))).heap.size=w.heap.size+3:=by simp
 generalize (((w.alloc (.cells #[.slice ao os.length co,.slice av nv cv] 25)).alloc (.cells #[.int .i64 0,.slice none 0 0,.slice none 0 0,.int .i64 0,.int .i64 0,.int .i64 0,.slice none 0 0] 32)).alloc (.cells #[.nilIface] 34))=W0 at *;have R0:=qd (show W0.heap[w.heap.size+1]?=some (.cells #[.int .i64 0,.slice none 0 0,.slice none 0 0,.int .i64 0,.int .i64 0,.int .i64 0,.slice none 0 0] 32 (0,0)) by have:=R0.o;simpa using this);have E0:=qd (show W0.heap[w.heap.size+1+1]?=some (.cells #[.nilIface] 34 (0,0)) by have:=E0.o;simpa using this);have X0:=qd (show W0.heap[w.heap.size]?=some (.cells #[.slice ao os.length co,.slice av nv cv] 25 (0,0)) by have:=X0.o;simpa using this);have HZ0:=qd hz0;clear hb0 hz0;have PC:=qd (uP H0.o);rw[HE.o] at PC;refine PC.o.mono ?_;rintro e W1 ⟨rfl,b1⟩;have hs1:=b1.size;have H1:=qd (H0.o.below b1);have B1:=qd (B0.o.trans (b1.mono B0.o.size));have R1:=qd (qh R0.o b1 (qe R0.o));have E1:=qd (qh E0.o b1 (qe E0.o));have X1:=qd (qh X0.o b1 (qe X0.o));have x0:=qa X1.o 0;have x1:=qa X1.o 1;simp at x0 x1;have xl:=qe X1.o;have LC:=qd (Vl (lev:=lev) H1.o HE.o);have hz1:w.heap.size<=W1.heap.size:=B1.o.size;clear b1;go_wp2_with fail;refine LC.o.mono ?_;rintro e W2 ⟨pW,bB,ms,lv,rfl,hF,b2⟩;have JC:=qd (RD hF (H1.o.below b2).ho ⟨_,_,_,rfl⟩ HD.o HD.o.mv hal HND.o HLV.o (Nat.le_refl _));have B2:=qd (B1.o.trans (b2.mono hz1));have R2:=qd (qh R1.o b2 (qe R1.o));have E2:=qd (qh E1.o b2 (qe E1.o));have hz2:w.heap.size<=W2.heap.size:=B2.o.size;clear b2 hF x0 x1 xl;go_wp2_with fail;refine JC.o.mono ?_;rintro e W4 ⟨a,vs,vc,rfl,hJ,hA,b4⟩;have HJ:=qd hJ;obtain⟨aS,cS,e1⟩:=qj.sli hA.1;obtain⟨aC,cC,e2⟩:=qj.sli hA.2;subst e1 e2;have HA:=qd hA;have B4:=qd (B2.o.trans (b4.mono hz2));have R4:=qd (qh R2.o b4 (qe R2.o));have E4:=qd (qh E2.o b4 (qe E2.o));have y0:=qa R4.o 0;have y1:=qa R4.o 1;have y2:=qa R4.o 2;have y3:=qa R4.o 3;have y4:=qa R4.o 4;have y5:=qa R4.o 5;have y6:=qa R4.o 6;simp at y0 y1 y2 y3 y4 y5 y6;have yf:=fun o=>qt R4.o o;have yl:=qe R4.o;have z0:=qa E4.o 0;simp at z0;have zf:=fun o=>qt E4.o o;have zl:=qe E4.o;clear hJ hA b4;unfold uR;go_wp2_with fail;have RF:=qI (qn (qn (qn (qn (qn (qn (qn (R4.o) 0 (.int .i64 a.kind)) 1 (.slice aS a.steps.length cS)) 2 (.slice none 0 0)) 3 (.int .i64 a.pre)) 4 (.int .i64 a.tx)) 5 (.int .i64 a.deed)) 6 (.slice aC a.cyc.length cC)) (show w.heap.size+1+1≠w.heap.size+1 by omega) (j:=0) (v:=.nilIface);have EF:=qn (qI (qI (qI (qI (qI (qI (qI (E4.o) (show w.heap.size+1≠w.heap.size+1+1 by omega) (j:=0) (v:=.int .i64 a.kind)) (show w.heap.size+1≠w.heap.size+1+1 by omega) (j:=1) (v:=.slice aS a.steps.length cS)) (show w.heap.size+1≠w.heap.size+1+1 by omega) (j:=2) (v:=.slice none 0 0)) (show w.heap.size+1≠w.heap.size+1+1 by omega) (j:=3) (v:=.int .i64 a.pre)) (show w.heap.size+1≠w.heap.size+1+1 by omega) (j:=4) (v:=.int .i64 a.tx)) (show w.heap.size+1≠w.heap.size+1+1 by omega) (j:=5) (v:=.int .i64 a.deed)) (show w.heap.size+1≠w.heap.size+1+1 by omega) (j:=6) (v:=.slice aC a.cyc.length cC)) 0 .nilIface;have c0:=qa RF 0;have c1:=qa RF 1;have c2:=qa RF 2;have c3:=qa RF 3;have c4:=qa RF 4;have c5:=qa RF 5;have c6:=qa RF 6;have d0:=qa EF 0;simp at c0 c1 c2 c3 c4 c5 c6 d0;have hB9:=qd (((((((((B4.o).setCell (p:=⟨w.heap.size+1,0,none⟩) (by show w.heap.size<=w.heap.size+1;omega) (.int .i64 a.kind)).setCell (p:=⟨w.heap.size+1,1,none⟩) (by show w.heap.size<=w.heap.size+1;omega) (.slice aS a.steps.length cS)).setCell (p:=⟨w.heap.size+1,2,none⟩) (by show w.heap.size<=w.heap.size+1;omega) (.slice none 0 0)).setCell (p:=⟨w.heap.size+1,3,none⟩) (by show w.heap.size<=w.heap.size+1;omega) (.int .i64 a.pre)).setCell (p:=⟨w.heap.size+1,4,none⟩) (by show w.heap.size<=w.heap.size+1;omega) (.int .i64 a.tx)).setCell (p:=⟨w.heap.size+1,5,none⟩) (by show w.heap.size<=w.heap.size+1;omega) (.int .i64 a.deed)).setCell (p:=⟨w.heap.size+1,6,none⟩) (by show w.heap.size<=w.heap.size+1;omega) (.slice aC a.cyc.length cC)).setCell (p:=⟨w.heap.size+1+1,0,none⟩) (by show w.heap.size<=w.heap.size+1+1;omega) .nilIface);have n11:=qj.neT HA.o.1 R4.o (by decide);have n12:=qj.neT HA.o.1 E4.o (by decide);have n21:=qj.neT HA.o.2 R4.o (by decide);have n22:=qj.neT HA.o.2 E4.o (by decide);have HS9:=qd (show qj vL 87 2 ((((((((((((((((W4).setCell ⟨w.heap.size+1,0,none⟩ (.int .i64 a.kind))).setCell ⟨w.heap.size+1,1,none⟩ (.slice aS a.steps.length cS))).setCell ⟨w.heap.size+1,2,none⟩ (.slice none 0 0))).setCell ⟨w.heap.size+1,3,none⟩ (.int .i64 a.pre))).setCell ⟨w.heap.size+1,4,none⟩ (.int .i64 a.tx))).setCell ⟨w.heap.size+1,5,none⟩ (.int .i64 a.deed))).setCell ⟨w.heap.size+1,6,none⟩ (.slice aC a.cyc.length cC))).setCell ⟨w.heap.size+1+1,0,none⟩ .nilIface) w.heap.size (.slice aS a.steps.length cS) a.steps from qj.base (qj.other (qj.other (qj.other (qj.other (qj.other (qj.other (qj.other (qj.other (HA.o.1) n11 _) n11 _) n11 _) n11 _) n11 _) n11 _) n11 _) n12 _) hz2);have HC9:=qd (show qj jF 3 1 ((((((((((((((((W4).setCell ⟨w.heap.size+1,0,none⟩ (.int .i64 a.kind))).setCell ⟨w.heap.size+1,1,none⟩ (.slice aS a.steps.length cS))).setCell ⟨w.heap.size+1,2,none⟩ (.slice none 0 0))).setCell ⟨w.heap.size+1,3,none⟩ (.int .i64 a.pre))).setCell ⟨w.heap.size+1,4,none⟩ (.int .i64 a.tx))).setCell ⟨w.heap.size+1,5,none⟩ (.int .i64 a.deed))).setCell ⟨w.heap.size+1,6,none⟩ (.slice aC a.cyc.length cC))).setCell ⟨w.heap.size+1+1,0,none⟩ .nilIface) w.heap.size (.slice aC a.cyc.length cC) a.cyc from qj.base (qj.other (qj.other (qj.other (qj.other (qj.other (qj.other (qj.other (qj.other (HA.o.2) n21 _) n21 _) n21 _) n21 _) n21 _) n21 _) n21 _) n22 _) hz2);clear n11 n12 n21 n22 RF EF;refine bodyPost_ret (v:=.tuple #[uR a (.slice aS a.steps.length cS) (.slice aC a.cyc.length cC),.nilIface]) (by simp[results,Tryz.results9,go_sem,uR,c0,c1,c2,c3,c4,c5,c6,d0]) rfl ?_;exact⟨a,_,_,rfl,HJ.o,⟨HS9.o,HC9.o⟩,hB9.o⟩
def zR (A:Au) (T:List Bool) (k:Nat):List Int:=(List.range k).filterMap fun i=>match A[i]? with
 |some s=>if T.getD i false then some s.id else none
 |none=>none
theorem Jq {T:List Bool} {k:Nat} {s:St} (h:A[k]?=some s):zR A T (k+1)=zR A T k++(if T.getD k false then[s.id] else[]):=by
 unfold zR;rw[List.range_succ,List.filterMap_append];congr 1;rw[List.filterMap_cons,h];simp only;cases T.getD k false <;> rfl
theorem UI {T:List Bool} {k:Nat}:(zR A T k).length<=k:=by
 unfold zR;exact Nat.le_trans (List.length_filterMap_le _ _) (by simp)
theorem f_TakenS (h:Jk w ov vv os r) (e:xQ os r=some A) (hl:lev=1\/lev=2\/lev=3):Calls Tryz.prog 28 #[.agg #[ov,vv],.int .i64 lev] w fun e w'=>
  ∃v,e=.returned (.tuple #[v,.nilIface])/\yF w' w.heap.size v (zR A (qT lev A) A.length)/\Below w.heap.size w w':=by
 obtain⟨ao,co,hov,-⟩:=h.ho.ex;obtain⟨av,nv,cv,hvv⟩:=h.hvv;have b0:Below w.heap.size w (w.alloc (.cells #[ov,vv] 25)):=(Below.refl _ w).alloc (Nat.le_refl _) _;have PC:=qd (f_atS (lev:=lev) (h.below b0) e hl);have B0:=qd b0;have HD:=qd (h.hD A (qW e).1);subst hov hvv;clear h b0 e hl;go_enter Tryz.func28,Tryz.ntmps28;go_wp2_with fail;refine PC.o.mono ?_;rintro e W1 ⟨pW,bB,ms,lv,rfl,hF,b1⟩;have B1:=qd (B0.o.trans (b1.mono B0.o.size));obtain⟨T,hT⟩:∃T,qT lev A=T:=⟨_,rfl⟩
 rw[hT] at hF;have HT:=qd hT;obtain⟨al,cl,hlv0⟩:=qj.sli hF.lst;subst hlv0;have HML:=qd hF.len;have hml:ms.length<=400:=by have:=hF.len;have:=HD.o.len;omega
 have F1:=qd hF;have yq:=qa hF.row 3;simp at yq;have yql:=qe hF.row;clear b1 hF hT;go_wp2_with fail
 go_loopw [8,25] (fun v q wr=>∃(k:Nat),k<=ms.length/\q=.int .i64 k/\yF wr W1.heap.size v (zR A T k)/\Below W1.heap.size W1 wr) (fun _ q _=>ms.length - (intOf q).toNat)
 case atStart=>exact⟨0,by omega,by go_num,qj.nil _ _,Below.refl _ _⟩
 case round=>
  obtain⟨k,hk,rfl,hO,hB⟩:=hrel;have HB:=qd hB;have HO:=qd hO;have HF:=qd (F1.o.below hB (Nat.le_refl _) (Nat.le_refl _));obtain⟨aS,cS,hvq⟩:=qj.sli hO;subst hvq;obtain⟨L,hL⟩:∃L,zR A T k=L:=⟨_,rfl⟩
  rw[hL] at HO hO ⊢;have HLL:=qd hL;have hll:L.length<=400:=by rw[←hL];exact Nat.le_trans UI (by omega)
  have hwz:=hB.size;clear hO hB hL yq yql;by_cases hlt:k < ms.length
  ·obtain ⟨bl,ol,m,hqe,hbl,hmk,hcl⟩:=(qj.sl HF.o.lst).atF xz.len rfl hlt
   subst hqe;have c0:wr.cell? ⟨bl,ol+k,none⟩=some (.pointer (some ⟨m.p,0,none⟩)):=by have:=hcl 0 (by decide);simpa[xz.cells,xE] using this
   obtain⟨m0,s,g1,hsk,hMv⟩:=HF.o.get (k:=k) (by have:=HML.o;omega);rw[hmk] at g1;obtain rfl:=Option.some.inj g1;have HSK:=qd hsk;have hr:=hMv.row;obtain⟨tk,htk⟩:∃tk,T.getD k false=tk:=⟨_,rfl⟩
   have HRK:=qd (Jq (T:=T) hsk);rw[htk] at hr HRK;have ym:=qa hr;have ym0:=ym 0;have ym10:=ym 10;simp at ym0 ym10;have yml:=qe hr;clear hmk hsk hMv ym hcl hr htk;cases tk with
   |false=>
    go_wp2_with fail;go_roundw
    case rel=>exact⟨k+1,by omega,by go_num,by rw[HRK.o,if_neg (by simp),List.append_nil,HLL.o];exact HO.o,HB.o⟩
    case measure=>simp[intOf];omega
   |true=>
    go_wp2_with (at_builtin;refine qM rfl _ _ _ rfl _ 8 Tryz.underlying30 Yt rfl HO.o s.id (by first|omega|(simp <;> omega)) (by rfl) (by rfl) (by first|rfl|simp) rfl (QT _) (by first|omega|(simp only[List.length_append,List.length_cons,List.length_nil,List.length_replicate];omega)) (by first|omega|(simp only[List.length_append,List.length_cons,List.length_nil,List.length_replicate];omega)) ?_;refine qH.halt ?_)
    refine qH.go ?_;intro g8 c8 w8 o8 G8;have O9:=qd o8;have B9:=qd (HB.o.trans (G8.below hwz fun j hj=>(qj.lt HO.o j hj).1));clear o8 G8 c0 ym0 ym10 yml;go_wp2_with fail;go_roundw
    case rel=>exact⟨k+1,by omega,by go_num,by rw[HRK.o,if_pos (by simp),HLL.o];exact O9.o,B9.o⟩
    case measure=>simp[intOf];omega
  ·obtain rfl:k=ms.length:=by omega
   have hq:decide ((ms.length:Int) < (ms.length:Int))=false:=by simp
   have hz1:w.heap.size<=W1.heap.size:=B1.o.size;have BF:=qd (B1.o.trans (HB.o.mono hz1));go_wp2_with fail;refine bodyPost_ret (v:=.tuple #[.slice aS L.length cS,.nilIface]) (by simp[results,Tryz.results28,go_sem]) rfl ⟨_,rfl,?_,BF.o⟩;rw[HT.o,←HML.o,HLL.o];exact qj.base HO.o hz1
end
end
structure YS (s:St):Prop where
 op:∀d ∈ s.deeds,d.op=1\/d.op=2
 ret:∀d ∈ s.deeds,d.ret=0\/d.op=2/\d.ret=1\/d.op=1/\d.ret=3
 full:∀(j k:Nat) (d e:Dd),j < k->s.deeds[j]?=some d->s.deeds[k]?=some e->d.ret≠0
section
variable {inits:List Int} {A:Au} {T:List Bool} {i:Nat} {rd:Mi}
def Qq (own:Mi) (l:List Dd):Mi:=l.foldl (fun m d=>if d.op=2 then upd d.obj d.val m else m) own
theorem Xo {o:Int}:∀{l:List Dd} {own:Mi},za own->fnd o (Qq own l)=l.foldl (fun r d=>if d.op=2/\d.obj=o then some d.val else r) (fnd o own)
 |[],own,_=>rfl
 |d::l,own,h=>by
  unfold Qq;rw[List.foldl_cons,List.foldl_cons];by_cases e:d.op=2
  ·rw [if_pos e]
   have:=Xo (o:=o) (l:=l) (zG (a:=d.obj) (v:=d.val) h);unfold Qq at this;rw[this];by_cases e2:d.obj=o
   ·rw [if_pos ⟨e,e2⟩,e2,ja h]
   ·rw [if_neg (fun h=>e2 h.2),jz h fun h=>e2 h.symm]
  ·rw [if_neg e,if_neg (fun h=>e h.1)]
   have:=Xo (o:=o) (l:=l) h;unfold Qq at this;exact this
def ZE (A:Au) (T:List Bool) (i:Nat) (o v:Int):Bool:=match WV A o v with
 |some j=>decide (j≠i)&&T.getD j false
 |none=>false
end
theorem fed_drop:∀{l:List Ev} {A:Au},Fed l A->∀s ∈ A,∀d ∈ s.deeds.dropLast,d.ret≠0:=by
 intro l A h
 induction h with
 |nil=>intro s hs;cases hs
 |@snoc l A A' e h hf ih=>
  cases hf with
  |begin hk hi hb=>
   intro s hs;rcases List.mem_append.1 hs with hs|hs
   ·exact ih s hs
   ·obtain rfl:s=zM e l.length:=by simpa using hs
    intro d hd;simp[zM] at hd
  |move k s s' hk hs hi hm=>
   have hF:=fed_full h s (List.mem_of_getElem? hs);have hI:=ih s (List.mem_of_getElem? hs);intro x hx;obtain⟨j,hj⟩:=List.mem_iff_getElem?.1 hx;rcases yQ hj with⟨-,rfl⟩|⟨-,hj⟩
   ·unfold js at hm
    split at hm
    ·split at hm
     ·rename_i h1
      cases hm;simp only[List.dropLast_concat];exact hF.1 (.inl h1)
     ·cases hm
    ·split at hm
     ·split at hm
      ·split at hm
       ·split at hm
        ·cases hm
         simp only[List.dropLast_concat];exact hI
        ·cases hm
       ·cases hm
      ·cases hm
     ·split at hm
      ·split at hm
       ·cases hm;exact hI
       ·cases hm
      ·split at hm
       ·split at hm
        ·cases hm;exact hI
        ·cases hm
       ·split at hm
        ·split at hm
         ·cases hm;exact hI
         ·cases hm
        ·split at hm
         ·split at hm
          ·cases hm;exact hI
          ·cases hm
         ·cases hm
   ·exact ih x (List.mem_of_getElem? hj)
