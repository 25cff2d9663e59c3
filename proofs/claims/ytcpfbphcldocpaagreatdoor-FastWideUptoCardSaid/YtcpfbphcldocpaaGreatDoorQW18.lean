/- Parts of the proof. Conditions: those of each theorem, as typed. -/
import Derived.Test.YtcpfbphcldocpaaGreatDoorQW17
import Derived.Test.YtcpfbphcldocpaaGreatDoorQW16
import Derived.Test.YtcpfbphcldocpaaGreatDoorQW12
import Derived.Test.YtcpfbphcldocpaaGreatDoorQW09
import Derived.Test.YtcpfbphcldocpaaGreatDoorQW03
set_option linter.unusedVariables false
set_option linter.unusedSimpArgs false
set_option linter.unusedSectionVars false
set_option maxRecDepth 100000
set_option maxHeartbeats 4000000
namespace Go.Proofs.YtcpfbphcldocpaaGreatDoor
open Go.Maps Go.RowKit
theorem Vz.fnd {P:List Pr} {k:Int} {F:List (Int×Int)} (h:Vz P k F) {a d:Int}:fnd a F=some d↔∃m:Nat,d=m/\xL P k m a:=by rw[fnd_some h.srt,h.mem]
theorem Vz.fnd_none {P:List Pr} {k:Int} {F:List (Int×Int)} (h:Vz P k F) {a:Int}:_root_.Go.Proofs.YtcpfbphcldocpaaGreatDoor.fnd a F=none↔¬Tc P a k:=by
 rw[_root_.Go.Proofs.YtcpfbphcldocpaaGreatDoor.fnd_none,Za];constructor
 ·rintro hf ⟨m,hm⟩
  exact hf m ((h.mem a m).2 ⟨m,rfl,hm⟩)
 ·rintro hf u hu
  obtain⟨m,-,hm⟩:=(h.mem a u).1 hu;exact hf ⟨m,hm⟩
theorem WZ {P:List Pr} {x b c:Int} {j:Nat} (hb:(row P x)[j]?=some b) (hP:WH P) (hc:c < b) (hm:(x,c) ∈ P):c ∈ (row P x).take j:=by
 have hs:=QX hP x;obtain⟨i,hi,e⟩:=List.getElem_of_mem (xG.2 hm);have hj:=(List.getElem?_eq_some_iff.1 hb).1;have hbj:(row P x)[j]=b:=(List.getElem?_eq_some_iff.1 hb).2;have:i < j:=by
  rcases Nat.lt_trichotomy i j with h|h|h
  ·exact h
  ·subst h;rw[hbj] at e;omega
  ·have:=List.pairwise_iff_getElem.1 hs j i hj hi h
   rw[hbj,e] at this;omega
 exact List.mem_iff_getElem?.2 ⟨i,by rw[List.getElem?_take_of_lt this,List.getElem?_eq_getElem hi,e]⟩
section
variable {w:World} {lo hi p:Nat} {N:List Int} {E:List jX}
theorem qcq (h:jt w lo hi p N E) (hhi:hi<=w.heap.size) (hN:N.length<=900000) (hE:E.length<=900000):Calls Tryz.prog 68 #[.pointer (some ⟨p,0,none⟩)] w fun e w'=>
  ∃v c,e=.returned v/\xJ w' w.heap.size v c/\qdu (xF E) N c/\Below w.heap.size w w':=by
 have HG:=qh h;have HOK:=qh h.ok;have HDN:=qh h.domN;have HPN:=qh (fun(x:Pr) (hx:x ∈ xF E)=>(h.ok.pair hx).1);have HPN2:=qh (fun(x:Pr) (hx:x ∈ xF E)=>(h.ok.pair hx).2);clear h;go_enter Tryz.func68,Tryz.ntmps68;go_wp2_with fail;refine(Kw HG.o (by omega)).mono ?_;rintro e w1 ⟨v,rfl,h1,b1⟩;obtain⟨ak,ck,rfl,hkm⟩:=h1.sl.ex;have K1:=qh h1;have B1:=qh b1;have z1:=b1.size;clear h1 b1;obtain⟨nN,hnN⟩:∃n,n=N.length:=⟨_,rfl⟩
 rw[←hnN] at hN hkm K1 ⊢;have HNN:=qh hnN.symm;clear hnN;go_wp2_with fail
 go_loopw [16] (fun i wr=>∃j:Nat,j<=nN/\i=.int .i64 j/\(∀x ∈ N.take j,¬Tc (xF E) x x)/\Below w1.heap.size w1 wr) (fun i _=>nN - (intOf i).toNat)
 case atStart=>exact⟨0,by omega,by go_num,fun x hx=>by simp at hx,Below.refl _ _⟩
 case round=>
  obtain⟨j,hj,rfl,hno,hB⟩:=hrel;have HNo:=qh hno;have HB:=qh hB;have hz:=hB.size;clear hno hB;by_cases hlt:j < nN
  ·obtain ⟨g,k,rfl,-,hg,hx,hc⟩:=xJ.at (K1.o.below HB.o) HNN.o hlt
   have hkN:=List.mem_of_getElem? hx;have hkd:dI k:=HDN.o k hkN;have HX:=qh hx;have HKN:=qh hkN;clear hx hkN;go_wp2_with fail;refine(qfU (HG.o.below (B1.o.trans (HB.o.mono z1)) hhi) (Nat.le_trans hhi (Nat.le_trans z1 hz)) (by have:=HNN.o;omega) k hkd).mono ?_;rintro e w2 ⟨f,F,rfl,hf0,hf,hF,b2⟩;have F2:=qh hf;have HF:=qh hF;have B2:=qh (HB.o.trans (b2.mono hz));have z2:=b2.size;have HFD:=qh (fun q (hq:q ∈ F)=>by
    obtain⟨m,-,hd⟩:=(hF.mem q.1 q.2).1 hq;obtain⟨c,hc⟩:=hd.head;exact HDN.o _ (HPN.o (q.1,c) hc):yJ dI F)
   clear hf hF b2 HB hc;have lk:=QY F2.o HFD.o hkd rfl;cases hfk:fnd k F with
   |none=>
    rw[hfk] at lk;simp only[Option.getD_none,Option.isSome_none] at lk;have hnk:=HF.o.fnd_none.1 hfk;have HNK:=qh (fun x (hx:x ∈ N.take (j+1))=>by
     rcases(zI HX.o).1 hx with h|rfl
     ·exact HNo.o x h
     ·exact hnk:∀x ∈ N.take (j+1),¬Tc (xF E) x x)
    clear hfk hnk;go_wp2_with fail;go_roundw
    case rel=>exact⟨j+1,by omega,by go_num,HNK.o,B2.o⟩
    case measure=>simp[intOf];omega
   |some d=>
    rw[hfk] at lk;simp only[Option.getD_some,Option.isSome_some] at lk;obtain⟨m,rfl,hdm⟩:=HF.o.fnd.1 hfk;have hmN:m<=900000:=by have:=hdm.le HPN.o;have:=HNN.o;omega
    have hm1:=hdm.1;have HDM:=qh hdm;have HLeast:=qh (fun x (hx:x ∈ N) (hlt:x < k)=>by
     have hs:=HOK.o.srtN;obtain⟨i,hi,e⟩:=List.getElem_of_mem hx;have hj':=(List.getElem?_eq_some_iff.1 HX.o).1;have hkj:N[j]=k:=(List.getElem?_eq_some_iff.1 HX.o).2;refine HNo.o x (List.mem_iff_getElem?.2 ⟨i,?_⟩);have hij:i < j:=by
      rcases Nat.lt_trichotomy i j with h|h|h
      ·exact h
      ·subst h;rw[hkj] at e;omega
      ·have:=List.pairwise_iff_getElem.1 hs j i hj' hi h
       rw[hkj,e] at this;omega
     rw[List.getElem?_take_of_lt hij,List.getElem?_eq_getElem hi,e]:∀x ∈ N,x < k->¬Tc (xF E) x x)
    clear hfk hdm;go_wp2_with fail;have O2:=qh (qj.lit (f:=zK) (e:=3) (sz:=1) w2 w2.heap.size (Nat.le_refl _) [k] Qx (by simp));have F3:=qh (F2.o.alloc (.cells ([k].flatMap zK).toArray 3));have B3:=qh (B2.o.alloc B2.o.size (.cells ([k].flatMap zK).toArray 3));have C2:Hid (∀r,QQ (xF E) k m k r->QQ (xF E) k m k ([]++r)):=qh (fun r h=>h)
    go_loopw [6,8] (fun nv v wq=>∃(q:Nat) (l:List Int) (x:Int),1<=q/\q<=m/\nv=.int .i64 q/\(k::l)[l.length]?=some x/\xL (xF E) k q x/\(∀r,QQ (xF E) k q x r->QQ (xF E) k m k (l++r))/\l.length+q=m/\xJ wq w2.heap.size v (k::l)/\QJ wq f F/\Below w1.heap.size w1 wq) (fun nv _ _=>(intOf nv).toNat)
    case atStart=>exact⟨m,[],k,hm1,Nat.le_refl _,rfl,rfl,HDM.o,C2.o,by simp,O2.o,F3.o,B3.o⟩
    case round=>
     obtain⟨q,l,x,hq1,hqm,rfl,hlx,hdx,hch,hlq,hO,hMF,hB⟩:=hrel;have HLX:=qh hlx;have HDX:=qh hdx;have HCH:=qh hch;have HO:=qh hO;have F4:=qh hMF;have HB:=qh hB;have hz:=hB.size;obtain⟨ao,co,rfl,hom⟩:=hO.sl.ex;clear hlx hdx hch hO hMF hB O2 F3 B3 C2;by_cases hq2:2<=q
     ·obtain ⟨nc,hnc⟩:∃nc,nc=(k::l).length:=⟨_,rfl⟩
      rw[←hnc] at hom HO ⊢;have hnc2:nc=l.length+1:=by rw[hnc];simp
      have hnc3:1<=nc:=by omega
      have hncm:nc<=900000:=by omega
      have hl9:l.length<=900000:=by omega
      obtain⟨g4,y,rfl,hgB,hg4,hy,hcl⟩:=xJ.at HO.o hnc.symm (k:=nc - 1) (by omega);obtain rfl:x=y:=by
       rw[show nc - 1=l.length by omega,HLX.o] at hy;exact Option.some.inj hy
      have HNC:=qh hnc.symm;have HLQ:=qh hlq;have HNC2:=qh hnc2;obtain⟨xb,hxb⟩:=HDX.o.head;have hxd:dI x:=HDN.o x (HPN.o (x,xb) hxb);clear hnc hy hxb hlq hnc2;go_wp2_with fail;refine(qfS (HG.o.below (B1.o.trans (HB.o.mono z1)) hhi) (by omega) x hxd).mono ?_;rintro e w5 ⟨v5,rfl,h5,b5⟩;obtain⟨ar,cr,rfl,hrm⟩:=h5.sl.ex;have H6:=qh (HO.o.below b5);have R6:=qh h5;have F6:=qh (F4.o.below b5 F4.o.lt);have HB6:=qh (HB.o.trans (b5.mono hz));have HRX:Hid (∀c,c ∈ row (xF E) x↔(x,c) ∈ xF E):=qh (fun c=>xG);have HRL:=qh (fun(b c:Int) (j:Nat) (hb:(row (xF E) x)[j]?=some b) (hc:c < b) (hm:(x,c) ∈ xF E)=>WZ hb (vA E) hc hm);clear h5 b5 HO F4 HB hcl;generalize row (xF E) x=R at *;obtain⟨mR,hmR⟩:∃m,m=R.length:=⟨_,rfl⟩
      rw[←hmR] at hrm R6 ⊢;have HMR:=qh hmR.symm;clear hmR;generalize wr.heap.size=H9 at *;go_wp2_with fail
      go_loopw [8,46] (fun v i wq=>∃j2:Nat,j2<=mR/\i=.int .i64 j2/\v=.slice (some ⟨g4,0,none⟩) nc co/\xJ wq w2.heap.size (.slice (some ⟨g4,0,none⟩) nc co) (k::l)/\xJ wq H9 (.slice ar mR cr) R/\QJ wq f F/\(∀c ∈ R.take j2,¬(c≠k/\xL (xF E) k (q - 1) c))/\Below w1.heap.size w1 wq) (fun _ i _=>mR - (intOf i).toNat)
      case atStart=>exact⟨0,by omega,by go_num,rfl,H6.o,R6.o,F6.o,fun c hc=>by simp at hc,HB6.o⟩
      case round=>
       obtain⟨j2,hj2,rfl,rfl,hO,hR,hMF,hM,hB⟩:=hrel;have H7:=qh hO;have R7:=qh hR;have F7:=qh hMF;have HM:=qh hM;have HB7:=qh hB;have hz7:=hB.size;have zb7:w2.heap.size<=wr.heap.size:=by have:=H7.o.lt g4 rfl;omega
       clear hO hR hMF hM hB H6 R6 F6 HB6;by_cases hlj:j2 < mR
       ·obtain ⟨g5,b0,rfl,-,hg5,hyb,hcb⟩:=xJ.at R7.o HMR.o hlj
        have HY:=qh hyb;have hxb:=qh ((HRX.o b0).1 (List.mem_of_getElem? hyb));have hbd:dI b0:=HDN.o b0 (HPN2.o (x,b0) hxb.o);clear hyb;have lk:=QY F7.o HFD.o hbd rfl;cases hfb:fnd b0 F with
        |none=>
         rw[hfb] at lk;simp only[Option.getD_none,Option.isSome_none] at lk;have HNB:=qh (fun(h:b0≠k/\xL (xF E) k (q - 1) b0)=>by
          exact(HF.o.fnd_none.1 hfb) (Za.2 ⟨_,h.2⟩):¬(b0≠k/\xL (xF E) k (q - 1) b0))
         clear hfb;go_wp2_with fail;go_roundw
         case rel=>exact⟨j2+1,by omega,by go_num,rfl,H7.o,R7.o,F7.o,fun c hc=>by
          rcases(zI HY.o).1 hc with hc|rfl
          ·exact HM.o c hc
          ·exact HNB.o,HB7.o⟩
         case measure=>simp[intOf];omega
        |some d=>
         rw[hfb] at lk;simp only[Option.getD_some,Option.isSome_some] at lk;by_cases e3:d=(q:Int) - 1
         ·have q3:(d==(q:Int) - 1)=true:=by simpa using e3
          have HDB:=qh (show xL (xF E) k (q - 1) b0 by
           obtain⟨m',e4,hd⟩:=HF.o.fnd.1 hfb;obtain rfl:m'=q - 1:=by omega
           exact hd)
          clear e3;by_cases e1:b0=k
          ·have q1:(b0 !=k)=false:=by simpa using e1
           have HNB:=qh (fun(h:b0≠k/\xL (xF E) k (q - 1) b0)=>by
            exact h.1 e1:¬(b0≠k/\xL (xF E) k (q - 1) b0))
           clear hfb e1;go_wp2_with fail;go_roundw
           case rel=>exact⟨j2+1,by omega,by go_num,rfl,H7.o,R7.o,F7.o,fun c hc=>by
            rcases(zI HY.o).1 hc with hc|rfl
            ·exact HM.o c hc
            ·exact HNB.o,HB7.o⟩
           case measure=>simp[intOf];omega
          ·have q1:(b0 !=k)=true:=by simpa using e1
           have HBK:=qh e1;clear hfb e1;go_wp2_with (at_builtin;refine qN rfl _ _ _ rfl _ 8 Tryz.underlying30 Yi rfl H7.o b0 zb7 (by rfl) (by rfl) (by first|rfl|simp) rfl (XC _) (by first|omega|(simp only[List.length_append,List.length_cons,List.length_nil,List.length_replicate];omega)) (by first|omega|(simp only[List.length_append,List.length_cons,List.length_nil,List.length_replicate];omega)) ?_;refine qK.halt ?_)
           refine qK.go ?_;intro gn cn wn hn Gn;have O8:=qh hn;have F8:=qh (F7.o.grw H7.o Gn);have B8:=qh (HB7.o.trans (Gn.below hz7 fun q h=>by have:=(H7.o.lt q h).1;omega));have HCH2:=qh (fun r (hr:QQ (xF E) k (q - 1) b0 r)=>by
            have:=HCH.o (b0::r) (by
             obtain⟨q',rfl⟩:∃q',q=q'+2:=⟨q - 2,by omega⟩
             exact⟨b0,r,rfl,hxb.o,HBK.o,HDB.o,fun c hc hm hd=>HM.o c (HRL.o b0 c j2 HY.o hc hm) hd,hr⟩)
            simpa using this:∀r,QQ (xF E) k (q - 1) b0 r->QQ (xF E) k m k ((l++[b0])++r))
           clear hn Gn H7 F7 HB7 R7 HM;go_wp2_with fail;go_roundw
           case rel=>exact⟨q - 1,l++[b0],b0,by omega,by omega,by go_num,by simp,HDB.o,HCH2.o,by have:=HLQ.o;simp;omega,by simpa using O8.o,F8.o,B8.o⟩
           case measure=>simp[intOf];omega
         ·have q3:(d==(q:Int) - 1)=false:=by simpa using e3
          have HNB:=qh (fun(h:b0≠k/\xL (xF E) k (q - 1) b0)=>by
           obtain⟨m',e4,hd⟩:=HF.o.fnd.1 hfb;have:=hd.uniq h.2;omega:¬(b0≠k/\xL (xF E) k (q - 1) b0))
          clear hfb e3;go_wp2_with fail;go_roundw
          case rel=>exact⟨j2+1,by omega,by go_num,rfl,H7.o,R7.o,F7.o,fun c hc=>by
           rcases(zI HY.o).1 hc with hc|rfl
           ·exact HM.o c hc
           ·exact HNB.o,HB7.o⟩
          case measure=>simp[intOf];omega
       ·obtain rfl:j2=mR:=by omega
        exfalso;obtain⟨q',rfl⟩:∃q',q=q'+2:=⟨q - 2,by omega⟩
        obtain⟨b,hb,hbk,hd⟩:=HDX.o.next (by omega)
        refine HM.o b ?_ ⟨hbk,hd⟩;rw[←HMR.o,List.take_length];exact(HRX.o b).2 hb
     ·obtain rfl:q=1:=by omega
      have HC:=qh (HCH.o [] (by unfold QQ;rfl));go_wp2;go_ret;refine⟨_,k::l,rfl,HO.o.base (by omega),.inr ⟨k,m,l,HKN.o,HLeast.o,HDM.o,by simpa using HC.o,rfl⟩,B1.o.trans (HB.o.mono z1)⟩
  ·obtain rfl:j=nN:=by omega
   have HE:Hid (N.take j=N):=qh (by rw[←HNN.o,List.take_length]);go_wp2;go_ret;exact⟨_,[],rfl,qj.nil _ _,.inl ⟨rfl,fun x hx=>HNo.o x (by rw[HE.o];exact hx)⟩,B1.o.trans (HB.o.mono z1)⟩
end
def Ze (inits:List Int):List Int->List (Int×Int)->List Dd->Option (List (Int×Int))
 |_,wr,[]=>some wr
 |rd,wr,d::l=>
  if d.op=1 then Ze inits (if d.ret=3 then d.obj::rd else rd) wr l
  else if d.obj ∈ rd/\(d.obj,d.val) ∉ wr/\inits.getD d.obj.toNat 0≠d.val then Ze inits rd ((d.obj,d.val)::wr) l
  else none
def US (inits:List Int):List (Int×Int)->Au->Bool
 |_,[]=>true
 |wr,s::A=>match Ze inits [] wr s.deeds with
  |some wr'=>US inits wr' A
  |none=>false
def ND (lev:Int) (inits:List Int) (A:Au) (T:List Bool) (i:Nat):Option (Int×Nat):=match A[i]? with
 |some s=>if xH lev T i then(yx inits A T i (zg s) 0 [] s.deeds).map fun k=>(s.id,k) else none
 |none=>none
def ZE (lev:Int) (inits:List Int) (A:Au) (T:List Bool):Option (Int×Nat):=(List.range A.length).findSome? (ND lev inits A T)
def qcY (A:Au) (T:List Bool) (x:Int):Bool:=(List.range A.length).any fun i=>match A[i]? with
 |some s=>decide (s.id=x)&&T.getD i false
 |none=>false
def qbv (lev:Int) (A:Au) (T:List Bool):List (Int×Bool):=(List.range A.length).filterMap fun i=>match A[i]? with
 |some s=>if YS lev s&&!xH lev T i then some (s.id,false) else none
 |none=>none
def ZZ (lev:Int) (A:Au) (T:List Bool) (ord:List Int):List (Int×Bool):=(ord.map fun x=>(x,qcY A T x))++qbv lev A T
structure NJ where
 kind:Int
 steps:List (Int×Bool)
 pre:Int
 tx:Int
 deed:Int
 cyc:List Int
def yS (lev:Int) (inits:List Int) (A:Au) (a:NJ):Prop:=match ZE lev inits A (xd lev A) with
 |some (x,k)=>a=⟨2,[],0,x,k,[]⟩
 |none=>match jv (xF (qX lev A (xd lev A)).2) (qX lev A (xd lev A)).1 with
  |some ord=>a=⟨1,ZZ lev A (xd lev A) ord,0,0,0,[]⟩
  |none=>∃c,qdu (xF (qX lev A (xd lev A)).2) (qX lev A (xd lev A)).1 c/\a=⟨3,[],0,0,0,c⟩
def Qt (A:Au) (T:List Bool) (o:Int):List Nat:=(List.range A.length).filter fun i=>T.getD i false&&(match A[i]? with
 |some s=>(fnd o (ja s)).isSome
 |none=>false)
def Zg (A:Au) (o v:Int) (left:List Nat):List Nat:=left.filter fun i=>match A[i]? with
 |some s=>fnd o (zg s)==some v
 |none=>false
def wrV (A:Au) (o:Int) (i:Nat):Int:=match A[i]? with
 |some s=>(fnd o (ja s)).getD 0
 |none=>0
def zN (A:Au) (o:Int):Nat->List Nat->List Int->List Int×Bool
 |0,_,out=>(out,true)
 |_+1,[],out=>(out,true)
 |n+1,l,out=>match Zg A o (out.getLastD 0) l with
  |[i]=>zN A o n (l.filter (· !=i)) (out++[wrV A o i])
  |_=>(out,false)
def Qa (lev:Int) (inits:List Int) (A:Au) (o:Int):List Int×Bool:=zN A o ((Qt A (xd lev A) o).length+1) (Qt A (xd lev A) o) [inits.getD o.toNat 0]
section
variable {bend:Int} {n:Nat}
theorem qdd {k:Nat} {wr:List (Int×Int)} (hw:∀v:Int,(0,v) ∈ wr->v<=k):Ze [0] [] wr (yQ bend k).deeds=some ((0,((k+1:Nat):Int))::wr):=by
 unfold yQ;simp only[Ze];rw[if_pos trivial,if_neg (by decide),if_pos];refine⟨by simp,fun h=>?_,?_⟩
 ·have:=hw _ h;omega
 ·simp only[List.getD_cons_zero,Int.toNat_zero];omega
theorem KR:∀(l:List Nat) (k:Nat) (wr:List (Int×Int)),(∀v:Int,(0,v) ∈ wr->v<=k)->l=List.range' k l.length->US [0] wr (l.map (yQ bend))=true
 |[],_,_,_,_=>rfl
 |i::l,k,wr,hw,hl=>by
  rw[List.length_cons,List.range'_succ] at hl;obtain⟨rfl,hl⟩:=List.cons.inj hl;rw[List.map_cons,US,qdd hw];refine KR l (i+1) _ (fun v hv=>?_) hl;rcases List.mem_cons.1 hv with e|hv
  ·simp only[Prod.mk.injEq,true_and] at e;omega
  ·have:=hw v hv;omega
theorem qeM:US [0] [] (jm bend n)=true:=by
 unfold jm;exact KR _ 0 [] (by simp) (by rw[List.length_range,List.range_eq_range'])
theorem qgo {lev:Int} (hb:bend≠1\/n=0):ZE lev [0] (jm bend n) (xd lev (jm bend n))=none:=by
 unfold ZE;rw[List.findSome?_eq_none_iff];intro i hi;have hi:=List.mem_range.1 hi;rw[jl] at hi;unfold ND;rw[ze hi,vm];simp only;rw[qeQ hi (by omega)]
 split <;> rfl
theorem qeT {lev:Int} (hb:bend=1) (hn:n≠0):(ZE lev [0] (jm bend n) (xd lev (jm bend n))).isSome=true:=by
 unfold ZE;rw[List.isSome_findSome?,List.any_eq_true];refine⟨0,List.mem_range.2 (by rw[jl];omega),?_⟩;unfold ND;rw[ze (by omega),vm];simp only;rw[vT (by omega),if_pos rfl];subst hb;rw[JZ];simp only[yQ,yx,fnd];rw[if_neg (by decide),if_neg (by decide)];rw[if_neg]
 ·rfl
 ·rintro ⟨-,h⟩
  have e:xV 1 (0+1)=-1:=by unfold xV;rw[if_pos (by omega)];omega
  rw[e,qfj,if_neg (by omega)] at h;rcases h with h|h
  ·revert h;decide
  ·cases h
theorem qeL {lev:Int}:qbv lev (jm bend n) (xd lev (jm bend n))=[]:=by
 unfold qbv;rw[List.filterMap_eq_nil_iff];intro i hi;have hi:=List.mem_range.1 hi;rw[jl] at hi;rw[ze hi,vm,vT hi];simp
theorem qdF {m:Nat}:∀{N:List Int},zE N->(∀x,x ∈ N↔1<=x/\x<=m)->N.length=m:=by
 intro N h hx;have e:N=(List.range m).map fun i=>((i+1:Nat):Int):=by
  refine zE.ext h ?_ fun x=>?_
  ·unfold zE
   rw[List.pairwise_map];refine List.pairwise_lt_range.imp fun h=>?_;omega
  ·rw [hx,List.mem_map]
   constructor
   ·rintro ⟨h1,h2⟩;exact⟨x.toNat - 1,List.mem_range.2 (by omega),by omega⟩
   ·rintro ⟨i,hi,rfl⟩;have:=List.mem_range.1 hi;omega
 rw[e,List.length_map,List.length_range]
theorem qde {lev:Int} (hlev:lev≠1) {a:NJ} (h:yS lev [0] (jm bend n) a):(a.kind=1↔¬(1<=bend/\bend<=n))/\(a.kind=1->a.steps.length=n):=by
 unfold yS at h;by_cases hb:bend=1/\n≠0
 ·have:=qeT (lev:=lev) hb.1 hb.2
  cases e:ZE lev [0] (jm bend n) (xd lev (jm bend n)) with
  |none=>rw[e] at this;cases this
  |some p=>
   rw[e] at h;obtain⟨x,k⟩:=p;simp only at h;subst h;have:¬((2:Int)=1):=by decide
   refine⟨⟨fun h=>absurd h this,fun h=>absurd ⟨by omega,by omega⟩ h⟩,fun h=>absurd h this⟩
 ·have hb:bend≠1\/n=0:=by omega
  rw[qgo hb] at h;simp only at h;rw[vm] at h;have ht:=qeK (lev:=lev) hlev hb;cases e:jv (xF (qX lev (jm bend n) (List.replicate n true)).2) (qX lev (jm bend n) (List.replicate n true)).1 with
  |none=>
   rw[e] at h ht;obtain⟨c,-,rfl⟩:=h;have h3:¬((3:Int)=1):=by decide
   exact⟨⟨fun h=>absurd h h3,fun h=>(ht.2 h |> fun q=>by cases q)⟩,fun h=>absurd h h3⟩
  |some ord=>
   rw[e] at h ht;simp only at h;subst h;refine⟨⟨fun _=>ht.1 rfl,fun _=>rfl⟩,fun _=>?_⟩;have hl:=(WN e).1;have hr:=qeL (bend:=bend) (n:=n) (lev:=lev);rw[vm] at hr;show(ZZ lev (jm bend n) (List.replicate n true) ord).length=n;unfold ZZ;rw[hr,List.append_nil,List.length_map,hl];exact qdF Qy.srtN fun x=>MB
end
section
attribute [local irreducible] xE
theorem Nq {α:Type} {f:Nat->Option α} {n k:Nat} {b:α} (hk:k < n) (h1:f k=some b) (h2:(List.range k).findSome? f=none):(List.range n).findSome? f=some b:=by
 obtain⟨d,rfl⟩:∃d,n=k+(d+1):=⟨n - k - 1,by omega⟩
 rw[List.range_add,List.findSome?_append,h2,List.range_succ_eq_map];simp[h1]
theorem Vq {α:Type} {f:Nat->Option α} {k:Nat} (h1:f k=none) (h2:(List.range k).findSome? f=none):(List.range (k+1)).findSome? f=none:=by
 rw[List.range_succ,List.findSome?_append,h2];simp[h1]
theorem qdn {f:Nat->Bool} {k:Nat}:(List.range (k+1)).any f=((List.range k).any f||f k):=by
 rw[List.range_succ,List.any_append];simp
theorem ZW {P:List Pr} {N:List Int}:∀{m:Nat} {out l:List Int},yX P N m out=some l->l.length=out.length+m
 |0,out,l,h=>by simp only[yX,Option.some.injEq] at h;subst h;rfl
 |m+1,out,l,h=>by
  unfold yX at h;cases e:Qb P N out with
  |none=>rw[e] at h;cases h
  |some x=>rw[e] at h;have:=ZW h;simp at this;omega
theorem MS {P:List Pr} {N l:List Int} (h:jv P N=some l):l.length=N.length:=by have:=ZW h;simpa using this
def uT (A:Au) (T:List Bool):Nat->Int->Option Value
 |0=>fun _=>none
 |k+1=>match A[k]? with
  |some s=>VM (uT A T k) s.id (some (.bool (T.getD k false)))
  |none=>uT A T k
theorem JY {A:Au} {T:List Bool} (hnd:(A.map (·.id)).Nodup) (x:Int):∀{k:Nat},k<=A.length->(uT A T k x).getD (.bool false)=.bool ((List.range k).any fun i=>match A[i]? with
  |some s=>decide (s.id=x)&&T.getD i false
  |none=>false)
 |0,_=>rfl
 |k+1,hk=>by
  have hg:A[k]?=some A[k]:=List.getElem?_eq_getElem (by omega);have ih:=JY (T:=T) hnd x (k:=k) (by omega);rw[qdn];unfold uT;rw[hg];simp only;by_cases e:x=A[k].id
  ·subst e
   rw[xC];have h0:((List.range k).any fun i=>match A[i]? with
     |some s=>decide (s.id=A[k].id)&&T.getD i false
     |none=>false)=false:=by
    rw[List.any_eq_false];intro i hi;have hi:=List.mem_range.1 hi;rw[List.getElem?_eq_getElem (show i < A.length by omega)];simp only;have hne:A[i].id≠A[k].id:=fun e=>by
     have h1:(A.map (·.id))[i]'(by simp;omega)=(A.map (·.id))[k]'(by simp;omega):=by simpa using e
     have h2:(A.map (·.id))[i]?=(A.map (·.id))[k]?:=by
      rw[List.getElem?_eq_getElem (by simp;omega),List.getElem?_eq_getElem (by simp;omega),h1]
     have:=(List.getElem?_inj (by simp;omega) hnd (j:=k)).1 h2;omega
    simp[hne]
   rw[h0];simp
  ·rw [qZ e,ih]
   have:decide (A[k].id=x)=false:=by simpa using fun h=>e h.symm
   rw[this];simp
def Zd (lev:Int) (A:Au) (T:List Bool) (k:Nat):List (Int×Bool):=(List.range k).filterMap (fun i=>match A[i]? with
 |some s=>if YS lev s&&!xH lev T i then some (s.id,false) else none
 |none=>none)
theorem Rr {lev:Int} {A:Au} {T:List Bool} {k:Nat} {s:St} (h:A[k]?=some s):Zd lev A T (k+1)=Zd lev A T k++(if YS lev s&&!xH lev T k then[(s.id,false)] else[]):=by
 unfold Zd;rw[List.range_succ,List.filterMap_append];congr 1;rw[List.filterMap_cons,h];simp only;cases (YS lev s&&!xH lev T k) <;> rfl
theorem qab {lev:Int} {A:Au} {T:List Bool} {k:Nat}:(Zd lev A T k).length<=k:=by
 unfold Zd;refine Nat.le_trans (List.length_filterMap_le _ _) (by simp)
def vp (a:NJ) (vs vc:Value):Value:=.agg #[.int .i64 a.kind,vs,.slice none 0 0,.int .i64 a.pre,.int .i64 a.tx,.int .i64 a.deed,vc]
def VA (w:World) (B:Nat) (vs vc:Value) (a:NJ):Prop:=qj Xj 87 2 w B vs a.steps/\xJ w B vc a.cyc
section
variable {w:World} {lo hi pW bB:Nat} {lev:Int} {ov vv lv:Value} {ms:List xz} {A:Au} {T:List Bool} {os:List Ob}
theorem Mq (h:xT w lo hi pW bB lev ov vv ms lv A (xd lev A)) (ho:Sl w w.heap.size 2 ov os.length (os.flatMap Ob.cells)) (hvv:∃x y z,vv=.slice x y z) (hD:UF os A) (hd:Qg A) (hal:A.length<=200) (hnd:(A.map (·.id)).Nodup) (hlv:lev=1\/lev=2\/lev=3) (hhi:hi<=w.heap.size):
  Calls Tryz.prog 32 #[.pointer (some ⟨pW,0,none⟩)] w fun e w'=>∃a vs vc,e=.returned (vp a vs vc)/\yS lev (os.map (·.init)) A a/\VA w' w.heap.size vs vc a/\Below w.heap.size w w':=by
 obtain⟨ao,co,hov,mo⟩:=ho.ex;have HOV:=qh (show ∃x y z,ov=.slice x y z from⟨_,_,_,hov⟩);have HVV:=qh hvv;obtain⟨al,cl,hlv0⟩:=qj.sli h.lst;subst hlv0;obtain⟨T,hT⟩:∃T,xd lev A=T:=⟨_,rfl⟩
 rw[hT] at h;have HT:=qh hT;have HH:=qh h;have HO:=qh ho;have HD:=qh hD;have HMD:=qh hd;have HND:=qh hnd;have HLV:=qh hlv;have hml:ms.length=A.length:=h.len;have hml2:ms.length<=200:=by omega
 have HML:=qh hml;have hmm:=@run_makeMap Tryz.prog;have b0:Below w.heap.size w (w.alloc (.cells #[.int .i64 0,.slice none 0 0,.slice none 0 0,.int .i64 0,.int .i64 0,.int .i64 0,.slice none 0 0] 32)):=(Below.refl _ w).alloc (Nat.le_refl _) _;have B0:=qh b0;have R0:=qh (qy w (.cells #[.int .i64 0,.slice none 0 0,.slice none 0 0,.int .i64 0,.int .i64 0,.int .i64 0,.slice none 0 0] 32));have F0:=qh (h.below b0 hhi (Nat.le_refl _));have hz0:w.heap.size < (w.alloc (.cells #[.int .i64 0,.slice none 0 0,.slice none 0 0,.int .i64 0,.int .i64 0,.int .i64 0,.slice none 0 0] 32)).heap.size:=by simp
 have yq:=qa h.row 3;simp at yq;have yql:=qd h.row;clear h ho hvv hD hd hnd hlv hov mo hml hT b0;go_enter Tryz.func32,Tryz.ntmps32;go_wp2_with fail;generalize w.alloc (.cells #[.int .i64 0,.slice none 0 0,.slice none 0 0,.int .i64 0,.int .i64 0,.int .i64 0,.slice none 0 0] 32)=W at *
 go_loopw [23] (fun q wr=>∃(k:Nat),k<=ms.length/\q=.int .i64 k/\(List.range k).findSome? (ND lev (os.map (·.init)) A T)=none/\xT wr lo hi pW bB lev ov vv ms (.slice al ms.length cl) A T/\wr.heap[w.heap.size]?=some (.cells #[.int .i64 0,.slice none 0 0,.slice none 0 0,.int .i64 0,.int .i64 0,.int .i64 0,.slice none 0 0] 32 (0,0))/\Below w.heap.size w wr) (fun q _=>ms.length - (intOf q).toNat)
 case atStart=>exact⟨0,by omega,by go_num,rfl,F0.o,R0.o,B0.o⟩
 case round=>
  obtain⟨k,hk,rfl,hno,hF,hR,hB⟩:=hrel;have HNO:=qh hno;have HF:=qh hF;have HR:=qh hR;have HB:=qh hB;have hwz:=hB.size;clear hno hF hR hB F0 R0 B0 hz0 yq yql W;by_cases hlt:k < ms.length
  ·obtain ⟨bl,ol,m,hqe,hbl,hmk,hcl⟩:=(qj.sl HF.o.lst).atF xz.len rfl hlt
   subst hqe;have c0:wr.cell? ⟨bl,ol+k,none⟩=some (.pointer (some ⟨m.p,0,none⟩)):=by have:=hcl 0 (by decide);simpa[xz.cells,xD] using this
   obtain⟨m0,s,g1,hsk,hMv⟩:=HF.o.get (k:=k) (by have:=HML.o;omega);rw[hmk] at g1;obtain rfl:=Option.some.inj g1;have HMK:=qh hmk;have HSK:=qh hsk;have ym:=qa hMv.row;have ym9:=ym 9;simp at ym9;have yml:=qd hMv.row;obtain⟨lk,hlk⟩:∃lk,xH lev T k=lk:=⟨_,rfl⟩
   rw[hlk] at ym9;have HLK:=qh hlk;clear hmk hsk hMv ym hcl hlk;cases lk with
   |false=>
    go_wp2_with fail;go_roundw
    case rel=>exact⟨k+1,by omega,by go_num,Vq (by unfold ND;rw[HSK.o];simp only[HLK.o,Bool.false_eq_true,if_false]) HNO.o,HF.o,HR.o,HB.o⟩
    case measure=>simp[intOf];omega
   |true=>
    have EC:=qh (qgb HF.o ((HO.o.below HB.o).more hwz) HVV.o HD.o HMK.o HSK.o (by omega));go_wp2_with fail;refine(EC.o).mono ?_;rintro e W4 ⟨he,b4⟩;have HBD:=qh (show ND lev (os.map (·.init)) A T k=(yx (os.map (·.init)) A T k (zg s) 0 [] s.deeds).map fun x=>(s.id,x) by unfold ND;rw[HSK.o];simp only[HLK.o,if_true]);obtain⟨R,hRe⟩:∃R,yx (os.map (·.init)) A T k (zg s) 0 [] s.deeds=R:=⟨_,rfl⟩
    rw[hRe] at he HBD;have F4:=qh (HF.o.below b4 (by omega) (Nat.le_refl _));have R4:=qh (qp HR.o b4 (qd HR.o));have B4:=qh (HB.o.trans (b4.mono hwz));clear b4 EC HF HR HB hRe;cases R with
    |none=>
     unfold Wr at he;subst he;go_wp2_with fail;go_roundw
     case rel=>exact⟨k+1,by omega,by go_num,Vq (by rw[HBD.o];rfl) HNO.o,F4.o,R4.o,B4.o⟩
     case measure=>simp[intOf];omega
    |some x=>
     unfold Wr at he;simp only at he;subst he;have HBF:=qh (show ZE lev (os.map (·.init)) A T=some (s.id,x) by unfold ZE;exact Nq (by have:=HML.o;omega) (by rw[HBD.o];rfl) HNO.o);have rm:=(F4.o.mv k m s HMK.o HSK.o).row;have ym0:=qa rm 0;simp at ym0;have yml4:=qd rm;have yr:=qa R4.o;have yr0:=yr 0;have yr1:=yr 1;have yr2:=yr 2;have yr3:=yr 3;have yr4:=yr 4;have yr5:=yr 5;have yr6:=yr 6;simp at yr0 yr1 yr2 yr3 yr4 yr5 yr6;have yrf:=fun o=>qB R4.o o;have yrl:=qd R4.o;clear rm yr ym9 yml c0;go_wp2_with fail;have RF:=qq (qq (qq (qq (qq (qq (qq R4.o 0 (.int .i64 2)) 1 (.slice none 0 0)) 2 (.slice none 0 0)) 3 (.int .i64 0)) 4 (.int .i64 s.id)) 5 (.int .i64 x)) 6 (.slice none 0 0);have hB9:=qh (((((((B4.o.setCell (p:=⟨w.heap.size,0,none⟩) (Nat.le_refl _) (.int .i64 2)).setCell (p:=⟨w.heap.size,1,none⟩) (Nat.le_refl _) (.slice none 0 0)).setCell (p:=⟨w.heap.size,2,none⟩) (Nat.le_refl _) (.slice none 0 0)).setCell (p:=⟨w.heap.size,3,none⟩) (Nat.le_refl _) (.int .i64 0)).setCell (p:=⟨w.heap.size,4,none⟩) (Nat.le_refl _) (.int .i64 s.id)).setCell (p:=⟨w.heap.size,5,none⟩) (Nat.le_refl _) (.int .i64 x)).setCell (p:=⟨w.heap.size,6,none⟩) (Nat.le_refl _) (.slice none 0 0));have c0:=qa RF 0;have c1:=qa RF 1;have c2:=qa RF 2;have c3:=qa RF 3;have c4:=qa RF 4;have c5:=qa RF 5;have c6:=qa RF 6;simp only[Array.set!,Array.setIfInBounds,List.getElem?_toArray,List.getElem?_cons_zero,List.getElem?_cons_succ] at c0 c1 c2 c3 c4 c5 c6;simp at c0 c1 c2 c3 c4 c5 c6;refine bodyPost_ret (v:=vp ⟨2,[],0,s.id,x,[]⟩ (.slice none 0 0) (.slice none 0 0)) (by simp[results,Tryz.results32,go_sem,vp,c0,c1,c2,c3,c4,c5,c6]) rfl ?_;refine⟨⟨2,[],0,s.id,x,[]⟩,_,_,rfl,?_,⟨qj.nil _ _,qj.nil _ _⟩,hB9.o⟩;unfold yS;rw[HT.o,HBF.o]
  ·obtain rfl:k=ms.length:=by omega
   have hq:decide ((ms.length:Int) < (ms.length:Int))=false:=by simp
   have HBF:=qh (show ZE lev (os.map (·.init)) A T=none by unfold ZE;rw[←HML.o];exact HNO.o);have GC:=qh (qev HF.o HOV.o HVV.o HMD.o HD.o.id hal (by omega));go_wp2_with fail;refine(GC.o).mono ?_;rintro e W4 ⟨pg,rfl,hg4,b4⟩;have F4:=qh (HF.o.below b4 (by omega) (Nat.le_refl _));have R4:=qh (qp HR.o b4 (qd HR.o));have B4:=qh (HB.o.trans (b4.mono hwz));have hNl:(qX lev A T).1.length<=900000/\(qX lev A T).2.length<=900000:=Nn hal;have G4:=qh hg4;have TC:=qh (qef hg4 (Nat.le_refl _) hNl.1 hNl.2);have hz4:=b4.size;clear b4 hg4 GC HF HR HB;go_wp2_with fail;refine(TC.o).mono ?_;rintro e W5 ⟨vo,o,rfl,ho5,hot,b5⟩;cases o with
   |none=>
    simp only[Option.isSome_none];have CC:=qh (qcq (w:=W5) (G4.o.below b5 (Nat.le_refl _)) b5.size hNl.1 hNl.2);have R5:=qh (qp R4.o b5 (qd R4.o));have B5:=qh (B4.o.trans (b5.mono (by omega)));have HOT:=qh hot;have hz5:=b5.size;clear ho5 hot b5 TC G4 F4 R4 B4;go_wp2_with fail;refine(CC.o).mono ?_;rintro e W6 ⟨v,c,rfl,hv,hcy,b6⟩;have R6:=qh (qp R5.o b6 (qd R5.o));have yr:=qa R6.o;have yr0:=yr 0;have yr1:=yr 1;have yr2:=yr 2;have yr3:=yr 3;have yr4:=yr 4;have yr5:=yr 5;have yr6:=yr 6;simp at yr0 yr1 yr2 yr3 yr4 yr5 yr6;have yrf:=fun o=>qB R6.o o;have yrl:=qd R6.o;have HV6:=qh hv;have HCY:=qh hcy;have B6:=qh (B5.o.trans (b6.mono (by omega)));obtain⟨av,cv,hvq⟩:=qj.sli hv;subst hvq;clear yr hv hcy b6;go_wp2_with fail;have RF:=qq (qq (qq (qq (qq (qq (qq R6.o 0 (.int .i64 3)) 1 (.slice none 0 0)) 2 (.slice none 0 0)) 3 (.int .i64 0)) 4 (.int .i64 0)) 5 (.int .i64 0)) 6 (.slice av c.length cv);have hB9:=qh (((((((B6.o.setCell (p:=⟨w.heap.size,0,none⟩) (Nat.le_refl _) (.int .i64 3)).setCell (p:=⟨w.heap.size,1,none⟩) (Nat.le_refl _) (.slice none 0 0)).setCell (p:=⟨w.heap.size,2,none⟩) (Nat.le_refl _) (.slice none 0 0)).setCell (p:=⟨w.heap.size,3,none⟩) (Nat.le_refl _) (.int .i64 0)).setCell (p:=⟨w.heap.size,4,none⟩) (Nat.le_refl _) (.int .i64 0)).setCell (p:=⟨w.heap.size,5,none⟩) (Nat.le_refl _) (.int .i64 0)).setCell (p:=⟨w.heap.size,6,none⟩) (Nat.le_refl _) (.slice av c.length cv));have c0:=qa RF 0;have c1:=qa RF 1;have c2:=qa RF 2;have c3:=qa RF 3;have c4:=qa RF 4;have c5:=qa RF 5;have c6:=qa RF 6;simp at c0 c1 c2 c3 c4 c5 c6;have HV9:=qh (show qj zK 3 1 ((((((((W6.setCell ⟨w.heap.size,0,none⟩ (.int .i64 3)).setCell ⟨w.heap.size,1,none⟩ (.slice none 0 0)).setCell ⟨w.heap.size,2,none⟩ (.slice none 0 0)).setCell ⟨w.heap.size,3,none⟩ (.int .i64 0)).setCell ⟨w.heap.size,4,none⟩ (.int .i64 0)).setCell ⟨w.heap.size,5,none⟩ (.int .i64 0)).setCell ⟨w.heap.size,6,none⟩ (.slice av c.length cv))) w.heap.size (.slice av c.length cv) c from by
     have hne:=qj.neT HV6.o R6.o (by decide);exact qj.base (qj.other (qj.other (qj.other (qj.other (qj.other (qj.other (qj.other HV6.o hne _) hne _) hne _) hne _) hne _) hne _) hne _) (by omega))
    refine bodyPost_ret (v:=vp ⟨3,[],0,0,0,c⟩ (.slice none 0 0) (.slice av c.length cv)) (by simp[results,Tryz.results32,go_sem,vp,c0,c1,c2,c3,c4,c5,c6]) rfl ?_;refine⟨⟨3,[],0,0,0,c⟩,_,_,rfl,?_,⟨qj.nil _ _,HV9.o⟩,hB9.o⟩;unfold yS;rw[HT.o,HBF.o,←HOT.o];exact⟨c,HCY.o,rfl⟩
   |some ord=>
    simp only[Option.isSome_some];obtain⟨ao,co,hvq⟩:=qj.sli ho5;subst hvq;simp only[Option.getD_some] at ho5 ⊢;have HOT:=qh hot;have HOO:=qh ho5;have HOL:=qh (MS hot.symm);have F5:=qh (F4.o.below b5 (by omega) (Nat.le_refl _));have R5:=qh (qp R4.o b5 (qd R4.o));have B5:=qh (B4.o.trans (b5.mono (by omega)));have hz5:=b5.size;have HNL:=qh hNl.1;have hol9:ord.length<=900000:=by have:=HOL.o;have:=HNL.o;omega
    clear ho5 hot b5 TC G4 F4 R4 B4 hNl;have b7:=((Below.refl _ W5).alloc (Nat.le_refl _) (.cells #[.int .i64 1,.slice none 0 0,.slice none 0 0,.int .i64 0,.int .i64 0,.int .i64 0,.slice none 0 0] 32)).alloc (by simp) (.map #[] 0);have B7:=qh b7;have F7:=qh (F5.o.below b7 (by omega) (Nat.le_refl _));have RT7:=qh (qD (qy W5 (.cells #[.int .i64 1,.slice none 0 0,.slice none 0 0,.int .i64 0,.int .i64 0,.int .i64 0,.slice none 0 0] 32)) (o:=.map #[] 0));have hz7:((W5.alloc (.cells #[.int .i64 1,.slice none 0 0,.slice none 0 0,.int .i64 0,.int .i64 0,.int .i64 0,.slice none 0 0] 32)).alloc (.map #[] 0)).heap.size=W5.heap.size+1+1:=by simp
    have M7:=qh (show qS ((W5.alloc (.cells #[.int .i64 1,.slice none 0 0,.slice none 0 0,.int .i64 0,.int .i64 0,.int .i64 0,.slice none 0 0] 32)).alloc (.map #[] 0)) (W5.heap.size+1) (uT A T 0) from qS.fun (qS.made (by have:=heap_alloc_new (W5.alloc (.cells #[.int .i64 1,.slice none 0 0,.slice none 0 0,.int .i64 0,.int .i64 0,.int .i64 0,.slice none 0 0] 32)) (.map #[] 0);simpa using this)) fun _=>rfl);have yq:=qa F7.o.row 3;simp at yq;have yql:=qd F7.o.row;clear b7;go_wp2_with fail;have HZ7:=qh hz7;generalize (W5.alloc (.cells #[.int .i64 1,.slice none 0 0,.slice none 0 0,.int .i64 0,.int .i64 0,.int .i64 0,.slice none 0 0] 32)).alloc (.map #[] 0)=W7 at *;clear hz7
    go_loopw [67] (fun q wq=>∃(k:Nat),k<=ms.length/\q=.int .i64 k/\qS wq (W5.heap.size+1) (uT A T k)/\wq.heap[W5.heap.size]?=some (.cells #[.int .i64 1,.slice none 0 0,.slice none 0 0,.int .i64 0,.int .i64 0,.int .i64 0,.slice none 0 0] 32 (0,0))/\Below W5.heap.size W5 wq) (fun q _=>ms.length - (intOf q).toNat)
    case atStart=>exact⟨0,by omega,by go_num,M7.o,RT7.o,B7.o⟩
    case round=>
     obtain⟨k,hk,rfl,hM,hT,hB⟩:=hrel;have HM:=qh hM;have HTR:=qh hT;have HB:=qh hB;have HF:=qh (F5.o.below hB (by omega) (Nat.le_refl _));clear hM hT hB M7 RT7 B7 F7 HZ7 yq yql W7;by_cases hlt:k < ms.length
     ·obtain ⟨bl,ol,m,hqe,hbl,hmk,hcl⟩:=(qj.sl HF.o.lst).atF xz.len rfl hlt
      subst hqe;have c0:wr.cell? ⟨bl,ol+k,none⟩=some (.pointer (some ⟨m.p,0,none⟩)):=by have:=hcl 0 (by decide);simpa[xz.cells,xD] using this
      obtain⟨m0,s,g1,hsk,hMv⟩:=HF.o.get (k:=k) (by have:=HML.o;omega);rw[hmk] at g1;obtain rfl:=Option.some.inj g1;have HSK:=qh hsk;have hr:=hMv.row;obtain⟨tk,htk⟩:∃tk,T.getD k false=tk:=⟨_,rfl⟩
      have HTK:=qh htk;rw[htk] at hr;have ym:=qa hr;have ym0:=ym 0;have ym10:=ym 10;simp at ym0 ym10;have yml:=qd hr;clear hmk hsk hMv ym hcl hr htk;go_wp2_with fail;refine qI (wr.heap.size) [0,0,0,0,0,1,0,0,0,1,2] (.fin [0,1,2,3,4,5,6,7,8,9,10]) (by kernel_rfl) ?_;simp only[xi,qP,qA,sD,sE,sF,sG]
      repeat first|(refine qz fun K hK=>?_;go_simp;refine hK _ _ ?_;clear hK K)|(apply qC;(intro w2 hw2;have hk1:=hw2.cell;have hk3:=hw2.1;clear hw2;go_simp;with_reducible rfl);simp only[Act.put,sA,sB,sC])
      refine qM (fun K hK=>?_);refine(qS.drew HM.o).wp_store Tryz.underlying3 Tryz.underlying102 (a:=s.id) (v:=.bool tk) (.inl rfl) (by rfl) (by rfl) (by rfl) ?_;intro w6 h6 t6;refine hK _ _ ?_;clear hK K;have M6:=qh (show qS w6 (W5.heap.size+1) (uT A T (k+1)) by unfold uT;rw[HSK.o];simp only;rw[HTK.o];exact h6);have B6:=qh ((HB.o.drew).trans (Below.turned t6 (Nat.le_succ _)));have T6:=qh (show w6.heap[W5.heap.size]?=some (.cells #[.int .i64 1,.slice none 0 0,.slice none 0 0,.int .i64 0,.int .i64 0,.int .i64 0,.slice none 0 0] 32 (0,0)) from(qE t6 (by omega)).trans HTR.o);clear h6 t6
      repeat refine qu ?_
      go_wp2_with fail;go_roundw
      case rel=>exact⟨k+1,by omega,by go_num,M6.o,T6.o,B6.o⟩
      case measure=>simp[intOf];omega
     ·obtain rfl:k=ms.length:=by omega
      have hq:decide ((ms.length:Int) < (ms.length:Int))=false:=by simp
      go_wp2_with fail;have MC:=qh (show qS wr (W5.heap.size+1) (uT A T A.length) by rw[←HML.o];exact HM.o);have RT0:=qh HTR.o;have B0':=qh HB.o
      go_loopw [84] (fun q wq=>∃(k:Nat) (vs:Value),k<=ord.length/\q=.int .i64 k/\qS wq (W5.heap.size+1) (uT A T A.length)/\wq.heap[W5.heap.size]?=some (.cells #[.int .i64 1,vs,.slice none 0 0,.int .i64 0,.int .i64 0,.int .i64 0,.slice none 0 0] 32 (0,0))/\qj Xj 87 2 wq W5.heap.size vs ((ord.take k).map fun x=>(x,qcY A T x))/\Below W5.heap.size W5 wq) (fun q _=>ord.length - (intOf q).toNat)
      case atStart=>exact⟨0,_,by omega,by go_num,MC.o,RT0.o,qj.nil _ _,B0'.o⟩
      case round=>
       clear HM HTR HB HF MC RT0 B0' hq;obtain⟨k,vs,hk,rfl,hM,hT,hS,hB⟩:=hrel;have HM:=qh hM;have HTR:=qh hT;have HB:=qh hB;have HS:=qh hS;obtain⟨aS,cS,hvq⟩:=qj.sli hS;subst hvq;obtain⟨L,hL⟩:∃L,(ord.take k).map (fun x=>(x,qcY A T x))=L:=⟨_,rfl⟩
       rw[hL] at HS hS HTR hT;have HLL:=qh hL;have HLE:=qh (show L.length=k by rw[←hL];simp;omega);have hwz:=hB.size;have yr:=qa hT;have yr1:=yr 1;simp at yr1;have yrl:=qd hT;have yrf:=fun o=>qB hT o;clear hM hT hB hS hL yr;by_cases hlt:k < ord.length
       ·obtain ⟨bo,oo,x,hqe,hbo,hxk,hcl⟩:=(qj.sl HOO.o).atF Qx rfl hlt
        subst hqe;have c0:wr.cell? ⟨bo,oo+k,none⟩=some (.int .i64 x):=by have:=qx HB.o hbo (hcl 0 (by decide));simpa[zK] using this
        have hbw:bo < wr.heap.size:=by omega
        obtain⟨cx,hcx⟩:∃cx,qcY A T x=cx:=⟨_,rfl⟩
        have HCX:=qh hcx;have HXK:=qh hxk;have hlk:Sem.run Tryz.prog (Instr.lookup 102 (.map (some (W5.heap.size+1))) (.int .i64 x) false) wr=.ok (.bool cx) wr:=by
         have:=(HM.o.look Tryz.underlying3 Tryz.underlying102 (ZR _) x rfl).1;rw[JY HND.o x (Nat.le_refl _)] at this;rw[←hcx];exact this
        have hkb:L.length<=900000:=by have:=HNL.o;have:=HOL.o;have:=HLE.o;omega
        clear hcl hcx hxk;go_wp2_with (at_builtin;refine qN rfl _ _ _ rfl _ 16 Tryz.underlying28 JD rfl HS.o (x,cx) (by first|omega|(simp <;> omega)) (by rfl) (by rfl) (by first|rfl|simp) rfl (Ja _) (by first|omega|(simp only[List.length_append,List.length_cons,List.length_nil,List.length_replicate];omega)) (by first|omega|(simp only[List.length_append,List.length_cons,List.length_nil,List.length_replicate];omega)) ?_;refine qK.halt ?_)
        refine qK.go ?_;intro g8 c8 w8 o8 G8;have hne:=qj.neT HS.o HTR.o (by decide);have rt8:=qL HTR.o G8 hne;have hne8:=qj.neT o8 rt8 (by decide);have T9:=qh (qq rt8 1 (.slice (some ⟨g8,0,none⟩) (L.length+1) c8));have O9:=qh (qj.other (j:=1) o8 hne8 (.slice (some ⟨g8,0,none⟩) (L.length+1) c8));have M9:=qh (qS.set (j:=1) (HM.o.obj (G8.grown.block (W5.heap.size+1) HM.o.lt fun e=>qj.neM HS.o HM.o.isMap e.symm)) (g:=W5.heap.size) (by omega) (v:=.slice (some ⟨g8,0,none⟩) (L.length+1) c8));have B9:=qh ((HB.o.trans (G8.below hwz fun j hj=>(qj.lt HS.o j hj).1)).setCell (p:=⟨W5.heap.size,1,none⟩) (Nat.le_refl _) (.slice (some ⟨g8,0,none⟩) (L.length+1) c8));have y8l:=qd rt8;have y8:=qa rt8 1;simp at y8;have y8f:=qB rt8 1;clear rt8 o8 G8 hne hne8 yr1 yrl yrf c0 hlk;go_wp2_with fail;go_roundw
        case rel=>
         refine⟨k+1,_,by omega,by go_num,M9.o,by simpa using T9.o,?_,B9.o⟩;rw[List.take_add_one,HXK.o,List.map_append,HLL.o,Option.toList_some,List.map_cons,List.map_nil,HCX.o];exact O9.o
        case measure=>
         simp[intOf];omega
       ·obtain rfl:k=ord.length:=by omega
        have hq:decide ((ord.length:Int) < (ord.length:Int))=false:=by simp
        have HLL:=qh (show ord.map (fun x=>(x,qcY A T x))=L by have:=HLL.o;rwa [List.take_length] at this);have HF:=qh (F5.o.below HB.o (by omega) (Nat.le_refl _));have yq:=qa HF.o.row 3;simp at yq;have yql:=qd HF.o.row;go_wp2_with fail;have S0:=qh HS.o;have RT0:=qh HTR.o;have B0':=qh HB.o
        go_loopw [104] (fun q wq=>∃(k:Nat) (vs:Value),k<=ms.length/\q=.int .i64 k/\wq.heap[W5.heap.size]?=some (.cells #[.int .i64 1,vs,.slice none 0 0,.int .i64 0,.int .i64 0,.int .i64 0,.slice none 0 0] 32 (0,0))/\qj Xj 87 2 wq W5.heap.size vs (L++Zd lev A T k)/\Below W5.heap.size W5 wq) (fun q _=>ms.length - (intOf q).toNat)
        case atStart=>exact⟨0,_,by omega,by go_num,RT0.o,by simpa[Zd] using S0.o,B0'.o⟩
        case round=>
         clear HM HTR HB HF S0 RT0 B0' hq yq yql yr1 yrl yrf HS;obtain⟨k,vs,hk,rfl,hT,hS,hB⟩:=hrel;have HTR:=qh hT;have HB:=qh hB;have HF:=qh (F5.o.below hB (by omega) (Nat.le_refl _));have HS:=qh hS;obtain⟨aS,cS,hvq⟩:=qj.sli hS;subst hvq;obtain⟨KL,hL⟩:∃KL,L++Zd lev A T k=KL:=⟨_,rfl⟩
         rw[hL] at HS hS HTR hT;have HKK:=qh hL;have hkl:KL.length<=901000:=by
          rw[←hL,List.length_append];have h1:=qab (lev:=lev) (A:=A) (T:=T) (k:=k);have h2:=HNL.o;have h3:=HOL.o;have h4:=HLE.o;omega
         have hwz:=hB.size;have yr:=qa hT;have yr1:=yr 1;simp at yr1;have yrl:=qd hT;have yrf:=fun o=>qB hT o;by_cases hlt:k < ms.length
         ·obtain ⟨bl,ol,m,hqe,hbl,hmk,hcl⟩:=(qj.sl HF.o.lst).atF xz.len rfl hlt
          subst hqe;have c0:wr.cell? ⟨bl,ol+k,none⟩=some (.pointer (some ⟨m.p,0,none⟩)):=by have:=hcl 0 (by decide);simpa[xz.cells,xD] using this
          obtain⟨m0,s,g1,hsk,hMv⟩:=HF.o.get (k:=k) (by have:=HML.o;omega);rw[hmk] at g1;obtain rfl:=Option.some.inj g1;have HSK:=qh hsk;obtain⟨ad,cd,hdv⟩:=qj.sli hMv.dds;have hr:=hMv.row;unfold Mg at hr;rw[hdv] at hr;obtain⟨lk,hlk⟩:∃lk,xH lev T k=lk:=⟨_,rfl⟩
          rw[hlk] at hr;have HLK:=qh hlk;have ym:=qa hr;have ym0:=ym 0;have ym1:=ym 1;have ym2:=ym 2;have ym3:=ym 3;have ym4:=ym 4;have ym5:=ym 5;have ym6:=ym 6;have ym9:=ym 9;simp at ym0 ym1 ym2 ym3 ym4 ym5 ym6 ym9;have yml:=qd hr;have HRW:=qh hr;have SC:=qh (Xu lev HLV.o s.id s.thread s.status s.beg s.fin s.tri ad s.deeds.length cd wr.drew);have yw:=qa HF.o.row 1;have yw2:=qa HF.o.row 2;simp at yw2;have ywl:=qd HF.o.row;clear hmk hsk hMv ym hcl hr hlk hdv hT hS hB hL yr yw;go_wp2_with fail;refine qI (wr.heap.size) [0,0,0,1,0,0,0,1,2,0,0,0,0,1,0,0] (.fin [0,1,2,3,4,5,6,7,8,9,10,11,12,13,14,15]) (by kernel_rfl) ?_;simp only[xi,qP,qA,sD,sE,sF,sG,Option.bind_some]
          repeat first|(refine qz fun K hK=>?_;go_simp;refine hK _ _ ?_;clear hK K)|(apply qC;(intro w2 hw2;have hk1:=hw2.cell;have hk3:=hw2.1;clear hw2;go_simp;with_reducible rfl);simp only[Act.put,sA,sB,sC])
          refine qM (fun K hK=>?_);go_simp;refine(SC.o).mono ?_;rintro e W6 ⟨rfl,b6⟩;refine hK _ _ ?_;clear hK K;have hb6:Below wr.heap.size wr W6:=(Below.refl wr.heap.size wr).drew.trans b6;have B6:=qh (HB.o.trans (hb6.mono hwz));have T6:=qh (qp HTR.o hb6 (qd HTR.o));have S6:=qh (qj.below HS.o hb6);have r6:=qp HRW.o hb6 (qd HRW.o);have zm0:=qa r6 0;have zm9:=qa r6 9;simp at zm0 zm9;have zml:=qd r6;have z1:=qa T6.o 1;simp at z1;have zl:=qd T6.o;have hw6:W5.heap.size<=W6.heap.size:=B6.o.size;have HRC:=qh (Rr (lev:=lev) (T:=T) HSK.o);rw[qcZ,HLK.o] at HRC;obtain⟨cc,hcc⟩:∃cc,Uw lev s.status=cc:=⟨_,rfl⟩
          rw[hcc] at HRC ⊢;clear b6 hb6 hcc r6 ym0 ym1 ym2 ym3 ym4 ym5 ym6 ym9 yr1 yrl yrf SC c0 yw2 ywl;cases cc with
          |false=>
           repeat first|(refine qz fun K hK=>?_;go_simp;refine hK _ _ ?_;clear hK K)|(apply qC;(intro w2 hw2;have hk1:=hw2.cell;have hk3:=hw2.1;clear hw2;go_simp;with_reducible rfl);simp only[Act.put,sA,sB,sC])|refine qH rfl rfl ?_|(refine qQ rfl rfl fun K hK=>?_;simp only[Act.put,sA,sB,sC];refine hK _ _ ?_;clear hK K)|(refine qW rfl fun K hK=>?_;simp only[Act.put,sA,sB,sC];refine hK _ _ ?_;clear hK K)|refine qu ?_
           go_wp2_with fail;go_roundw
           case rel=>exact⟨k+1,_,by omega,by go_num,T6.o,by rw[HRC.o,if_neg (by simp),←List.append_assoc,HKK.o];simpa using S6.o,B6.o⟩
           case measure=>simp[intOf];omega
          |true=>
           cases lk with
           |true=>
            repeat first|(refine qz fun K hK=>?_;go_simp;refine hK _ _ ?_;clear hK K)|(apply qC;(intro w2 hw2;have hk1:=hw2.cell;have hk3:=hw2.1;clear hw2;go_simp;with_reducible rfl);simp only[Act.put,sA,sB,sC])|refine qH rfl rfl ?_|(refine qQ rfl rfl fun K hK=>?_;simp only[Act.put,sA,sB,sC];refine hK _ _ ?_;clear hK K)|(refine qW rfl fun K hK=>?_;simp only[Act.put,sA,sB,sC];refine hK _ _ ?_;clear hK K)|refine qu ?_
            go_wp2_with fail;go_roundw
            case rel=>exact⟨k+1,_,by omega,by go_num,T6.o,by rw[HRC.o,if_neg (by simp),←List.append_assoc,HKK.o];simpa using S6.o,B6.o⟩
            case measure=>simp[intOf];omega
           |false=>
            repeat first|(refine qz fun K hK=>?_;go_simp;refine hK _ _ ?_;clear hK K)|(apply qC;(intro w2 hw2;have hk1:=hw2.cell;have hk3:=hw2.1;clear hw2;go_simp;with_reducible rfl);simp only[Act.put,sA,sB,sC])|refine qH rfl rfl ?_|(refine qQ rfl rfl fun K hK=>?_;simp only[Act.put,sA,sB,sC];refine hK _ _ ?_;clear hK K)|(refine qW rfl fun K hK=>?_;simp only[Act.put,sA,sB,sC];refine hK _ _ ?_;clear hK K)|refine qu ?_
            go_wp2_with fail;refine jM [0,1,0,0,0,0,1,0,3,2,0,2] [0,1,2,3,4,5,6,7,8,9,10,11] (by kernel_rfl) ?_;simp only[qP,qA,sD,sE,sF,sG]
            repeat first|(refine qz fun K hK=>?_;go_simp;refine hK _ _ ?_;clear hK K)|(apply qC;(intro w2 hw2;have hk1:=hw2.cell;have hk3:=hw2.heap;clear hw2;go_simp;with_reducible rfl);simp only[Act.put,sA,sB,sC])|refine qH rfl rfl ?_|(refine qQ rfl rfl fun K hK=>?_;simp only[Act.put,sA,sB,sC];refine hK _ _ ?_;clear hK K)|refine qu ?_
            refine qG (fun K hK=>?_);go_simp;refine hK _ _ (jp.alloc _ _) ?_;clear hK K;refine qM (fun K' hK=>?_);rw[uz];refine ui _ _ _ rfl _ 16 Tryz.underlying28 JD rfl S6.o.drew (s.id,false) (by first|omega|(simp <;> omega)) (by rfl) (by rfl) (by first|rfl|simp) rfl (Ja _) (by first|omega|(simp only[List.length_append,List.length_cons,List.length_nil,List.length_replicate];omega)) (by first|omega|(simp only[List.length_append,List.length_cons,List.length_nil,List.length_replicate];omega)) ?_;intro g8 c8 w8 o8 G8;have hne:=qj.neT S6.o T6.o (by decide);have rt8:=qL (jf T6.o) G8 hne;have hne8:=qj.neT o8 rt8 (by decide);have T9:=qh (qq rt8 1 (.slice (some ⟨g8,0,none⟩) (KL.length+1) c8));have O9:=qh (qj.other (j:=1) o8 hne8 (.slice (some ⟨g8,0,none⟩) (KL.length+1) c8));have B9:=qh ((B6.o.drew.trans (G8.below (by exact hw6) fun j hj=>(qj.lt S6.o j hj).1)).setCell (p:=⟨W5.heap.size,1,none⟩) (Nat.le_refl _) (.slice (some ⟨g8,0,none⟩) (KL.length+1) c8));have y8l:=qd rt8;have y8:=qa rt8 1;simp at y8;have y8f:=qB rt8 1;clear rt8 o8 G8 hne hne8 zm0 zm9 z1;refine hK _ _ ?_;clear hK K'
            repeat first|(refine qz fun K hK=>?_;go_simp;refine hK _ _ ?_;clear hK K)|(apply qC;(intro w2 hw2;have hk1:=hw2.cell;have hk3:=hw2.heap;clear hw2;go_simp;with_reducible rfl);simp only[Act.put,sA,sB,sC])|refine qH rfl rfl ?_|(refine qQ rfl rfl fun K hK=>?_;simp only[Act.put,sA,sB,sC];refine hK _ _ ?_;clear hK K)|refine qu ?_
            refine qM (fun K' hK=>?_);go_simp;refine hK _ _ ?_;clear hK K'
            repeat first|(refine qz fun K hK=>?_;go_simp;refine hK _ _ ?_;clear hK K)|(apply qC;(intro w2 hw2;have hk1:=hw2.cell;have hk3:=hw2.heap;clear hw2;go_simp;with_reducible rfl);simp only[Act.put,sA,sB,sC])|refine qH rfl rfl ?_|(refine qQ rfl rfl fun K hK=>?_;simp only[Act.put,sA,sB,sC];refine hK _ _ ?_;clear hK K)|refine qu ?_
            go_wp2_with fail;go_roundw
            case rel=>exact⟨k+1,_,by omega,by go_num,by simpa using T9.o,by rw[HRC.o,if_pos (by simp),←List.append_assoc,HKK.o];exact O9.o,B9.o⟩
            case measure=>simp[intOf];omega
         ·obtain rfl:k=ms.length:=by omega
          have hq:decide ((ms.length:Int) < (ms.length:Int))=false:=by simp
          have hKK:KL=ZZ lev A T ord:=by
           rw[←hL,←HLL.o,HML.o];rfl
          have HKK2:=qh hKK;have yr0:=yr 0;have yr2:=yr 2;have yr3:=yr 3;have yr4:=yr 4;have yr5:=yr 5;have yr6:=yr 6;simp at yr0 yr2 yr3 yr4 yr5 yr6;have rw5:=qp R5.o HB.o (qd R5.o);have RW:=qh rw5;have yv:=qa rw5;have yv0:=yv 0;have yv1:=yv 1;have yv2:=yv 2;have yv3:=yv 3;have yv4:=yv 4;have yv5:=yv 5;have yv6:=yv 6;simp at yv0 yv1 yv2 yv3 yv4 yv5 yv6;have yvf:=fun o=>qB rw5 o;have yvl:=qd rw5;have BW:=qh (B5.o.trans (HB.o.mono B5.o.size));clear hT hS hB hL hKK yr yv rw5 yrf;go_wp2_with fail;have RF:=qq (qq (qq (qq (qq (qq (qq RW.o 0 (.int .i64 1)) 1 (.slice aS KL.length cS)) 2 (.slice none 0 0)) 3 (.int .i64 0)) 4 (.int .i64 0)) 5 (.int .i64 0)) 6 (.slice none 0 0);have hB9:=qh (((((((BW.o.setCell (p:=⟨w.heap.size,0,none⟩) (Nat.le_refl _) (.int .i64 1)).setCell (p:=⟨w.heap.size,1,none⟩) (Nat.le_refl _) (.slice aS KL.length cS)).setCell (p:=⟨w.heap.size,2,none⟩) (Nat.le_refl _) (.slice none 0 0)).setCell (p:=⟨w.heap.size,3,none⟩) (Nat.le_refl _) (.int .i64 0)).setCell (p:=⟨w.heap.size,4,none⟩) (Nat.le_refl _) (.int .i64 0)).setCell (p:=⟨w.heap.size,5,none⟩) (Nat.le_refl _) (.int .i64 0)).setCell (p:=⟨w.heap.size,6,none⟩) (Nat.le_refl _) (.slice none 0 0));have c0:=qa RF 0;have c1:=qa RF 1;have c2:=qa RF 2;have c3:=qa RF 3;have c4:=qa RF 4;have c5:=qa RF 5;have c6:=qa RF 6;simp at c0 c1 c2 c3 c4 c5 c6;have HV9:=qh (show qj Xj 87 2 ((((((((wr.setCell ⟨w.heap.size,0,none⟩ (.int .i64 1)).setCell ⟨w.heap.size,1,none⟩ (.slice aS KL.length cS)).setCell ⟨w.heap.size,2,none⟩ (.slice none 0 0)).setCell ⟨w.heap.size,3,none⟩ (.int .i64 0)).setCell ⟨w.heap.size,4,none⟩ (.int .i64 0)).setCell ⟨w.heap.size,5,none⟩ (.int .i64 0)).setCell ⟨w.heap.size,6,none⟩ (.slice none 0 0))) w.heap.size (.slice aS KL.length cS) KL from by
           have hne:=qj.neT HS.o RW.o (by decide);exact qj.base (qj.other (qj.other (qj.other (qj.other (qj.other (qj.other (qj.other HS.o hne _) hne _) hne _) hne _) hne _) hne _) hne _) (by omega))
          refine bodyPost_ret (v:=vp ⟨1,KL,0,0,0,[]⟩ (.slice aS KL.length cS) (.slice none 0 0)) (by simp[results,Tryz.results32,go_sem,vp,c0,c1,c2,c3,c4,c5,c6]) rfl ?_;refine⟨⟨1,KL,0,0,0,[]⟩,_,_,rfl,?_,⟨HV9.o,qj.nil _ _⟩,hB9.o⟩;unfold yS;rw[HT.o,HBF.o,←HOT.o,HKK2.o]
end
end
section
attribute [local irreducible] xE
structure Uk (w:World) (ov vv:Value) (os:List Ob) (r:Option Au):Prop where
 ho:Sl w w.heap.size 2 ov os.length (os.flatMap Ob.cells)
 hvv:∃a n c,vv=.slice a n c
 hT:∀W,Below w.heap.size w W->Calls Tryz.prog 13 #[.agg #[ov,vv]] W (QH W r)
 hD:∀A,r=some A->UF os A
 hev:∃t v,w.cell? ⟨6,0,none⟩=some (.iface t v)
 hel:6 < w.heap.size
section
variable {w W:World} {ov vv:Value} {os:List Ob} {r:Option Au} {A:Au} {lev:Int}
theorem xT.low {lo lo' hi pW bB:Nat} {lv:Value} {ms:List xz} {T:List Bool} (h:xT w lo hi pW bB lev ov vv ms lv A T) (hl:lo'<=lo):xT w lo' hi pW bB lev ov vv ms lv A T:=by
 refine⟨h.row,⟨⟨Nat.le_trans hl h.pB.1.1,h.pB.1.2⟩,Nat.le_trans hl h.pB.2.1,h.pB.2.2⟩,qj.base h.lst hl,h.lstb,h.len,h.tl,fun k m s hm hs=>?_,h.inj,h.nb,h.by_⟩;have q:=h.mv k m s hm hs;exact⟨q.row,qj.base q.dds hl,q.dvb,q.rd,q.wr,⟨⟨Nat.le_trans hl q.b.1.1,q.b.1.2⟩,⟨Nat.le_trans hl q.b.2.1.1,q.b.2.1.2⟩,Nat.le_trans hl q.b.2.2.1,q.b.2.2.2⟩⟩
theorem UF.mv (h:UF os A):Qg A:=fun s hs=>
 ⟨zD (g:=Dd.got) (X:=xQ [] s.deeds) (M:=[]) (fun _ h=>by cases h) fun x hx=>h.dobj hs (jB hx).1,
  zD (g:=Dd.val) (X:=xO s.deeds) (M:=[]) (fun _ h=>by cases h) fun x hx=>h.dobj hs (uI hx)⟩
theorem Uk.below (h:Uk w ov vv os r) (hb:Below w.heap.size w W):Uk W ov vv os r:=by
 obtain⟨t,v,hev⟩:=h.hev;exact⟨(h.ho.below hb).more hb.size,h.hvv,fun X hX=>h.hT X (hb.trans (hX.mono hb.size)),h.hD,⟨t,v,qx hb h.hel hev⟩,Nat.lt_of_lt_of_le h.hel hb.size⟩
theorem qcE (h:Uk w ov vv os r):Calls Tryz.prog 43 #[.agg #[ov,vv]] w (QH w (yB os r)):=by
 cases r with
 |none=>exact Wp ov vv os w h.ho h.hvv h.hT
 |some A=>
  obtain⟨t,v,hev⟩:=h.hev;exact JN ov vv os A w h.ho h.hvv h.hT (h.hD A rfl) hev h.hel
theorem yH (h:yB os r=some A):r=some A/\xA os [] A=true:=by
 cases r with
 |none=>cases h
 |some B=>
  unfold yB at h;simp only at h
  split at h
  ·rename_i hp
   obtain rfl:=Option.some.inj h;exact⟨rfl,hp⟩
  ·cases h
theorem Wq (h:Uk w ov vv os r) (e:yB os r=some A):Calls Tryz.prog 31 #[.agg #[ov,vv],.int .i64 lev] w (WB w lev ov vv A):=by
 obtain⟨ao,co,hov,-⟩:=h.ho.ex;refine qga ov vv os A lev w ⟨_,_,_,hov⟩ h.hvv (fun W hW=>?_) (h.hD A (yH e).1);rw[←e];exact qcE (h.below hW)
theorem Vr (h:Uk w ov vv os r):Calls Tryz.prog 16 #[.agg #[ov,vv]] w fun e w'=>(match yB os r with
  |some _=>e=.returned .nilIface
  |none=>∃t x,e=.returned (.iface t x))/\Below w.heap.size w w':=by
 obtain⟨ao,co,hov,-⟩:=h.ho.ex;obtain⟨av,nv,cv,hvv⟩:=h.hvv;have b0:Below w.heap.size w (w.alloc (.cells #[ov,vv] 25)):=(Below.refl _ w).alloc (Nat.le_refl _) _;have PC:=qh (qcE (h.below b0));have B0:=qh b0;subst hov hvv;obtain⟨pr,hpr⟩:∃pr,yB os r=pr:=⟨_,rfl⟩
 rw[hpr] at PC ⊢;clear h b0 hpr;cases pr with
 |none=>
  go_enter Tryz.func16,Tryz.ntmps16;go_wp2_with fail;refine PC.o.mono ?_;rintro e W1 ⟨⟨t,x,rfl⟩,b1⟩;have B1:=qh (B0.o.trans (b1.mono B0.o.size));clear b1;go_wp2_with fail;exact bodyPost_ret (v:=.iface t x) (by simp[results,Tryz.results16,go_sem]) rfl ⟨⟨t,x,rfl⟩,B1.o⟩
 |some A=>
  go_enter Tryz.func16,Tryz.ntmps16;go_wp2_with fail;refine PC.o.mono ?_;rintro e W1 ⟨tv,rfl,ht,b1⟩;have B1:=qh (B0.o.trans (b1.mono B0.o.size));clear b1 ht;go_wp2_with fail;exact bodyPost_ret (v:=.nilIface) (by simp[results,Tryz.results16,go_sem]) rfl ⟨rfl,B1.o⟩
theorem qfh (h:Uk w ov vv os r) (e:yB os r=some A) (hl:lev=1\/lev=2\/lev=3):Calls Tryz.prog 35 #[.agg #[ov,vv],.int .i64 lev] w (WB w lev ov vv A):=by
 obtain⟨ao,co,hov,-⟩:=h.ho.ex;obtain⟨av,nv,cv,hvv⟩:=h.hvv;have b0:Below w.heap.size w (w.alloc (.cells #[ov,vv] 25)):=(Below.refl _ w).alloc (Nat.le_refl _) _;have PC:=qh (Wq (lev:=lev) (h.below b0) e);have B0:=qh b0;subst hov hvv;have hl0:(lev < 1)=False:=by simp;omega
 have hl1:(3 < lev)=False:=by simp;omega
 clear h b0 e hl;go_enter Tryz.func35,Tryz.ntmps35;go_wp2_with fail;refine PC.o.mono ?_;rintro e W1 ⟨pW,bB,ms,lv,rfl,hF,b1⟩;have B1:=qh (B0.o.trans (b1.mono B0.o.size));have HF:=qh hF;have hz:=B0.o.size;clear b1 hF;go_wp2_with fail;exact bodyPost_ret (v:=.tuple #[.pointer (some ⟨pW,0,none⟩),.nilIface]) (by simp[results,Tryz.results35,go_sem]) rfl ⟨pW,bB,ms,lv,rfl,HF.o.low hz,B1.o⟩
def qds (w:World) (lev:Int) (os:List Ob) (A:Au) (e:Ending) (w':World):Prop:=∃a vs vc,e=.returned (.tuple #[vp a vs vc,.nilIface])/\yS lev (os.map (·.init)) A a/\VA w' w.heap.size vs vc a/\Below w.heap.size w w'
theorem KG (h:Uk w ov vv os r) (e:yB os r=some A) (hl:lev=1\/lev=2\/lev=3) (hal:A.length<=200) (hnd:(A.map (·.id)).Nodup):Calls Tryz.prog 9 #[.agg #[ov,vv],.int .i64 lev] w (qds w lev os A):=by
 obtain⟨ao,co,hov,-⟩:=h.ho.ex;obtain⟨av,nv,cv,hvv⟩:=h.hvv;have HH:=qh h;have HE:=qh e;have HD:=qh (h.hD A (yH e).1);have HND:=qh hnd;have HLV:=qh hl;subst hov hvv;have hl0:(lev < 1)=False:=by simp;omega
 have hl1:(4 < lev)=False:=by simp;omega
 have hl4:(lev !=4)=true:=by simp;omega
 clear h e hl hnd;go_enter Tryz.func9,Tryz.ntmps9;go_wp2_with fail;have hb0:Below w.heap.size w (((w.alloc (.cells #[.slice ao os.length co,.slice av nv cv] 25)).alloc (.cells #[.int .i64 0,.slice none 0 0,.slice none 0 0,.int .i64 0,.int .i64 0,.int .i64 0,.slice none 0 0] 32)).alloc (.cells #[.nilIface] 34)):=(((Below.refl _ w).alloc (Nat.le_refl _) _).alloc (by simp) _).alloc (by simp;omega) _;have B0:=qh hb0;have H0:=qh (HH.o.below hb0);have R0:=qh (qD (qy (w.alloc (.cells #[.slice ao os.length co,.slice av nv cv] 25)) (.cells #[.int .i64 0,.slice none 0 0,.slice none 0 0,.int .i64 0,.int .i64 0,.int .i64 0,.slice none 0 0] 32)) (o:=.cells #[.nilIface] 34));have E0:=qh (qy ((w.alloc (.cells #[.slice ao os.length co,.slice av nv cv] 25)).alloc (.cells #[.int .i64 0,.slice none 0 0,.slice none 0 0,.int .i64 0,.int .i64 0,.int .i64 0,.slice none 0 0] 32)) (.cells #[.nilIface] 34));have X0:=qh (qD (qD (qy w (.cells #[.slice ao os.length co,.slice av nv cv] 25)) (o:=.cells #[.int .i64 0,.slice none 0 0,.slice none 0 0,.int .i64 0,.int .i64 0,.int .i64 0,.slice none 0 0] 32)) (o:=.cells #[.nilIface] 34));have hz0:((((w.alloc (.cells #[.slice ao os.length co,.slice av nv cv] 25)).alloc (.cells #[.int .i64 0,.slice none 0 0,.slice none 0 0,.int .i64 0,.int .i64 0,.int .i64 0,.slice none 0 0] 32)).alloc (.cells #[.nilIface] 34))).heap.size=w.heap.size+3:=by simp
 generalize (((w.alloc (.cells #[.slice ao os.length co,.slice av nv cv] 25)).alloc (.cells #[.int .i64 0,.slice none 0 0,.slice none 0 0,.int .i64 0,.int .i64 0,.int .i64 0,.slice none 0 0] 32)).alloc (.cells #[.nilIface] 34))=W0 at *;have R0:=qh (show W0.heap[w.heap.size+1]?=some (.cells #[.int .i64 0,.slice none 0 0,.slice none 0 0,.int .i64 0,.int .i64 0,.int .i64 0,.slice none 0 0] 32 (0,0)) by have:=R0.o;simpa using this);have E0:=qh (show W0.heap[w.heap.size+1+1]?=some (.cells #[.nilIface] 34 (0,0)) by have:=E0.o;simpa using this);have X0:=qh (show W0.heap[w.heap.size]?=some (.cells #[.slice ao os.length co,.slice av nv cv] 25 (0,0)) by have:=X0.o;simpa using this);have HZ0:=qh hz0;clear hb0 hz0;have PC:=qh (Vr H0.o);rw[HE.o] at PC;refine PC.o.mono ?_;rintro e W1 ⟨rfl,b1⟩;have hs1:=b1.size;have H1:=qh (H0.o.below b1);have B1:=qh (B0.o.trans (b1.mono B0.o.size));have R1:=qh (qp R0.o b1 (qd R0.o));have E1:=qh (qp E0.o b1 (qd E0.o));have X1:=qh (qp X0.o b1 (qd X0.o));have x0:=qa X1.o 0;have x1:=qa X1.o 1;simp at x0 x1;have xl:=qd X1.o;have LC:=qh (Wq (lev:=lev) H1.o HE.o);have hz1:w.heap.size<=W1.heap.size:=B1.o.size;clear b1;go_wp2_with fail;refine LC.o.mono ?_;rintro e W2 ⟨pW,bB,ms,lv,rfl,hF,b2⟩;have JC:=qh (Mq hF (H1.o.below b2).ho ⟨_,_,_,rfl⟩ HD.o HD.o.mv hal HND.o HLV.o (Nat.le_refl _));have B2:=qh (B1.o.trans (b2.mono hz1));have R2:=qh (qp R1.o b2 (qd R1.o));have E2:=qh (qp E1.o b2 (qd E1.o));have hz2:w.heap.size<=W2.heap.size:=B2.o.size;clear b2 hF x0 x1 xl;go_wp2_with fail;refine JC.o.mono ?_;rintro e W4 ⟨a,vs,vc,rfl,hJ,hA,b4⟩;have HJ:=qh hJ;obtain⟨aS,cS,e1⟩:=qj.sli hA.1;obtain⟨aC,cC,e2⟩:=qj.sli hA.2;subst e1 e2;have HA:=qh hA;have B4:=qh (B2.o.trans (b4.mono hz2));have R4:=qh (qp R2.o b4 (qd R2.o));have E4:=qh (qp E2.o b4 (qd E2.o));have y0:=qa R4.o 0;have y1:=qa R4.o 1;have y2:=qa R4.o 2;have y3:=qa R4.o 3;have y4:=qa R4.o 4;have y5:=qa R4.o 5;have y6:=qa R4.o 6;simp at y0 y1 y2 y3 y4 y5 y6;have yf:=fun o=>qB R4.o o;have yl:=qd R4.o;have z0:=qa E4.o 0;simp at z0;have zf:=fun o=>qB E4.o o;have zl:=qd E4.o;clear hJ hA b4;unfold vp;go_wp2_with fail;have RF:=qJ (qq (qq (qq (qq (qq (qq (qq (R4.o) 0 (.int .i64 a.kind)) 1 (.slice aS a.steps.length cS)) 2 (.slice none 0 0)) 3 (.int .i64 a.pre)) 4 (.int .i64 a.tx)) 5 (.int .i64 a.deed)) 6 (.slice aC a.cyc.length cC)) (show w.heap.size+1+1≠w.heap.size+1 by omega) (j:=0) (v:=.nilIface);have EF:=qq (qJ (qJ (qJ (qJ (qJ (qJ (qJ (E4.o) (show w.heap.size+1≠w.heap.size+1+1 by omega) (j:=0) (v:=.int .i64 a.kind)) (show w.heap.size+1≠w.heap.size+1+1 by omega) (j:=1) (v:=.slice aS a.steps.length cS)) (show w.heap.size+1≠w.heap.size+1+1 by omega) (j:=2) (v:=.slice none 0 0)) (show w.heap.size+1≠w.heap.size+1+1 by omega) (j:=3) (v:=.int .i64 a.pre)) (show w.heap.size+1≠w.heap.size+1+1 by omega) (j:=4) (v:=.int .i64 a.tx)) (show w.heap.size+1≠w.heap.size+1+1 by omega) (j:=5) (v:=.int .i64 a.deed)) (show w.heap.size+1≠w.heap.size+1+1 by omega) (j:=6) (v:=.slice aC a.cyc.length cC)) 0 .nilIface;have c0:=qa RF 0;have c1:=qa RF 1;have c2:=qa RF 2;have c3:=qa RF 3;have c4:=qa RF 4;have c5:=qa RF 5;have c6:=qa RF 6;have d0:=qa EF 0;simp at c0 c1 c2 c3 c4 c5 c6 d0;have hB9:=qh (((((((((B4.o).setCell (p:=⟨w.heap.size+1,0,none⟩) (by show w.heap.size<=w.heap.size+1;omega) (.int .i64 a.kind)).setCell (p:=⟨w.heap.size+1,1,none⟩) (by show w.heap.size<=w.heap.size+1;omega) (.slice aS a.steps.length cS)).setCell (p:=⟨w.heap.size+1,2,none⟩) (by show w.heap.size<=w.heap.size+1;omega) (.slice none 0 0)).setCell (p:=⟨w.heap.size+1,3,none⟩) (by show w.heap.size<=w.heap.size+1;omega) (.int .i64 a.pre)).setCell (p:=⟨w.heap.size+1,4,none⟩) (by show w.heap.size<=w.heap.size+1;omega) (.int .i64 a.tx)).setCell (p:=⟨w.heap.size+1,5,none⟩) (by show w.heap.size<=w.heap.size+1;omega) (.int .i64 a.deed)).setCell (p:=⟨w.heap.size+1,6,none⟩) (by show w.heap.size<=w.heap.size+1;omega) (.slice aC a.cyc.length cC)).setCell (p:=⟨w.heap.size+1+1,0,none⟩) (by show w.heap.size<=w.heap.size+1+1;omega) .nilIface);have n11:=qj.neT HA.o.1 R4.o (by decide);have n12:=qj.neT HA.o.1 E4.o (by decide);have n21:=qj.neT HA.o.2 R4.o (by decide);have n22:=qj.neT HA.o.2 E4.o (by decide);have HS9:=qh (show qj Xj 87 2 ((((((((((((((((W4).setCell ⟨w.heap.size+1,0,none⟩ (.int .i64 a.kind))).setCell ⟨w.heap.size+1,1,none⟩ (.slice aS a.steps.length cS))).setCell ⟨w.heap.size+1,2,none⟩ (.slice none 0 0))).setCell ⟨w.heap.size+1,3,none⟩ (.int .i64 a.pre))).setCell ⟨w.heap.size+1,4,none⟩ (.int .i64 a.tx))).setCell ⟨w.heap.size+1,5,none⟩ (.int .i64 a.deed))).setCell ⟨w.heap.size+1,6,none⟩ (.slice aC a.cyc.length cC))).setCell ⟨w.heap.size+1+1,0,none⟩ .nilIface) w.heap.size (.slice aS a.steps.length cS) a.steps from qj.base (qj.other (qj.other (qj.other (qj.other (qj.other (qj.other (qj.other (qj.other (HA.o.1) n11 _) n11 _) n11 _) n11 _) n11 _) n11 _) n11 _) n12 _) hz2);have HC9:=qh (show qj zK 3 1 ((((((((((((((((W4).setCell ⟨w.heap.size+1,0,none⟩ (.int .i64 a.kind))).setCell ⟨w.heap.size+1,1,none⟩ (.slice aS a.steps.length cS))).setCell ⟨w.heap.size+1,2,none⟩ (.slice none 0 0))).setCell ⟨w.heap.size+1,3,none⟩ (.int .i64 a.pre))).setCell ⟨w.heap.size+1,4,none⟩ (.int .i64 a.tx))).setCell ⟨w.heap.size+1,5,none⟩ (.int .i64 a.deed))).setCell ⟨w.heap.size+1,6,none⟩ (.slice aC a.cyc.length cC))).setCell ⟨w.heap.size+1+1,0,none⟩ .nilIface) w.heap.size (.slice aC a.cyc.length cC) a.cyc from qj.base (qj.other (qj.other (qj.other (qj.other (qj.other (qj.other (qj.other (qj.other (HA.o.2) n21 _) n21 _) n21 _) n21 _) n21 _) n21 _) n21 _) n22 _) hz2);clear n11 n12 n21 n22 RF EF;refine bodyPost_ret (v:=.tuple #[vp a (.slice aS a.steps.length cS) (.slice aC a.cyc.length cC),.nilIface]) (by simp[results,Tryz.results9,go_sem,vp,c0,c1,c2,c3,c4,c5,c6,d0]) rfl ?_;exact⟨a,_,_,rfl,HJ.o,⟨HS9.o,HC9.o⟩,hB9.o⟩
def jd (A:Au) (T:List Bool) (k:Nat):List Int:=(List.range k).filterMap fun i=>match A[i]? with
 |some s=>if T.getD i false then some s.id else none
 |none=>none
theorem Uq {T:List Bool} {k:Nat} {s:St} (h:A[k]?=some s):jd A T (k+1)=jd A T k++(if T.getD k false then[s.id] else[]):=by
 unfold jd;rw[List.range_succ,List.filterMap_append];congr 1;rw[List.filterMap_cons,h];simp only;cases T.getD k false <;> rfl
theorem VF {T:List Bool} {k:Nat}:(jd A T k).length<=k:=by
 unfold jd;exact Nat.le_trans (List.length_filterMap_le _ _) (by simp)
theorem qcF (h:Uk w ov vv os r) (e:yB os r=some A) (hl:lev=1\/lev=2\/lev=3):Calls Tryz.prog 28 #[.agg #[ov,vv],.int .i64 lev] w fun e w'=>
  ∃v,e=.returned (.tuple #[v,.nilIface])/\xJ w' w.heap.size v (jd A (xd lev A) A.length)/\Below w.heap.size w w':=by
 obtain⟨ao,co,hov,-⟩:=h.ho.ex;obtain⟨av,nv,cv,hvv⟩:=h.hvv;have b0:Below w.heap.size w (w.alloc (.cells #[ov,vv] 25)):=(Below.refl _ w).alloc (Nat.le_refl _) _;have PC:=qh (qfh (lev:=lev) (h.below b0) e hl);have B0:=qh b0;have HD:=qh (h.hD A (yH e).1);subst hov hvv;clear h b0 e hl;go_enter Tryz.func28,Tryz.ntmps28;go_wp2_with fail;refine PC.o.mono ?_;rintro e W1 ⟨pW,bB,ms,lv,rfl,hF,b1⟩;have B1:=qh (B0.o.trans (b1.mono B0.o.size));obtain⟨T,hT⟩:∃T,xd lev A=T:=⟨_,rfl⟩
 rw[hT] at hF;have HT:=qh hT;obtain⟨al,cl,hlv0⟩:=qj.sli hF.lst;subst hlv0;have HML:=qh hF.len;have hml:ms.length<=400:=by have:=hF.len;have:=HD.o.len;omega
 have F1:=qh hF;have yq:=qa hF.row 3;simp at yq;have yql:=qd hF.row;clear b1 hF hT;go_wp2_with fail
 go_loopw [8,25] (fun v q wr=>∃(k:Nat),k<=ms.length/\q=.int .i64 k/\xJ wr W1.heap.size v (jd A T k)/\Below W1.heap.size W1 wr) (fun _ q _=>ms.length - (intOf q).toNat)
 case atStart=>exact⟨0,by omega,by go_num,qj.nil _ _,Below.refl _ _⟩
 case round=>
  obtain⟨k,hk,rfl,hO,hB⟩:=hrel;have HB:=qh hB;have HO:=qh hO;have HF:=qh (F1.o.below hB (Nat.le_refl _) (Nat.le_refl _));obtain⟨aS,cS,hvq⟩:=qj.sli hO;subst hvq;obtain⟨L,hL⟩:∃L,jd A T k=L:=⟨_,rfl⟩
  rw[hL] at HO hO ⊢;have HLL:=qh hL;have hll:L.length<=400:=by rw[←hL];exact Nat.le_trans VF (by omega)
  have hwz:=hB.size;clear hO hB hL yq yql;by_cases hlt:k < ms.length
  ·obtain ⟨bl,ol,m,hqe,hbl,hmk,hcl⟩:=(qj.sl HF.o.lst).atF xz.len rfl hlt
   subst hqe;have c0:wr.cell? ⟨bl,ol+k,none⟩=some (.pointer (some ⟨m.p,0,none⟩)):=by have:=hcl 0 (by decide);simpa[xz.cells,xD] using this
   obtain⟨m0,s,g1,hsk,hMv⟩:=HF.o.get (k:=k) (by have:=HML.o;omega);rw[hmk] at g1;obtain rfl:=Option.some.inj g1;have HSK:=qh hsk;have hr:=hMv.row;obtain⟨tk,htk⟩:∃tk,T.getD k false=tk:=⟨_,rfl⟩
   have HRK:=qh (Uq (T:=T) hsk);rw[htk] at hr HRK;have ym:=qa hr;have ym0:=ym 0;have ym10:=ym 10;simp at ym0 ym10;have yml:=qd hr;clear hmk hsk hMv ym hcl hr htk;cases tk with
   |false=>
    go_wp2_with fail;go_roundw
    case rel=>exact⟨k+1,by omega,by go_num,by rw[HRK.o,if_neg (by simp),List.append_nil,HLL.o];exact HO.o,HB.o⟩
    case measure=>simp[intOf];omega
   |true=>
    go_wp2_with (at_builtin;refine qN rfl _ _ _ rfl _ 8 Tryz.underlying30 Yi rfl HO.o s.id (by first|omega|(simp <;> omega)) (by rfl) (by rfl) (by first|rfl|simp) rfl (XC _) (by first|omega|(simp only[List.length_append,List.length_cons,List.length_nil,List.length_replicate];omega)) (by first|omega|(simp only[List.length_append,List.length_cons,List.length_nil,List.length_replicate];omega)) ?_;refine qK.halt ?_)
    refine qK.go ?_;intro g8 c8 w8 o8 G8;have O9:=qh o8;have B9:=qh (HB.o.trans (G8.below hwz fun j hj=>(qj.lt HO.o j hj).1));clear o8 G8 c0 ym0 ym10 yml;go_wp2_with fail;go_roundw
    case rel=>exact⟨k+1,by omega,by go_num,by rw[HRK.o,if_pos (by simp),HLL.o];exact O9.o,B9.o⟩
    case measure=>simp[intOf];omega
  ·obtain rfl:k=ms.length:=by omega
   have hq:decide ((ms.length:Int) < (ms.length:Int))=false:=by simp
   have hz1:w.heap.size<=W1.heap.size:=B1.o.size;have BF:=qh (B1.o.trans (HB.o.mono hz1));go_wp2_with fail;refine bodyPost_ret (v:=.tuple #[.slice aS L.length cS,.nilIface]) (by simp[results,Tryz.results28,go_sem]) rfl ⟨_,rfl,?_,BF.o⟩;rw[HT.o,←HML.o,HLL.o];exact qj.base HO.o hz1
end
end
theorem vN {x:Int} (h:-1000000000<=x/\x<=1000000000):dI x:=by
 unfold dI Lit.wf;simp[IntKind.min,IntKind.max,IntKind.bits,IntKind.signed];omega
structure DdG (os:List Ob) (d:Dd):Prop where
 obj:0<=d.obj
 kind:∃o,os[d.obj.toNat]?=some o/\jT d.op=o.kind
 val:-1000000000<=d.val/\d.val<=1000000000
 got:-1000000000<=d.got/\d.got<=1000000000
 ret:d.ret=0\/Qc d.op d.ret=true
structure StG (os:List Ob) (s:St):Prop where
 id:1<=s.id/\s.id<=1000
 dd:∀d ∈ s.deeds,DdG os d
section
variable {os:List Ob} {es:List Ev} {A A':Au} {x e:Ev} {n:Nat}
theorem DdG.lt {d:Dd} (h:DdG os d):d.obj < os.length:=by
 obtain⟨o,ho,-⟩:=h.kind;have h1:=(List.getElem?_eq_some_iff.1 ho).1;have:=h.obj;omega
theorem qdm {L:List Fd} {f:Fd} (h:L.all (jr x)=true) (hf:f ∈ L):f.lo<=Qz x (xR f)/\Qz x (xR f)<=f.hi:=by
 have:=List.all_eq_true.1 h f hf;unfold jr at this;simpa using this
theorem qbH:xR qF=1:=by decide+kernel
theorem qbI:xR xS=3:=by decide+kernel
theorem qbG:xR jV=6:=by decide+kernel
theorem Rh {L:List Fd} (ha:L.all (jr x)=true) (hz:XI x L=true) (h:jV ∈ L\/6 ∉ L.map xR):-1000000000<=x.val/\x.val<=1000000000:=by
 rcases h with h|h
 ·have:=qdm ha h
  rw[qbG] at this;exact this
 ·have:=QU.1 hz 6 (by omega)
  unfold vH at this;rw[if_neg (by simp only[not_or];exact⟨by omega,h⟩)] at this;have e:x.val=0:=this;omega
theorem Mu (h:Un os x=true):(1<=x.tx/\x.tx<=1000)/\(-1000000000<=x.val/\x.val<=1000000000)/\(x.kind=2->0<=x.obj/\∃o,os[x.obj.toNat]?=some o/\jT x.op=o.kind):=by
 unfold Un at h;simp only[Bool.and_eq_true,Bool.or_eq_true] at h;obtain⟨hv,hk⟩:=h;unfold xP at hv;cases hL:uM x with
 |none=>rw[hL] at hv;cases hv
 |some L=>
  rw[hL] at hv;simp only[Bool.and_eq_true] at hv;obtain⟨ha,hz⟩:=hv;unfold uM at hL;have tx:qF ∈ L->1<=x.tx/\x.tx<=1000:=fun h=>by
   have:=qdm ha h;rw[qbH] at this;exact this
  split at hL
  ·rename_i h2
   split at hL
   ·cases hL
   ·cases hL
    refine⟨tx (by simp[jx]),Rh ha hz ?_,fun _=>⟨?_,?_⟩⟩
    ·unfold jx
     cases jc x.op
     ·right
      cases Qw x.op <;> decide+kernel
     ·left;simp
    ·have:=qdm ha (f:=xS) (by simp[jx])
     rw[qbI] at this;exact this.1
    ·rcases hk with hk|hk
     ·simp [h2] at hk
     ·cases ho:os[x.obj.toNat]? with
      |none=>rw[ho] at hk;cases hk
      |some o=>
       rw[ho] at hk;exact⟨o,rfl,by simpa using hk⟩
  ·rename_i h2
   split at hL
   ·split at hL
    ·cases hL
     refine⟨tx (by unfold Zx;split <;> simp),Rh ha hz ?_,fun h=>absurd h h2⟩;unfold Zx
     split
     ·left;simp
     ·right;decide+kernel
    ·cases hL
   ·split at hL
    ·cases hL
     refine⟨tx (by unfold Xo;split <;> simp),Rh ha hz ?_,fun h=>absurd h h2⟩;right;unfold Xo
     split <;> decide+kernel
    ·cases hL
theorem StG.move {s s':St} (h:StG os s) (hx:Un os x=true) (hm:xN n x s=some s'):StG os s':=by
 obtain⟨h1,h2,h3⟩:=Mu hx;rcases yM hm with⟨hk,-,rfl⟩|⟨-,-,d,hd,hf,rfl⟩|⟨-,-,rfl⟩|⟨-,-,rfl⟩|⟨-,-,rfl⟩|⟨-,-,rfl⟩
 ·refine ⟨h.id,fun d hd=>?_⟩
  rcases List.mem_append.1 hd with hd|hd
  ·exact h.dd d hd
  ·obtain rfl:=List.mem_singleton.1 hd
   obtain⟨h4,h5⟩:=h3 hk;exact⟨h4,h5,h2,by simp[Kh],.inl rfl⟩
 ·have e1:jw x.ret x.val n s={s with stand:=1,deeds:=s.deeds.dropLast++[Zc d x.ret x.val n]}:=by unfold jw;rw[hd]
  rw[e1];refine⟨h.id,fun q hq=>?_⟩;rcases List.mem_append.1 hq with hq|hq
  ·exact h.dd q (List.dropLast_subset _ hq)
  ·obtain rfl:=List.mem_singleton.1 hq
   have:=h.dd d (List.mem_of_getLast? hd);exact⟨this.obj,this.kind,this.val,h2,.inr hf⟩
 ·exact ⟨h.id,h.dd⟩
 ·exact ⟨h.id,h.dd⟩
 ·exact ⟨h.id,h.dd⟩
 ·exact ⟨h.id,h.dd⟩
theorem qbj (h:∀s ∈ A,StG os s) (hx:Un os e=true) (hs:jP A n e=some A'):∀s ∈ A',StG os s:=by
 rcases zR hs with⟨-,-,-,rfl⟩|⟨k,s,s',-,hk,-,hm,rfl⟩
 ·intro s hs
  rcases List.mem_append.1 hs with hs|hs
  ·exact h s hs
  ·obtain rfl:=List.mem_singleton.1 hs
   exact⟨(Mu hx).1,fun d hd=>by cases hd⟩
 ·intro t ht
  rcases List.mem_or_eq_of_mem_set ht with ht|rfl
  ·exact h t ht
  ·exact (h s (List.mem_of_getElem? hk)).move hx hm
theorem NQ:∀{l:List Ev} {A A':Au} {n:Nat},(∀s ∈ A,StG os s)->(∀e ∈ l,Un os e=true)->zr A n l=some A'->∀s ∈ A',StG os s
 |[],A,A',n,h,_,hr=>by
  simp only[zr,Option.some.injEq] at hr;exact hr▸h
 |e::l,A,A',n,h,he,hr=>by
  simp only[zr] at hr;obtain⟨B,hB,hr⟩:=Option.bind_eq_some_iff.1 hr;exact NQ (qbj h (he e (by simp)) hB) (fun q hq=>he q (by simp[hq])) hr
theorem zQ (h:xg os es=some A):os.length<=8/\es.length<=400/\(∀e ∈ es,Un os e=true)/\zr [] 0 es=some A:=by
 unfold xg at h
 split at h
 ·rename_i hh
  unfold yz at hh;simp only[Bool.and_eq_true,decide_eq_true_eq,List.all_eq_true] at hh;exact⟨hh.1.1.1,hh.1.1.2,hh.2,h⟩
 ·cases h
theorem UO (h:xg os es=some A):∀s ∈ A,StG os s:=by
 obtain⟨-,-,he,hr⟩:=zQ h;exact NQ (fun s hs=>by cases hs) he hr
theorem MW (h:xg os es=some A):A.length<=es.length:=by
 obtain⟨-,-,-,hr⟩:=zQ h;have:=Xw (m:=0) hr ⟨by simp,fun s hs=>(nomatch hs)⟩;omega
theorem ZY (h:xg os es=some A):UF os A:=by
 have hG:=UO h;have hb:=XL A h;refine⟨(zQ h).1,hb.1,hb.2,fun s hs=>vN (by have:=(hG s hs).id;omega),fun s hs d hd=>⟨((hG s hs).dd d hd).obj,((hG s hs).dd d hd).lt⟩,fun s hs d hd=>⟨vN ((hG s hs).dd d hd).val,vN ((hG s hs).dd d hd).got⟩⟩
theorem qbJ {k:Int}:jT k=1->k=1\/k=2:=by
 unfold jT
 split
 ·exact fun _=>‹_›
 ·split
  ·intro h;omega
  ·split
   ·intro h;omega
   ·split
    ·intro h;omega
    ·intro h;omega
theorem YC:∀{l:List Dd} {rd:List Int} {wr wr':List (Int×Int)},xX os rd wr l=some wr'->∀d ∈ l,∃o,os[d.obj.toNat]?=some o/\o.kind=1
 |[],_,_,_,_=>fun d hd=>by cases hd
 |d::l,rd,wr,wr',h=>by
  unfold xX at h;cases ho:os[d.obj.toNat]? with
  |none=>rw[ho] at h;cases h
  |some o=>
   rw[ho] at h;simp only at h
   split at h
   ·rename_i hk
    have hrest:∀q ∈ l,∃o,os[q.obj.toNat]?=some o/\o.kind=1:=by
     split at h
     ·exact YC h
     ·split at h
      ·exact YC h
      ·cases h
    intro q hq;rcases List.mem_cons.1 hq with rfl|hq
    ·exact ⟨o,ho,hk⟩
    ·exact hrest q hq
   ·cases h
theorem UU:∀{A:Au} {wr:List (Int×Int)},xA os wr A=true->∀s ∈ A,∀d ∈ s.deeds,∃o,os[d.obj.toNat]?=some o/\o.kind=1
 |[],_,_=>fun s hs=>by cases hs
 |t::A,wr,h=>by
  unfold xA at h;cases hp:xX os [] wr t.deeds with
  |none=>rw[hp] at h;cases h
  |some wr'=>
   rw[hp] at h;intro s hs;rcases List.mem_cons.1 hs with rfl|hs
   ·exact YC hp
   ·exact UU h s hs
theorem qag (h:xg os es=some A) (hp:xA os [] A=true):qaS A:=fun s hs d hd=>by
 obtain⟨o,ho,hk⟩:=UU hp s hs d hd;obtain⟨o',ho',hk'⟩:=((UO h s hs).dd d hd).kind;rw[ho] at ho';obtain rfl:=Option.some.inj ho';exact qbJ (hk'.trans hk)
theorem qbD (h:xg os es=some A) (hp:xA os [] A=true):Rc es A:=qaB h (qag h hp)
theorem qbC (h:xg os es=some A) (hp:xA os [] A=true):(A.map (·.id)).Nodup:=Wo (qbD h hp)
theorem us:∀{l:List Dd} {rd:List Int} {wr wr' wr0:List (Int×Int)},xX os rd wr l=some wr'->(∀p ∈ wr0,p ∈ wr)->∃wr1,xX os rd wr0 l=some wr1/\∀p ∈ wr1,p ∈ wr'
 |[],rd,wr,wr',wr0,h,hs=>by
  simp only[xX,Option.some.injEq] at h;exact⟨wr0,rfl,h▸hs⟩
 |d::l,rd,wr,wr',wr0,h,hs=>by
  unfold xX at h ⊢;cases ho:os[d.obj.toNat]? with
  |none=>rw[ho] at h;cases h
  |some o=>
   rw[ho] at h;simp only at h ⊢
   split at h
   ·rename_i hk
    rw[if_pos hk]
    split at h
    ·rename_i h1
     rw[if_pos h1];exact us h hs
    ·rename_i h1
     rw[if_neg h1]
     split at h
     ·rename_i h2
      rw[if_pos ⟨h2.1,fun q=>h2.2.1 (hs _ q),h2.2.2⟩];refine us h fun p hp=>?_;rcases List.mem_cons.1 hp with rfl|hp
      ·simp
      ·exact List.mem_cons_of_mem _ (hs p hp)
     ·cases h
   ·cases h
theorem Jm:∀{A:Au} {wr wr0:List (Int×Int)},xA os wr A=true->(∀p ∈ wr0,p ∈ wr)->xA os wr0 A=true
 |[],_,_,_,_=>rfl
 |s::A,wr,wr0,h,hs=>by
  unfold xA at h ⊢;cases hp:xX os [] wr s.deeds with
  |none=>rw[hp] at h;cases h
  |some wr'=>
   rw[hp] at h;obtain⟨wr1,h1,h2⟩:=us hp hs;rw[h1];exact Jm h h2
def uB (os:List Ob) (l l':List Dd):Prop:=∀(rd:List Int) (wr wr':List (Int×Int)),xX os rd wr l'=some wr'->∃wr1,xX os rd wr l=some wr1/\∀p ∈ wr1,p ∈ wr'
theorem uB.cons {d:Dd} {l l':List Dd} (h:uB os l l'):uB os (d::l) (d::l'):=fun rd wr wr' hp=>by
 unfold xX at hp ⊢;cases ho:os[d.obj.toNat]? with
 |none=>rw[ho] at hp;cases hp
 |some o=>
  rw[ho] at hp;simp only at hp ⊢
  split at hp
  ·rename_i hk
   rw[if_pos hk]
   split at hp
   ·rename_i h1
    rw[if_pos h1];exact h _ _ _ hp
   ·rename_i h1
    rw[if_neg h1]
    split at hp
    ·rename_i h2
     rw[if_pos h2];exact h _ _ _ hp
    ·cases hp
  ·cases hp
theorem uB.app {l l':List Dd} (h:uB os l l'):∀m:List Dd,uB os (m++l) (m++l')
 |[]=>h
 |_::m=>(uB.app h m).cons
theorem Rw (d:Dd):uB os [] [d]:=fun rd wr wr' hp=>by
 refine⟨wr,rfl,?_⟩;exact(Jl hp).1
theorem Rv {d d':Dd} (h1:d.obj=d'.obj) (h2:d.op=d'.op) (h3:d.val=d'.val):uB os [d] [d']:=fun rd wr wr' hp=>by
 refine⟨wr',?_,fun p hp=>hp⟩;unfold xX at hp ⊢;simp only[xX] at hp ⊢;rw[h1,h2,h3];exact hp
theorem UT {s s':St} (hd:uB os s.deeds s'.deeds):∀{A:Au} {k:Nat} {wr wr0:List (Int×Int)},A[k]?=some s->xA os wr (A.set k s')=true->(∀p ∈ wr0,p ∈ wr)->xA os wr0 A=true
 |[],k,wr,wr0,hk,h,hs=>by cases hk
 |t::A,0,wr,wr0,hk,h,hs=>by
  obtain rfl:t=s:=by simpa using hk
  simp only[List.set_cons_zero] at h;unfold xA at h ⊢;cases hp:xX os [] wr s'.deeds with
  |none=>rw[hp] at h;cases h
  |some wr'=>
   rw[hp] at h;obtain⟨wr1,h1,h2⟩:=hd _ _ _ hp;obtain⟨wr2,h3,h4⟩:=us h1 hs;rw[h3];exact Jm h fun p hp=>h2 p (h4 p hp)
 |t::A,k+1,wr,wr0,hk,h,hs=>by
  simp only[List.set_cons_succ] at h;unfold xA at h ⊢;cases hp:xX os [] wr t.deeds with
  |none=>rw[hp] at h;cases h
  |some wr'=>
   rw[hp] at h;obtain⟨wr1,h1,h2⟩:=us hp hs;rw[h1];exact UT hd (by simpa using hk) h h2
theorem UV:∀{A B:Au} {wr:List (Int×Int)},xA os wr (A++B)=true->xA os wr A=true
 |[],_,_,_=>rfl
 |s::A,B,wr,h=>by
  simp only[List.cons_append] at h;unfold xA at h ⊢;cases hp:xX os [] wr s.deeds with
  |none=>rw[hp] at h;cases h
  |some wr'=>
   rw[hp] at h;exact UV h
theorem qaf (hs:jP A n e=some A') (h:xA os [] A'=true):xA os [] A=true:=by
 rcases zR hs with⟨-,-,-,rfl⟩|⟨k,s,s',-,hk,-,hm,rfl⟩
 ·exact UV h
 ·refine UT ?_ hk h fun p hp=>hp
  have same:s.deeds=s'.deeds->uB os s.deeds s'.deeds:=fun e=>by
   rw[←e];exact fun rd wr wr' hp=>⟨wr',hp,fun p hp=>hp⟩
  rcases yM hm with⟨-,-,rfl⟩|⟨-,-,d,hd,-,rfl⟩|⟨-,-,rfl⟩|⟨-,-,rfl⟩|⟨-,-,rfl⟩|⟨-,-,rfl⟩
  ·have:=(Rw (os:=os) (Kh e n)).app s.deeds
   rw[List.append_nil] at this;exact this
  ·have e1:jw e.ret e.val n s={s with stand:=1,deeds:=s.deeds.dropLast++[Zc d e.ret e.val n]}:=by unfold jw;rw[hd]
   rw[e1];have:=(Rv (os:=os) (d:=d) (d':=Zc d e.ret e.val n) rfl rfl rfl).app s.deeds.dropLast;rw[←Wu hd] at this;exact this
  ·exact same rfl
  ·exact same rfl
  ·exact same rfl
  ·exact same rfl
theorem Jk:∀{l m:List Ev} {A:Au},zr [] 0 (m++l)=some A->xA os [] A=true->∃B,zr [] 0 m=some B/\xA os [] B=true
 |[],m,A,h,hp=>⟨A,by simpa using h,hp⟩
 |e::l,m,A,h,hp=>by
  obtain⟨B,h1,h2⟩:=Jk (l:=l) (m:=m++[e]) (by simpa using h) hp;rw[vd] at h1;obtain⟨C,h3,h4⟩:=Option.bind_eq_some_iff.1 h1;exact⟨C,h3,qaf h4 h2⟩
theorem qae (h:xg os es=some A) (hp:xA os [] A=true) (i:Nat):∃B,xg os (es.take i)=some B/\xA os [] B=true:=by
 have hh:yz os es=true:=by
  unfold xg at h
  split at h
  ·assumption
  ·cases h
 obtain⟨-,-,-,hr⟩:=zQ h;rw[←List.take_append_drop i es] at hr;obtain⟨B,h1,h2⟩:=Jk hr hp;refine⟨B,?_,h2⟩;unfold xg;rw[if_pos ?_]
 ·exact h1
 ·unfold yz at hh ⊢
  simp only[Bool.and_eq_true,decide_eq_true_eq,List.all_eq_true] at hh ⊢;exact⟨⟨⟨hh.1.1.1,by rw[List.length_take];omega⟩,hh.1.2⟩,fun e he=>hh.2 e (List.mem_of_mem_take he)⟩
theorem Ru (h:yB os (xg os es)=some A) (i:Nat):∃B,yB os (xg os (es.take i))=some B:=by
 cases ht:xg os es with
 |none=>rw[ht] at h;cases h
 |some A0=>
  rw[ht] at h;unfold yB at h;simp only at h
  split at h
  ·rename_i hp
   obtain⟨B,h1,h2⟩:=qae ht hp i;refine⟨B,?_⟩;rw[h1];unfold yB;simp only;rw[if_pos h2]
  ·cases h
end
