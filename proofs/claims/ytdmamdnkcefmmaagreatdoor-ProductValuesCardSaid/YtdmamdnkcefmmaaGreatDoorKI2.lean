import Derived.Test.YtdmamdnkcefmmaaGreatDoorKGT
import Derived.Test.YtdmamdnkcefmmaaGreatDoorAbsQ1
import Derived.Test.YtdmamdnkcefmmaaGreatDoorKNum
import Derived.Test.YtdmamdnkcefmmaaGreatDoorProg
import Derived.KernelRfl
import Derived.Test.YtdmamdnkcefmmaaGreatDoorIT
import Derived.Test.YtdmamdnkcefmmaaGreatDoorAbsL
set_option linter.unusedSimpArgs false
set_option linter.unusedVariables false
set_option maxRecDepth 8000
namespace Go.Proofs.YtdmamdnkcefmmaaGreatDoor
open Go Go.Abs
def kwds:List (List UInt8):=[[97,114,114,97,121],[98,111,111,108],[99,97,116,99,104],[100,97,116,97],[101,108,115,101],[101,110,100],[102,97,108,115,101],[102,110],[102,117,110],[103,101,116],[105,102],[105,110],[105,110,116],[108,101,110],[108,101,116],[109,97,116,99,104],[110,101,119],[114,97,105,115,101],[114,101,97,100],[114,101,102],[115,101,116],[116,104,101,110],[116,105,99,107],[116,114,117,101],[116,114,121],[117,110,105,116],[119,105,116,104],[119,114,105,116,101]]
def kwF (ws:List (List UInt8)) (s:List UInt8):Bool:=ws.any (s == ·)
theorem zc0 {H:zaa} {K:AV→zaa→Prop} {r:AV} (hsc:HSc H) (hv:r.isV=true) (hr:r.scV H.length=true) (h:K r H):Out H.length K r H:=by have:=Out.same (J:=[]) rfl hsc hv hr h;simpa using this
theorem zcB (b c:UInt8):((b.toNat:Int) == (c.toNat:Int))=(b == c):=by
 rw[Bool.eq_iff_iff];simp only[beq_iff_eq];constructor
 ·intro h;exact UInt8.toNat_inj.mp (by omega)
 ·rintro rfl;rfl
theorem zxy (b:UInt8) (H:zaa) (K:AV→zaa→Prop) (hK:K (.bool (zb6 b)) H):ACalls tP zjB [.int .u8 b.toNat] H K:=by refine ACalls.out (zPX λhs=>?_);have hO:=zc0 (K:=K) (H:=H) (r:=.bool (zb6 b)) hs rfl rfl hK;unfold zb6 at hO;cases h1:decide (97≤(b.toNat:Int)) <;> simp[zCe,h1] <;> simpa[h1]using hO
theorem zkL (b:UInt8) (H:zaa) (K:AV→zaa→Prop) (hK:K (.bool (bUp b)) H):ACalls tP zgm [.int .u8 b.toNat] H K:=by refine ACalls.out (zP0 λhs=>?_);have hO:=zc0 (K:=K) (H:=H) (r:=.bool (bUp b)) hs rfl rfl hK;unfold bUp at hO;cases h1:decide (65≤(b.toNat:Int)) <;> simp[zCf,h1] <;> simpa[h1]using hO
theorem zpa (b:UInt8) (H:zaa) (K:AV→zaa→Prop) (hK:K (.bool (za3 b)) H):ACalls tP zhH [.int .u8 b.toNat] H K:=by refine ACalls.out (zP3 λhs=>?_);have hO:=zc0 (K:=K) (H:=H) (r:=.bool (za3 b)) hs rfl rfl hK;unfold za3 at hO;cases h1:decide (48≤(b.toNat:Int)) <;> simp[zCg,h1] <;> simpa[h1]using hO
theorem zpx (b:UInt8) (H:zaa) (K:AV→zaa→Prop) (hK:K (.bool (zb6 b)) H):ACalls tP zjN [.int .u8 b.toNat] H K:=by refine ACalls.out (zSG λhs=>?_);have hO:=zc0 (K:=K) (H:=H) (r:=.bool (zb6 b)) hs rfl rfl hK;unfold zb6 at hO;cases h1:decide (97≤(b.toNat:Int)) <;> simp[zC1,h1] <;> simpa[h1]using hO
theorem zkM (b:UInt8) (H:zaa) (K:AV→zaa→Prop) (hK:K (.bool (bUp b)) H):ACalls tP zhK [.int .u8 b.toNat] H K:=by refine ACalls.out (zSJ λhs=>?_);have hO:=zc0 (K:=K) (H:=H) (r:=.bool (bUp b)) hs rfl rfl hK;unfold bUp at hO;cases h1:decide (65≤(b.toNat:Int)) <;> simp[zC2,h1] <;> simpa[h1]using hO
theorem zpb (b:UInt8) (H:zaa) (K:AV→zaa→Prop) (hK:K (.bool (za3 b)) H):ACalls tP zfz [.int .u8 b.toNat] H K:=by refine ACalls.out (zSY λhs=>?_);have hO:=zc0 (K:=K) (H:=H) (r:=.bool (za3 b)) hs rfl rfl hK;unfold za3 at hO;cases h1:decide (48≤(b.toNat:Int)) <;> simp[zC7,h1] <;> simpa[h1]using hO
theorem zFI (b:UInt8) (H:zaa) (K:AV→zaa→Prop) (hK:K (.bool (zdt b)) H):ACalls tP zql [.int .u8 b.toNat] H K:=by refine ACalls.out (zSx λhs=>?_);have hO:=zc0 (K:=K) (H:=H) (r:=.bool (zdt b)) hs rfl rfl hK;unfold zdt at hO;have e1:((b.toNat:Int) == 9)=(b == 9):=zcB b 9;have e2:((b.toNat:Int) == 10)=(b == 10):=zcB b 10;have e3:((b.toNat:Int) == 13)=(b == 13):=zcB b 13;have e4:((b.toNat:Int) == 32)=(b == 32):=zcB b 32;cases h1:(b == 9) <;> cases h2:(b == 10) <;> cases h3:(b == 13) <;> simp[zCY,e1,e2,e3,e4,h1,h2,h3] <;> simpa[h1,h2,h3]using hO
theorem zJP (b:UInt8) (H:zaa) (K:AV→zaa→Prop) (hK:K (.bool (bIn b)) H):ACalls tP zhL [.int .u8 b.toNat] H K:=by
 refine ACalls.out (zSS λhs=>?_);have hO:=zc0 (K:=K) (H:=H) (r:=.bool (bIn b)) hs rfl rfl hK;unfold bIn at hO;have e1:((b.toNat:Int) == 95)=(b == 95):=zcB b 95;unfold zC5;refine zpx b _ _ ?_;cases h1:zb6 b with
 | true=>simp;simpa[h1]using hO
 | false=>
  simp;refine zkM b _ _ ?_;cases h2:bUp b with
  | true=>simp;simpa[h1,h2]using hO
  | false=>
   simp;refine zpb b _ _ ?_;cases h3:za3 b with
   | true=>simp;simpa[h1,h2,h3]using hO
   | false=>simp[e1];simpa[h1,h2,h3]using hO
theorem zGK (s:List UInt8) (H:zaa) (K:AV→zaa→Prop) (hK:K (.bool (kwF kwds s)) H):ACalls tP zqn [.str s] H K:=by
 refine ACalls.out (zSV λhs=>?_);have hO:=zc0 (K:=K) (H:=H) (r:=.bool (kwF kwds s)) hs rfl rfl hK;have step:∀ (w:List UInt8) (ws:List (List UInt8)) (rest:Prop),(Out H.length K (.bool (kwF ws s)) H→rest)→Out H.length K (.bool (kwF (w::ws) s)) H →
   zac .eql false (.str s) (.str w) λt=>zag t (zbp t H (Out H.length K)) rest:=by
  intro w ws rest h h';simp only[kwF,List.any_cons]at h h';cases e:(s == w) with
  | true=>simpa[zbp,e]using h'
  | false=>rw[e,Bool.false_or]at h';simpa[zbp,e]using h h'
 unfold zC6
 revert hO
 unfold kwds
 iterate 27 refine step _ _ _ ?_
 intro h';simp only[kwF,List.any_cons,List.any_nil,Bool.or_false]at h';cases e:(s == [119,114,105,116,101]) <;> rw[e]at h' <;> simpa[zbp,e]using h'
theorem zGL (s:List UInt8) (H:zaa) (K:AV→zaa→Prop) (hK:K (.bool (kwF kwds s)) H):ACalls tP zjC [.str s] H K:=by
 refine ACalls.out (zP8 λhs=>?_);have hO:=zc0 (K:=K) (H:=H) (r:=.bool (kwF kwds s)) hs rfl rfl hK;have e:zCh (.str s) H (Out H.length K)=ztp (.str s) (.sl (kwds.map λw=>[.str w]) .full) (.int .i64 0) H (Out H.length K):=rfl;rw[e];have aq:kwds.length=28:=rfl;generalize kwds=ws at *;refine zP6 (Inv:=λq t4 H'=>∃ i:Nat,i≤ws.length∧q=ws.length-i∧t4=.int .i64 i∧kwF (ws.drop i) s=kwF ws s∧H'=H) ws.length ?_ ?_
 ·intro _;exact⟨0,by omega,by omega,rfl,by simp,rfl⟩
 ·rintro q t8 H' ⟨i,hi,rfl,rfl,ho,rfl⟩ hsc _ aO Kb aw;by_cases ap:i<ws.length
  ·rw[List.drop_eq_getElem_cons ap]at ho;simp only[kwF,List.any_cons]at ho;cases hz:(ws[i] == s) with
   | true=>
    have ib:(s == ws[i])=true:=by rw[beq_iff_eq]at hz ⊢;exact hz.symm
    rw[ib,Bool.true_or]at ho;simp[zmD,ap,hz];unfold kwF at hO;rw[←ho]at hO;exact hO
   | false=>
    have ib:(s == ws[i])=false:=by rw[beq_eq_false_iff_ne]at hz ⊢;exact λh=>hz h.symm
    rw[ib,Bool.false_or]at ho;simp[zmD,ap,hz];rw[zat (by omega) (by omega)];refine aw _ _ ⟨ws.length-(i+1),by omega,Back.here (Nat.le_refl _) hs ?_ ⟨_,rfl,i+1,by omega,rfl,by simp,ho,rfl⟩⟩;simp[zmE,AV.sc,AV.scV,AV.scA,AV.scB]
  ·simp[zmD,ap];obtain rfl:i=ws.length:=by omega
   rw[List.drop_length]at ho;rw[←ho]at hO;exact hO
theorem zwl {b:UInt8} (h:za3 b=true):48≤(b.toNat:Int)∧(b.toNat:Int)≤57:=by simpa[za3]using h
theorem zIv (s:List UInt8) (hd:∀ b∈s,za3 b=true) (hl:s.length≤1000000) (H:zaa) (K:AV→zaa→Prop) (hK:K (.bool (zcj s 0)) H):ACalls tP zhM [.str s] H K:=by
 refine ACalls.out (zS3 λhs=>?_);have hO:=zc0 (K:=K) (H:=H) (r:=.bool (zcj s 0)) hs rfl rfl hK;simp[zC8];refine zS1 (Inv:=λq t3 t7 H'=>∃ (i:Nat) (n:Int),i≤s.length∧q=s.length-i∧t7=.int .i64 i∧t3=.int .i64 n∧0≤n∧n≤1000000∧zcj (s.drop i) n=zcj s 0∧H'=H) s.length ?_ ?_
 ·intro _;exact⟨0,0,by omega,by omega,rfl,rfl,by omega,by omega,by simp,rfl⟩
 ·rintro q t3 t7 H' ⟨i,n,hi,rfl,rfl,rfl,fp,eW,ho,rfl⟩ hsc _ aO Kb aw;by_cases ap:i<s.length
  ·have hb:=zwl (hd s[i] (List.getElem_mem ap));rw[List.drop_eq_getElem_cons ap,zcj]at ho;simp[zt8,ap];rw[IntWalk.u8_in _ (by omega),zat (n:=n*10) (by omega) (by omega),zat (n:=(s[i].toNat:Int)-48) (by omega) (by omega),zat (by omega) (by omega),zat (by omega) (by omega)];by_cases hg:1000000<n*10+((s[i].toNat:Int)-48)
   ·rw[if_pos hg]at ho;have fh:decide (1000000<n*10+((s[i].toNat:Int)-48))=true:=by simpa using hg
    rw[←ho]at hO;rw[fh];simpa using hO
   ·rw[if_neg hg]at ho;have fh:decide (1000000<n*10+((s[i].toNat:Int)-48))=false:=by simpa using hg
    rw[fh];simp only[zvZ,Bool.false_eq_true,if_false];refine aw _ _ ⟨s.length-(i+1),by omega,Back.here (Nat.le_refl _) hs ?_ ⟨_,_,rfl,i+1,_,by omega,rfl,by simp,rfl,by omega,by omega,ho,rfl⟩⟩;simp[zne,AV.sc,AV.scV,AV.scA,AV.scB]
  ·simp[zt8,ap];obtain rfl:i=s.length:=by omega
   rw[List.drop_length,zcj]at ho;rw[←ho]at hO;exact hO
theorem zyv (cl:UInt8→Bool) (f:FuncId) (bQ:zej tP f=true) (hf:∀ (b:UInt8) (H:zaa) (K:AV→zaa→Prop),K (.bool (cl b)) H→ACalls tP f [.int .u8 b.toNat] H K)
  (s:List UInt8) (hl:s.length≤1000000) (H:zaa) (K:AV→zaa→Prop) (hK:K (.str (s.takeWhile cl)) H):ACalls tP zjO [.str s,.fn f []] H K:=by
 refine ACalls.out (zSO λhs=>?_);have hO:=zc0 (K:=K) (H:=H) (r:=.str (s.takeWhile cl)) hs rfl rfl hK;simp[zC3];refine zSM (Inv:=λq t5 H'=>∃ i:Nat,i≤s.length∧q=s.length-i∧t5=.int .i64 i∧s.take i++(s.drop i).takeWhile cl=s.takeWhile cl∧H'=H) s.length ?_ ?_
 ·intro _;exact⟨0,by omega,by omega,rfl,by simp,rfl⟩
 ·rintro q t5 H' ⟨i,hi,rfl,rfl,ho,rfl⟩ hsc _ aO Kb aw;by_cases ap:i<s.length
  ·rw[List.drop_eq_getElem_cons ap,List.takeWhile_cons]at ho;simp[zt6,ap];simp only[aCallV,bQ,List.append_nil];refine hf _ _ _ ?_;cases hc:cl s[i] with
   | true=>rw[hc,if_pos rfl,List.append_cons,←List.take_succ_eq_append_getElem ap]at ho;simp;rw[zat (by omega) (by omega)];refine aw _ _ ⟨s.length-(i+1),by omega,Back.here (Nat.le_refl _) hs ?_ ⟨_,rfl,i+1,by omega,rfl,by simp,ho,rfl⟩⟩;simp[znc,AV.sc,AV.scV,AV.scA,AV.scB]
   | false=>rw[hc,if_neg (by simp),List.append_nil]at ho;rw[←ho]at hO;simp[hi];exact hO
  ·simp[zt6,ap];obtain rfl:i=s.length:=by omega
   rw[List.drop_length,List.takeWhile_nil,List.append_nil,List.take_length]at ho;rw[←ho]at hO;simpa using hO
theorem zJI (s:List UInt8) (hd:∀ b∈s,za3 b=true) (hl:s.length≤1000000) (H:zaa) (K:AV→zaa→Prop) (hK:∀ n,K (.tup [.int .i64 n,.bool (zcj s 0)]) H):ACalls tP zgn [.str s] H K:=by
 refine ACalls.out (zQo λhs=>?_);have hO:∀ n,Out H.length K (.tup [.int .i64 n,.bool (zcj s 0)]) H:=λn=>Out.tup0 hs (hK n) ⟨zaU rfl rfl,zaU rfl rfl,trivial⟩;simp only[zCm];refine zQm (Inv:=λq t3 t7 H'=>∃ (i:Nat) (n:Int),i≤s.length∧q=s.length-i∧t7=.int .i64 i∧t3=.int .i64 n∧0≤n∧n≤1000000∧zcj (s.drop i) n=zcj s 0∧H'=H) s.length ?_ ?_
 ·intro _;exact⟨0,0,by omega,by omega,rfl,rfl,by omega,by omega,by simp,rfl⟩
 ·rintro q t3 t7 H' ⟨i,n,hi,rfl,rfl,rfl,fp,eW,ho,rfl⟩ hsc _ aO Kb aw;by_cases ap:i<s.length
  ·have hb:=zwl (hd s[i] (List.getElem_mem ap));rw[List.drop_eq_getElem_cons ap,zcj]at ho;simp[zts,ap];rw[IntWalk.u8_in _ (by omega),zat (n:=n*10) (by omega) (by omega),zat (n:=(s[i].toNat:Int)-48) (by omega) (by omega),zat (by omega) (by omega),zat (by omega) (by omega)];by_cases hg:1000000<n*10+((s[i].toNat:Int)-48)
   ·rw[if_pos hg]at ho;have fh:decide (1000000<n*10+((s[i].toNat:Int)-48))=true:=by simpa using hg
    rw[←ho]at hO;rw[fh];simpa[AV.isV]using hO 0
   ·rw[if_neg hg]at ho;have fh:decide (1000000<n*10+((s[i].toNat:Int)-48))=false:=by simpa using hg
    rw[fh];simp only[zvZ,Bool.false_eq_true,if_false];refine aw _ _ ⟨s.length-(i+1),by omega,Back.here (Nat.le_refl _) hs ?_ ⟨_,_,rfl,i+1,_,by omega,rfl,by simp,rfl,by omega,by omega,ho,rfl⟩⟩;simp[zmI,AV.sc,AV.scV,AV.scA,AV.scB]
  ·simp[zts,ap,AV.isV];obtain rfl:i=s.length:=by omega
   rw[List.drop_length,zcj]at ho;rw[←ho]at hO;exact hO n
theorem zJp (b:UInt8) (r:List UInt8):(b::r).take 1=[b]:=by simp
theorem zrb {s:List UInt8} (h:¬ 2≤s.length):zdC s=false:=by
 match s,h with
 | [],_=>rfl
 | [b],_=>simp[zdC]
 | _::_::_,h=>simp at h
theorem zyX (b:UInt8) (r:List UInt8) (h:zdC (b::r)=false):sgn (b::r)=if sgns.contains b=true then 1 else 0:=by simp[sgn,h]
theorem zIk (b:UInt8) (r:List UInt8) (H:zaa) (K:AV→zaa→Prop) (hK:K (.str ((b::r).take (sgn (b::r)))) H):ACalls tP zqo [.str (b::r)] H K:=by
 refine ACalls.out (zS7 λhs=>?_);have hO:=zc0 (K:=K) (H:=H) (r:=.str ((b::r).take (sgn (b::r)))) hs rfl rfl hK;have one:zdC (b::r)=false→znf (.str (b::r)) H (Out H.length K):=by
  intro h2;rw[zyX b r h2]at hO;have hO:Out H.length K (.str (if sgns.contains b=true then [b] else [])) H:=by cases hc:sgns.contains b <;> rw[hc]at hO <;> simpa using hO
  have step:∀ (c:UInt8) (cs:List UInt8) (rest:Prop),(Out H.length K (.str (if cs.contains b=true then [b] else [])) H→rest)→Out H.length K (.str (if (c::cs).contains b=true then [b] else [])) H →
    zac .eql false (.str [b]) (.str [c]) λt=>zag t (zcC (.str (b::r)) t H (Out H.length K)) rest:=by
   intro c cs rest h h';rw[List.contains_cons]at h';cases e:(b == c) with
   | true=>rw[e]at h';simpa[zcC,e]using h'
   | false=>rw[e,Bool.false_or]at h';simpa[zcC,e]using h h'
  unfold znf;simp only[zFj,zFd,zFc,Int.toNat_one,zJp,List.drop_zero];refine⟨by decide,⟨by omega,by simp⟩,?_⟩
  revert hO
  unfold sgns
  iterate 12 refine step _ _ _ ?_
  intro h';rw[List.contains_cons]at h';cases e:(b == 95) <;> rw[e]at h' <;> simpa[zcC,e]using h'
 by_cases hl:2≤(b::r).length
 ·have bZ:(2:Int)≤r.length+1:=by simp only[List.length_cons]at hl;omega
  have dT:1≤r.length:=by simp only[List.length_cons]at hl;omega
  cases h2:zdC (b::r) with
  | true=>
   have h3:sgn (b::r)=2:=by simp[sgn,h2]
   rw[h3]at hO;unfold zdC at h2;simp only[List.take_succ_cons]at h2 hO;cases e1:(b::List.take 1 r == [45,62]) with
   | true=>simpa[zgU,bZ,dT,zfW,e1]using hO
   | false=>
    cases e2:(b::List.take 1 r == [60,61]) with
    | true=>simpa[zgU,bZ,dT,zfW,e1,e2]using hO
    | false=>rw[e1,e2]at h2;simp only[Bool.false_or]at h2;simpa[zgU,bZ,dT,zfW,e1,e2,h2]using hO
  | false=>have ho:=one h2;unfold zdC at h2;simp only[List.take_succ_cons]at h2;rw[Bool.or_eq_false_iff,Bool.or_eq_false_iff]at h2;simpa[zgU,bZ,dT,zfW,h2.1.1,h2.1.2,h2.2]using ho
 ·have ho:=one (zrb hl);have:¬ ((2:Int)≤r.length+1):=by simp only[List.length_cons]at hl;omega
  simpa[zgU,this]using ho
theorem zIj (b:UInt8) (r:List UInt8) (H:zaa) (K:AV→zaa→Prop) (hK:K (.int .i64 (sgn (b::r))) H):ACalls tP zp7 [.str (b::r)] H K:=by
 refine ACalls.out (zQu λhs=>?_);have hO:=zc0 (K:=K) (H:=H) (r:=.int .i64 (sgn (b::r))) hs rfl rfl hK;have one:zdC (b::r)=false→ztv (.str (b::r)) (.str sgns) (.int .i64 0) H (Out H.length K):=by
  intro h2;rw[zyX b r h2]at hO;have aq:sgns.length=13:=rfl;generalize sgns=ws at *;refine zQs (Inv:=λq t4 H'=>∃ i:Nat,i≤ws.length∧q=ws.length-i∧t4=.int .i64 i∧(ws.drop i).contains b=ws.contains b∧H'=H) ws.length ?_ ?_
  ·intro _;exact⟨0,by omega,by omega,rfl,by simp,rfl⟩
  ·rintro q t8 H' ⟨i,hi,rfl,rfl,ho,rfl⟩ hsc _ aO Kb aw;by_cases ap:i<ws.length
   ·rw[List.drop_eq_getElem_cons ap,List.contains_cons]at ho;have e1:=zcB b ws[i];cases hz:(b == ws[i]) with
    | true=>rw[hz,Bool.true_or]at ho;rw[←ho]at hO;simpa[zmK,ap,e1,hz]using hO
    | false=>rw[hz,Bool.false_or]at ho;simp[zmK,ap,e1,hz];rw[zat (by omega) (by omega)];refine aw _ _ ⟨ws.length-(i+1),by omega,Back.here (Nat.le_refl _) hs ?_ ⟨_,rfl,i+1,by omega,rfl,by simp,ho,rfl⟩⟩;simp[zmL,AV.sc,AV.scV,AV.scA,AV.scB]
   ·obtain rfl:i=ws.length:=by omega
    rw[List.drop_length]at ho;rw[←ho]at hO;simpa[zmK,ap]using hO
 by_cases hl:2≤(b::r).length
 ·have bZ:(2:Int)≤r.length+1:=by simp only[List.length_cons]at hl;omega
  have dT:1≤r.length:=by simp only[List.length_cons]at hl;omega
  cases h2:zdC (b::r) with
  | true=>
   have h3:sgn (b::r)=2:=by simp[sgn,h2]
   rw[h3]at hO;unfold zdC at h2;simp only[List.take_succ_cons]at h2 hO;cases e1:(b::List.take 1 r == [45,62]) with
   | true=>simpa[zgP,bZ,dT,e1]using hO
   | false=>
    cases e2:(b::List.take 1 r == [60,61]) with
    | true=>simpa[zgP,bZ,dT,e1,e2]using hO
    | false=>rw[e1,e2]at h2;simp only[Bool.false_or]at h2;simpa[zgP,bZ,dT,e1,e2,h2]using hO
  | false=>have ho:=one h2;unfold sgns at ho;unfold zdC at h2;simp only[List.take_succ_cons]at h2;rw[Bool.or_eq_false_iff,Bool.or_eq_false_iff]at h2;simpa[zgP,bZ,dT,h2.1.1,h2.1.2,h2.2]using ho
 ·have ho:=one (zrb hl);unfold sgns at ho;have:¬ ((2:Int)≤r.length+1):=by simp only[List.length_cons]at hl;omega
  simpa[zgP,this]using ho

def Tk.cs (t:Tk):List AV:=[.int .i64 t.kind,.str t.text,.int .i64 t.pos]
def zkx (kw:List UInt8→Bool) (b:UInt8) (r:List UInt8) (i:Nat):AV:=
 match tok kw b r with
 | .error e=>.tup [.agg [.int .i64 0,.str [],.int .i64 0],.int .i64 e]
 | .ok (k,n)=>.tup [.agg (Tk.cs ⟨k,(b::r).take n,i⟩),.int .i64 0]
theorem zkH {p:UInt8→Bool} (b:UInt8) (r:List UInt8):(b::r).take ((r.takeWhile p).length+1)=b::r.takeWhile p:=by
 rw[List.take_succ_cons];congr 1;induction r with
 | nil=>simp
 | cons c r ih=>by_cases h:p c=true <;> simp[h,ih]
theorem zGM:zej tP zhL=true:=by kernel_rfl
theorem zGN:zej tP zfz=true:=by kernel_rfl
theorem zyi {H J:zaa} {K:AV→zaa→Prop} {k p e:Int} {t:List UInt8} (hs:HSc H) (h:K (.tup [.agg [.int .i64 k,.str t,.int .i64 p],.int .i64 e]) H) :
  Out H.length K (.tup [.agg [.int .i64 k,.str t,.int .i64 p],.int .i64 e]) (H++J):=Out.tup hs h ⟨zaU rfl rfl,zaU rfl rfl,trivial⟩
def zna (t4 t6:AV) (H:zaa) (K:AV→zaa→Prop):Prop:=
 zaf 1 t6 λt69=>
 zae false 1 t69 H λt70=>
 ACalls tP zhM [t70] H λt71 H=>
 aUn .not t71 λt72=>
 zag t72
 (zau [(.int .i64 0),(.str []),(.int .i64 0)] [(0,1),(1,1),(2,1)] [] λt73=>
 zan 3 t4 t73 H λH=>
 zae true 3 t4 H λr0=>
 zaE [r0,(.int .i64 9)] (K · H))
 (zgT t4 t6 H K)
theorem zIb (s:List UInt8) (hl:s.length≤1000000) (i:Nat) (hi:i<s.length) (H:zaa) (K:AV→zaa→Prop) (hK:K (zkx (kwF kwds) s[i] (s.drop (i+1)) i) H):ACalls tP zqm [.str s,.int .i64 i] H K:=by
 refine ACalls.out (zSA λhs=>?_);have bK:=List.drop_eq_getElem_cons hi;have dP:(s.drop i).length≤1000000:=by simp;omega
 generalize hb:s[i]=b at *;generalize hr:s.drop (i+1)=r at *;have kz:s[i]?.getD 0=b:=by simp[hi,hb]
 have post:∀ (k:Int) (n:Nat),tok (kwF kwds) b r=.ok (k,n)→∀ t,(b::r).take n=t→zgT (.ptr H.length 0) (.ptr (H.length+1) 0) (H++[.cells [.int .i64 0,.str [],.int .i64 0],.cells [.int .i64 k,.str t,.int .i64 i]]) (Out H.length K):=by intro k n ht t mo;subst mo;simp[zkx,ht,Tk.cs]at hK;simp[zgT,zCZ,AV.known,AV.isV];exact zyi hs hK
 have bad:∀ e:Int,tok (kwF kwds) b r=.error e→∀ J,Out H.length K (.tup [.agg [.int .i64 0,.str [],.int .i64 0],.int .i64 e]) (H++J):=by intro e ht J;simp[zkx,ht]at hK;exact zyi hs hK
 have df:=Nat.le_of_lt hi;by_cases cJ:(zb6 b || bUp b)=true
 ·have g9:bIn b=true:=by simp[bIn,cJ]
  simp[zt5,hi,hb,df,zau,zaL,AV.known];refine zpx b _ _ ?_;have hc:zb6 b=true∨(zb6 b=false∧bUp b=true):=by cases hL:zb6 b <;> simp[hL]at cJ ⊢;exact cJ
  have bO:=λk=>post k ((r.takeWhile bIn).length+1);simp only[tok,cJ,if_true,zkH]at bO;rcases hc with hL | ⟨hL,hU⟩
  case' inl=>simp[hL]
  case' inr=>simp[hL];refine zkM b _ _ ?_;simp[hU]
  all_goals
   rw[bK];refine zyv bIn zhL zGM zJP (b::r) (by rw[←bK];exact dP) _ _ ?_;simp[g9,AV.known];by_cases hn:(r.takeWhile bIn).length+1>24
   ·have bB:(24:Int)<(r.takeWhile bIn).length+1:=by omega
    have:=bad 9 (by simp only[tok,cJ,if_true];rw[if_pos hn]);simp[bB,AV.known,AV.isV];exact this _
   ·have bB:¬ (24:Int)<(r.takeWhile bIn).length+1:=by omega
    simp[bB];refine zkM b _ _ ?_;rw[if_neg hn]at bO;cases hU:bUp b with
    | true=>simp[AV.known,zgS];exact bO 2 (by simp[hU]) _ rfl
    | false=>
     simp[AV.known];refine zGK _ _ _ ?_;cases kA:kwF kwds (b::r.takeWhile bIn) with
     | true=>simp[AV.known,zgS];exact bO 4 (by simp[hU,kA]) _ rfl
     | false=>simp[AV.known,zgS];exact bO 1 (by simp[hU,kA]) _ rfl
 ·have hL:zb6 b=false:=by simp at cJ;exact cJ.1
  have hU:bUp b=false:=by simp at cJ;exact cJ.2
  simp[zt5,hi,hb,zau,zaL,AV.known];refine zpx b _ _ ?_;simp[hL];refine zkM b _ _ ?_;simp[hU];refine zpb b _ _ ?_;cases hD:za3 b with
  | true=>
   simp[df,AV.known];rw[bK];refine zyv za3 zfz zGN zpb (b::r) (by rw[←bK];exact dP) _ _ ?_;have e1:((b.toNat:Int) == 48)=(b == 48):=zcB b 48;have bm:tok (kwF kwds) b r=if (b == 48 && decide ((r.takeWhile za3).length+1>1))=true then .error 2 else if zcj (b::r.takeWhile za3) 0=true then .ok (3,(r.takeWhile za3).length+1) else .error 9:=by simp only[tok,cJ,hD,if_true,zkH];rfl
   have iL:∀ J,ACalls tP zhM [.str (b::r.takeWhile za3)] (H++J) λt H'=>t=.bool (zcj (b::r.takeWhile za3) 0)∧H'=H++J:=by
    intro J;refine zIv _ ?_ ?_ _ _ ⟨rfl,rfl⟩
    ·intro c hc;rcases List.mem_cons.1 hc with rfl | hc
     ·exact hD
     ·exact List.all_eq_true.1 (List.all_takeWhile) c hc
    ·have h1:(r.takeWhile za3).length≤r.length:=(List.takeWhile_sublist _).length_le;rw[bK]at dP;simp at dP ⊢;omega
   simp[hD,AV.known,e1];have bO:=post 3 ((r.takeWhile za3).length+1);rw[zkH]at bO;rw[bm]at bO bad;have last:∀ J,(¬ (b == 48 && decide ((r.takeWhile za3).length+1>1))=true)→J=[.cells [.int .i64 0,.str [],.int .i64 0],.cells [.int .i64 3,.str (b::r.takeWhile za3),.int .i64 i]]→zna (.ptr H.length 0) (.ptr (H.length+1) 0) (H++J) (Out H.length K):=by
    rintro J aD rfl;rw[if_neg aD]at bO bad;simp[zna];refine (iL _).mono ?_;rintro _ _ ⟨rfl,rfl⟩;cases hv:zcj (b::r.takeWhile za3) 0 with
    | true=>simp;exact bO (by simp[hv]) _ rfl
    | false=>simp[AV.known,zau,zaL,AV.isV];exact bad 9 (by simp[hv]) _
   cases hz:(b == 48) with
   | true=>
    simp[hz];by_cases hn:1<(r.takeWhile za3).length+1
    ·have bB:(1:Int)<(r.takeWhile za3).length+1:=by omega
     have hd:decide ((r.takeWhile za3).length+1>1)=true:=decide_eq_true hn;have:=bad 2 (by rw[hz,hd];rfl);simp[bB,AV.known,AV.isV];exact this _
    ·have bB:¬ (1:Int)<(r.takeWhile za3).length+1:=by omega
     have hd:decide ((r.takeWhile za3).length+1>1)=false:=decide_eq_false hn;have:=last _ (by rw[hz,hd];decide) rfl;simp[zna,zau,zaL]at this;simp[bB];exact this
   | false=>have:=last _ (by simp[hz]) rfl;simp[zna,zau,zaL]at this;simp[hz];exact this
  | false=>
   simp[df,AV.known];rw[bK];refine zIk b r _ _ ?_;simp[AV.known];have bm:tok (kwF kwds) b r=if sgn (b::r)=0 then .error 2 else .ok (5,sgn (b::r)):=by simp only[tok,cJ,hD];rfl
   by_cases hz:sgn (b::r)=0
   ·have:=bad 2 (by rw[bm,if_pos hz]);simp[hz,AV.isV];exact this _
   ·have:=post 5 (sgn (b::r)) (by rw[bm,if_neg hz]) _ rfl;have he:(List.take (sgn (b::r)) (b::r)).isEmpty=false:=by
     cases h:sgn (b::r) with
     | zero=>exact absurd h hz
     | succ n=>simp
    simp[he];exact this
def cat (l:List Tk):Except (Nat × Int) (List Tk)→Except (Nat × Int) (List Tk)
 | .error e=>.error e
 | .ok m=>.ok (l++m)
theorem zwx (l m:List Tk) (r:Except (Nat × Int) (List Tk)):cat l (cat m r)=cat (l++m) r:=by cases r <;> simp[cat]
@[simp] theorem yax (r:Except (Nat × Int) (List Tk)):cat [] r=r:=by cases r <;> rfl
def zex (r:List UInt8):List UInt8:=r.dropWhile (· != 10)
def zey (r:List UInt8):Nat:=(r.takeWhile (· != 10)).length
section
variable (kw:List UInt8→Bool)
theorem zrx (p:Nat):zbB kw [] p=.ok [⟨6,[],p⟩]:=by unfold zbB;rfl
theorem zzw {b:UInt8} (h:zdt b=true) (r:List UInt8) (p:Nat):zbB kw (b::r) p=zbB kw r (p+1):=by
 conv=>lhs;unfold zbB
 simp[h]
theorem zzy {b:UInt8} (h0:zdt b=false) (h:(b == 35)=true) (r:List UInt8) (p:Nat):zbB kw (b::r) p=zbB kw (zex r) (p+1+zey r):=by
 conv=>lhs;unfold zbB
 simp only[h0,h,Bool.false_eq_true,if_false,if_true];rfl
theorem zzx {b:UInt8} (h0:zdt b=false) (h:(b == 35)=false) {r:List UInt8} {p:Nat} {e:Int} (ht:tok kw b r=.error e):zbB kw (b::r) p=.error (p,e):=by
 conv=>lhs;unfold zbB
 simp only[h0,h,Bool.false_eq_true,if_false,ht]
theorem zzz {b:UInt8} (h0:zdt b=false) (h:(b == 35)=false) {r:List UInt8} {p:Nat} {k:Int} {n:Nat} (ht:tok kw b r=.ok (k,n)) :
  zbB kw (b::r) p=cat [⟨k,(b::r).take n,p⟩] (zbB kw ((b::r).drop n) (p+n)):=by
 conv=>lhs;unfold zbB
 have hn:=zrw ht;obtain⟨m,rfl⟩:∃ m,n=m+1:=⟨n-1,by omega⟩;simp only[h0,h,Bool.false_eq_true,if_false,ht,Nat.add_sub_cancel,List.drop_succ_cons];cases zbB kw (r.drop m) (p+(m+1)) <;> rfl
end
theorem zkA {b:UInt8} (h:(b == 10)=false) (r:List UInt8):zex (b::r)=zex r∧zey (b::r)=1+zey r:=by
 have hb:b≠10:=by simpa using h
 constructor
 ·simp[zex,hb]
 ·simp[zey,hb];omega
theorem zyZ {b:UInt8} (h:(b == 10)=true) (r:List UInt8):zex (b::r)=b::r∧zey (b::r)=0:=by
 have hb:b=10:=by simpa using h
 constructor
 ·simp[zex,hb]
 ·simp[zey,hb]
theorem skipC_nil:zex []=[]∧zey []=0:=⟨rfl,rfl⟩
theorem zrv {kw:List UInt8→Bool} {b:UInt8} {r:List UInt8} {k:Int} {n:Nat} (h:tok kw b r=.ok (k,n)):n≤(b::r).length:=by
 have tw:∀ p:UInt8→Bool,(r.takeWhile p).length≤r.length:=λp=>(List.takeWhile_sublist _).length_le;unfold tok at h;split at h
 ·simp only at h;split at h <;> simp at h;have:=tw bIn;simp;omega
 ·split at h
  ·simp only at h;split at h
   ·simp at h
   ·split at h <;> simp at h;have:=tw za3;simp;omega
  ·simp only at h;split at h <;> simp at h
   obtain⟨_,rfl⟩:=h;unfold sgn;split
   ·rename_i h2;by_cases hl:2≤(b::r).length
    ·exact hl
    ·rw[zrb hl]at h2;cases h2
   ·split
    ·simp
    ·split <;> simp
theorem zJv {kw:List UInt8→Bool} {b:UInt8} {r:List UInt8} {e:Int} (h:tok kw b r=.error e):e=2∨e=9:=by
 unfold tok at h;split at h
 ·simp only at h;split at h <;> simp at h;omega
 ·split at h
  ·simp only at h;split at h
   ·simp at h;omega
   ·split at h <;> simp at h;omega
  ·simp only at h;split at h <;> simp at h;omega
def ze5 (s:List UInt8):AV:=
 if s.length>16384 then .tup [.sl [] .none,.int .i64 0,.int .i64 9] else
 match zbB (kwF kwds) s 0 with
 | .error (p,e)=>.tup [.sl [] .none,.int .i64 p,.int .i64 e]
 | .ok l=>.tup [.sl (l.map Tk.cs) .none,.int .i64 0,.int .i64 0]
theorem two {H:zaa} {x y:AB}:H++[x,y]=(H++[x])++[y]:=by simp
theorem zyh {H J:zaa} {K:AV→zaa→Prop} {p e:Int} (hs:HSc H) (hK:K (.tup [.sl [] .none,.int .i64 p,.int .i64 e]) H):Out H.length K (.tup [.snil,.int .i64 p,.int .i64 e]) (H++J):=
 Out.tup hs hK ⟨zdS,zaU rfl rfl,zaU rfl rfl,trivial⟩
theorem zI7 (s:List UInt8) (H:zaa) (K:AV→zaa→Prop) (hK:K (ze5 s) H):ACalls tP zqi [.str s] H K:=by
 refine ACalls.out (zSc λhs=>?_);by_cases hl:s.length>16384
 ·have bZ:(16384:Int)<s.length:=by omega
  simp[ztX,bZ,AV.isV];unfold ze5 at hK;rw[if_pos hl]at hK;exact Out.tup0 hs hK ⟨zdS,zaU rfl rfl,zaU rfl rfl,trivial⟩
 have bZ:¬ (16384:Int)<s.length:=by omega
 unfold ze5 at hK;rw[if_neg hl]at hK;simp[ztX,bZ];have aI:∀ n,HSc (H++[.perm zeQ 3 n]):=λn=>hs.append rfl;unfold zm7;refine ALoop.own 5 zeQ 3 rfl ?_;show zm7 (.str s) (.sl [] (.own H.length)) (.int .i64 0) (H++[.perm zeQ 3 0]) (Out H.length K);refine zR9 (Inv:=λq t5 t6 H'=>∃ (i:Nat) (l:List Tk),i≤s.length∧l.length≤i∧q=s.length-i∧t6=.int .i64 i∧t5=.sl (l.map Tk.cs) (.own H.length)∧H'=H++[.perm zeQ 3 l.length]∧cat l (zbB (kwF kwds) (s.drop i) i)=zbB (kwF kwds) s 0) s.length ?_ ?_
 ·intro _;exact⟨0,[],by omega,by simp,by omega,rfl,rfl,rfl,by simp⟩
 ·rintro q t5 t6 H' ⟨i,l,hi,bq,rfl,rfl,rfl,rfl,ho⟩ hsc aq aO Kb aw;have done:cat l (.ok [⟨6,[],s.length⟩])=zbB (kwF kwds) s 0→zm6 (.str s) (.sl (l.map Tk.cs) (.own H.length)) (H++[.perm zeQ 3 l.length]) (Out H.length K):=by intro ho;rw[←ho]at hK;simp[zm6,zCS,zau,zaL,zaw,zaT,plain,AV.pd,zax,zaN,zaK,AV.isV];refine⟨by omega,?_⟩;simp[cat,Tk.cs]at hK;exact Out.tup hs hK ⟨slV,zaU rfl rfl,zaU rfl rfl,trivial⟩
  by_cases ap:i<s.length
  ·have bK:=List.drop_eq_getElem_cons ap;simp[ztY,ap];refine zFI _ _ _ ?_;have e35:((s[i].toNat:Int) == 35)=(s[i] == 35):=zcB s[i] 35;cases ck:zdt s[i] with
   | true=>rw[bK,zzw _ ck]at ho;simp[zgR];rw[zat (by omega) (by omega)];refine aw _ _ ⟨s.length-(i+1),by omega,Back.here (by simp) (aI _) ?_ ⟨_,_,rfl,i+1,l,by omega,by omega,rfl,by simp,rfl,rfl,ho⟩⟩;simp[zgQ,AV.sc,AV.scV,AV.scA,AV.scB]
   | false=>
    simp[e35];cases aV:(s[i] == 35) with
    | true=>
     simp;rw[bK,zzy _ ck aV]at ho;have e7:(s[i] == 10)=false:=by rw[beq_iff_eq]at aV;rw[aV];rfl
     obtain⟨c1,c2⟩:=zkA e7 (s.drop (i+1));rw[Nat.add_assoc,←c1,←c2,←bK]at ho;refine zSa (Inv:=λq t6 H'=>∃ (j:Nat),i≤j∧j≤s.length∧q=s.length-j∧t6=.int .i64 j∧H'=H++[.perm zeQ 3 l.length]∧cat l (zbB (kwF kwds) (zex (s.drop j)) (j+zey (s.drop j)))=zbB (kwF kwds) s 0) (s.length-i) ?_ ?_
     ·intro _;exact⟨i,by omega,by omega,by omega,rfl,rfl,ho⟩
     ·rintro q t6 H' ⟨j,iM,hj,rfl,rfl,rfl,ho⟩ hsc aq aO Kb9 gb;by_cases cY:j<s.length
      ·have eJ:=List.drop_eq_getElem_cons cY;have e10:((s[j].toNat:Int) == 10)=(s[j] == 10):=zcB s[j] 10;simp[ztZ,cY,e10];cases hz:(s[j] == 10) with
       | true=>
        obtain⟨d1,d2⟩:=zyZ hz (s.drop (j+1));rw[eJ,d1,d2,←eJ,Nat.add_zero]at ho;have hij':i≠j:=by rintro rfl;rw[e7]at hz;cases hz
        simp[zgR];refine aw _ _ ⟨s.length-j,by omega,Back.here (by simp) (aI _) ?_ ⟨_,_,rfl,j,l,by omega,by omega,rfl,by simp,rfl,rfl,ho⟩⟩;simp[zgQ,AV.sc,AV.scV,AV.scA,AV.scB]
       | false=>obtain⟨d1,d2⟩:=zkA hz (s.drop (j+1));rw[eJ,d1,d2,←Nat.add_assoc]at ho;simp;rw[zat (by omega) (by omega)];refine gb _ _ ⟨s.length-(j+1),by omega,Back.here (by simp) (aI _) ?_ ⟨_,rfl,j+1,by omega,by omega,rfl,by simp,rfl,ho⟩⟩;simp[zm5,AV.sc,AV.scV,AV.scA,AV.scB]
      ·obtain rfl:j=s.length:=by omega
       simp[ztZ];rw[List.drop_length,skipC_nil.1,skipC_nil.2,Nat.add_zero,zrx]at ho;exact done ho
    | false=>
     simp;refine zIb s (by omega) i ap _ _ ?_;unfold zkx;cases ht:tok (kwF kwds) s[i] (s.drop (i+1)) with
     | error e=>
      rw[bK,zzx _ ck aV ht]at ho;have he:(e != 0)=true:=by rcases zJv ht with rfl | rfl <;> rfl
      rw[←ho]at hK;simp[AV.known,AV.isV,he];exact zyh hs hK
     | ok kn=>
      obtain⟨k,n⟩:=kn;rw[bK,zzz _ ck aV ht,zwx,←bK]at ho;have hn:=zrv ht;rw[←bK]at hn;simp at hn;have fp:=zrw ht;simp[Tk.cs,AV.known,zaw,zaT,plain,AV.pd,zax,zaN,zaK,zgR];refine⟨by omega,?_⟩;rw[show min n (s.length-i)=n by omega,zat (by omega) (by omega),two];refine aw _ _ ⟨s.length-(i+n),by omega,Back.same (by simp) (aI _) ?_ ⟨_,_,rfl,i+n,l++[⟨k,(s.drop i).take n,i⟩],by omega,by simp;omega,rfl,by simp,by simp[Tk.cs],by simp,?_⟩⟩
      ·simp[zgQ,AV.sc,AV.scV,AV.scA,AV.scB]
      ·rw[List.drop_drop]at ho;exact ho
  ·obtain rfl:i=s.length:=by omega
   rw[List.drop_length,zrx]at ho;simpa[ztY]using done ho
theorem zkI (s:List UInt8) (i n:Nat):List.drop i (List.take (i+n) s)=List.take n (List.drop i s):=by rw[List.drop_take];congr 1;omega
def zgK (t0 t5 t6 t7 t8:AV) (H:zaa) (K:AV→zaa→Prop) (Kb5:List AV→zaa→Prop):Prop:=
 zac .gtr false t8 (.int .i64 24) λt118=>
 zag t118
 (zaE [.snil,t6,(.int .i64 9)] (K · H))
 (ACalls tP zgm [t7] H λt121 H=>
 zag t121
 (ze9 t0 t5 t6 t8 (.int .i64 2) H K Kb5)
 (zac .add false t6 t8 λt126=>
 zaR 0 0 t0 (some t6) (some t126) λt127=>
 ACalls tP zjC [t127] H λt128 H=>
 zag t128
 (ze9 t0 t5 t6 t8 (.int .i64 4) H K Kb5)
 (ze9 t0 t5 t6 t8 (.int .i64 1) H K Kb5)))
section
variable (s:List UInt8) (hl:¬ s.length>16384) (i:Nat) (ap:i<s.length) (H:zaa) (l:List Tk) (bq:l.length≤i) (aI:∀ n,HSc (H++[.perm zbt 3 n])) (K:AV→zaa→Prop) (Kb:List AV→zaa→Prop)
include hl ap bq aI
theorem zJQ (cJ:(zb6 s[i] || bUp s[i])=true)
  (app:∀ (k:Int) (n:Nat),tok (kwF kwds) s[i] (s.drop (i+1))=.ok (k,n)→∀ t,(s.drop i).take n=t→zio (.str s) (.sl (l.map Tk.cs++[[.int .i64 k,.str t,.int .i64 i]]) (.own H.length)) (.int .i64 i) (.int .i64 n) (H++[.perm zbt 3 (l.length+1)]) (Out H.length K) Kb)
  (bad:∀ e:Int,tok (kwF kwds) s[i] (s.drop (i+1))=.error e→Out H.length K (.tup [.snil,.int .i64 i,.int .i64 e]) (H++[.perm zbt 3 l.length])) :
  zsu (.str s) (.sl (l.map Tk.cs) (.own H.length)) (.int .i64 i) (.int .u8 s[i].toNat) (.int .i64 1) (H++[.perm zbt 3 l.length]) (Out H.length K) Kb:=by
 refine zMM (Inv:=λq t8 H'=>∃ (j:Nat),i+j≤s.length∧0<j∧q=s.length-j∧t8=.int .i64 j∧H'=H++[.perm zbt 3 l.length]∧j+((s.drop (i+j)).takeWhile bIn).length=((s.drop (i+1)).takeWhile bIn).length+1) (s.length-1) ?_ ?_
 ·intro _;exact⟨1,by omega,by omega,by omega,rfl,rfl,by omega⟩
 ·rintro q t8 H' ⟨j,iM,hj0,rfl,rfl,rfl,hn⟩ hsc aq aO Kb18 gc;have w1:IntKind.i64.wrap ((i:Int)+j)=i+j:=zat (by omega) (by omega);have w2:IntKind.i64.wrap ((j:Int)+1)=j+1:=zat (by omega) (by omega);have fin:((s.drop (i+j)).takeWhile bIn).length=0→zgK (.str s) (.sl (l.map Tk.cs) (.own H.length)) (.int .i64 i) (.int .u8 s[i].toNat) (.int .i64 j) (H++[.perm zbt 3 l.length]) (Out H.length K) Kb:=by
   intro h0;rw[h0]at hn;have bm:tok (kwF kwds) s[i] (s.drop (i+1))=if j>24 then .error 9 else .ok (if bUp s[i]=true then 2 else if kwF kwds ((s.drop i).take j)=true then 4 else 1,j):=by rw[List.drop_eq_getElem_cons ap];simp only[tok,cJ,if_true,←hn,Nat.add_zero]
   by_cases h24:j>24
   ·have jj:(24:Int)<j:=by omega
    rw[if_pos h24]at bm;simp[zgK,jj,AV.isV];exact bad 9 bm
   ·have jj:¬ (24:Int)<j:=by omega
    rw[if_neg h24]at bm;simp[zgK,jj];refine zkL _ _ _ ?_;have fin2:∀ k,k=(if bUp s[i]=true then 2 else if kwF kwds ((s.drop i).take j)=true then 4 else 1:Int)→ze9 (.str s) (.sl (l.map Tk.cs) (.own H.length)) (.int .i64 i) (.int .i64 j) (.int .i64 k) (H++[.perm zbt 3 l.length]) (Out H.length K) Kb:=by intro k hk;rw[←hk]at bm;have:=app k j bm _ rfl;simp[ze9,w1,w2,zau,zaL,zaw,zaT,plain,AV.pd,zax,zaN,zaK,zfa];refine⟨by omega,by omega,by omega,?_⟩;rw[show ((i:Int)+j).toNat=i+j by omega,zkI];exact this
    cases hU:bUp s[i] with
    | true=>simp;exact fin2 2 (by simp[hU])
    | false=>
     simp[w1,w2];refine⟨by omega,by omega,?_⟩;rw[show ((i:Int)+j).toNat=i+j by omega,zkI];refine zGL _ _ _ ?_;cases kA:kwF kwds ((s.drop i).take j) with
     | true=>simp;exact fin2 4 (by simp[hU,kA])
     | false=>simp;exact fin2 1 (by simp[hU,kA])
  by_cases cY:i+j<s.length
  ·have e95:((s[i+j].toNat:Int) == 95)=(s[i+j] == 95):=zcB s[i+j] 95;have bP:(i+j:Int)<s.length:=by omega
   rw[List.drop_eq_getElem_cons cY,List.takeWhile_cons]at hn fin;have key:bIn s[i+j]=true→Kb18 (zin (.str s) (.sl (l.map Tk.cs) (.own H.length)) (.int .i64 i) (.int .u8 s[i].toNat) (.int .i64 (j+1))) (H++[.perm zbt 3 l.length]):=by intro jk;rw[jk]at hn;simp at hn;refine gc _ _ ⟨s.length-(j+1),by omega,Back.here (by simp) (aI _) ?_ ⟨_,rfl,j+1,by omega,by omega,rfl,by simp,rfl,by rw[←Nat.add_assoc];omega⟩⟩;simp[zin,AV.sc,AV.scV,AV.scA,AV.scB]
   have no:bIn s[i+j]=false→zgK (.str s) (.sl (l.map Tk.cs) (.own H.length)) (.int .i64 i) (.int .u8 s[i].toNat) (.int .i64 j) (H++[.perm zbt 3 l.length]) (Out H.length K) Kb:=by intro jk;rw[jk]at fin;exact fin (by simp)
   have aC:s[((i:Int)+j).toNat]?.getD 0=s[i+j]:=by rw[show ((i:Int)+j).toNat=i+j by omega];simp[cY]
   unfold bIn at key no;simp[zsr,w1,w2,bP,aC];refine⟨by omega,?_⟩;refine zxy _ _ _ ?_;cases hL:zb6 s[i+j] with
   | true=>simpa using key (by simp[hL])
   | false=>
    simp[w1,w2,bP,aC];refine⟨by omega,zkL _ _ _ ?_⟩;cases hU:bUp s[i+j] with
    | true=>simpa using key (by simp[hU])
    | false=>
     simp[w1,w2,bP,aC];refine⟨by omega,zpa _ _ _ ?_⟩;cases hD:za3 s[i+j] with
     | true=>simpa using key (by simp[hD])
     | false=>
      simp[w1,w2,bP,aC,e95];refine⟨by omega,?_⟩;cases h95:(s[i+j] == 95) with
      | true=>simpa using key (by simp[h95])
      | false=>simpa[zgK,w1]using no (by simp[hL,hU,hD,h95])
  ·have bP:¬ (i+j:Int)<s.length:=by omega
   have:s.drop (i+j)=[]:=List.drop_eq_nil_of_le (by omega);rw[this]at fin;have:=fin rfl;simp[zsr,w1,w2,bP];simpa[zgK,w1]using this
end
def zlH (t0 t5 t6 t8:AV) (H:zaa) (K:AV→zaa→Prop) (Kb5:List AV→zaa→Prop):Prop:=
 zac .add false t6 t8 λt172=>
 zaR 0 0 t0 (some t6) (some t172) λt173=>
 ACalls tP zgn [t173] H λt174 H=>
 zaA t174 0 λt175=>
 zaA t174 1 λt176=>
 aUn .not t176 λt178=>
 zag t178
 (zaE [.snil,t6,(.int .i64 9)] (K · H))
 (zac .add false t6 t8 λt185=>
 zaR 0 0 t0 (some t6) (some t185) λt186=>
 zau [(.int .i64 0),(.str []),(.int .i64 0)] [(0,1),(1,1),(2,1)] [(0,(.int .i64 3)),(1,t186),(2,t6)] λt188=>
 zaw 3 [(.int .i64 0),(.str []),(.int .i64 0)] 1 [(0,t188)] λt189=>
 zax zbt 3 32 t5 t189 H λt190 H=>
 zfa t0 t190 t6 t8 H K Kb5)
def zgL (t0 t5 t6 t7 t8:AV) (H:zaa) (K:AV→zaa→Prop) (Kb5:List AV→zaa→Prop):Prop:=
 zac .gtr false t8 (.int .i64 1) λt161=>
 zad t161 true H (λK'=>K' t7 H) λt163 H=>
 zad t161 true H (λK'=>zac .eql false t163 (.int .u8 48) (K' · H)) λt164 H=>
 zam t161 t164 (.bool false) λt165=>
 zag t165
 (zaE [.snil,t6,(.int .i64 2)] (K · H))
 (zac .add false t6 t8 λt172=>
 zaR 0 0 t0 (some t6) (some t172) λt173=>
 ACalls tP zgn [t173] H λt174 H=>
 zaA t174 0 λt175=>
 zaA t174 1 λt176=>
 aUn .not t176 λt178=>
 zag t178
 (zaE [.snil,t6,(.int .i64 9)] (K · H))
 (zac .add false t6 t8 λt185=>
 zaR 0 0 t0 (some t6) (some t185) λt186=>
 zau [(.int .i64 0),(.str []),(.int .i64 0)] [(0,1),(1,1),(2,1)] [(0,(.int .i64 3)),(1,t186),(2,t6)] λt188=>
 zaw 3 [(.int .i64 0),(.str []),(.int .i64 0)] 1 [(0,t188)] λt189=>
 zax zbt 3 32 t5 t189 H λt190 H=>
 zfa t0 t190 t6 t8 H K Kb5))
section
variable (s:List UInt8) (hl:¬ s.length>16384) (i:Nat) (ap:i<s.length) (H:zaa) (l:List Tk) (bq:l.length≤i) (aI:∀ n,HSc (H++[.perm zbt 3 n])) (K:AV→zaa→Prop) (Kb:List AV→zaa→Prop)
include hl ap bq aI
theorem zHa (cJ:¬ (zb6 s[i] || bUp s[i])=true) (hD:za3 s[i]=true)
  (app:∀ (k:Int) (n:Nat),tok (kwF kwds) s[i] (s.drop (i+1))=.ok (k,n)→∀ t,(s.drop i).take n=t→zio (.str s) (.sl (l.map Tk.cs++[[.int .i64 k,.str t,.int .i64 i]]) (.own H.length)) (.int .i64 i) (.int .i64 n) (H++[.perm zbt 3 (l.length+1)]) (Out H.length K) Kb)
  (bad:∀ e:Int,tok (kwF kwds) s[i] (s.drop (i+1))=.error e→Out H.length K (.tup [.snil,.int .i64 i,.int .i64 e]) (H++[.perm zbt 3 l.length])) :
  zsv (.str s) (.sl (l.map Tk.cs) (.own H.length)) (.int .i64 i) (.int .u8 s[i].toNat) (.int .i64 1) (H++[.perm zbt 3 l.length]) (Out H.length K) Kb:=by
 refine zMN (Inv:=λq t8 H'=>∃ (j:Nat),i+j≤s.length∧0<j∧q=s.length-j∧t8=.int .i64 j∧H'=H++[.perm zbt 3 l.length]∧j+((s.drop (i+j)).takeWhile za3).length=((s.drop (i+1)).takeWhile za3).length+1) (s.length-1) ?_ ?_
 ·intro _;exact⟨1,by omega,by omega,by omega,rfl,rfl,by omega⟩
 ·rintro q t8 H' ⟨j,iM,hj0,rfl,rfl,rfl,hn⟩ hsc aq aO Kb18 gc;have w1:IntKind.i64.wrap ((i:Int)+j)=i+j:=zat (by omega) (by omega);have w2:IntKind.i64.wrap ((j:Int)+1)=j+1:=zat (by omega) (by omega);have e48:((s[i].toNat:Int) == 48)=(s[i] == 48):=zcB s[i] 48;have fin:((s.drop (i+j)).takeWhile za3).length=0→zgL (.str s) (.sl (l.map Tk.cs) (.own H.length)) (.int .i64 i) (.int .u8 s[i].toNat) (.int .i64 j) (H++[.perm zbt 3 l.length]) (Out H.length K) Kb:=by
   intro h0;rw[h0]at hn;have iN:(s.drop i).take j=s[i]::(s.drop (i+1)).takeWhile za3:=by rw[List.drop_eq_getElem_cons ap,show j=((s.drop (i+1)).takeWhile za3).length+1 by omega,zkH]
   have bm:tok (kwF kwds) s[i] (s.drop (i+1))=if (s[i] == 48 && decide (j>1))=true then .error 2 else if zcj ((s.drop i).take j) 0=true then .ok (3,j) else .error 9:=by rw[List.drop_eq_getElem_cons ap];simp only[tok,cJ,hD,if_true,←hn,Nat.add_zero];rfl
   have bV:∀ (K:AV→zaa→Prop) (H:zaa),(∀ n,K (.tup [.int .i64 n,.bool (zcj ((s.drop i).take j) 0)]) H)→ACalls tP zgn [.str ((s.drop i).take j)] H K:=by
    intro K H hK;refine zJI _ ?_ (by simp;omega) _ _ hK;intro c hc;rw[iN]at hc;rcases List.mem_cons.1 hc with rfl | hc
    ·exact hD
    ·exact List.all_eq_true.1 (List.all_takeWhile) c hc
   have rest:¬ (s[i] == 48 && decide (j>1))=true→zlH (.str s) (.sl (l.map Tk.cs) (.own H.length)) (.int .i64 i) (.int .i64 j) (H++[.perm zbt 3 l.length]) (Out H.length K) Kb:=by
    intro aD;rw[if_neg aD]at bm;simp[zlH,w1];refine⟨by omega,by omega,?_⟩;rw[show ((i:Int)+j).toNat=i+j by omega,zkI];refine bV _ _ λn=>?_;cases hv:zcj ((s.drop i).take j) 0 with
    | false=>rw[hv]at bm;simp[AV.isV];exact bad 9 bm
    | true=>rw[hv]at bm;have:=app 3 j bm _ rfl;simp[zau,zaL,zaw,zaT,plain,AV.pd,zax,zaN,zaK,zfa];refine⟨by omega,by omega,by omega,?_⟩;exact this
   by_cases h1:j>1
   ·have cC:(1:Int)<j:=by omega
    have hd:decide (j>1)=true:=decide_eq_true h1;rw[hd]at rest bm;cases hz:(s[i] == 48) with
    | true=>rw[hz]at bm;simp[zgL,cC,e48,hz,AV.isV];exact bad 2 bm
    | false=>have:=rest (by rw[hz];decide);simp[zgL,cC,e48,hz];simpa[zlH]using this
   ·have cC:¬ (1:Int)<j:=by omega
    have:=rest (by rw[decide_eq_false h1];simp);simp[zgL,cC];simpa[zlH]using this
  by_cases cY:i+j<s.length
  ·have bP:(i+j:Int)<s.length:=by omega
   rw[List.drop_eq_getElem_cons cY,List.takeWhile_cons]at hn fin;have aC:s[((i:Int)+j).toNat]?.getD 0=s[i+j]:=by rw[show ((i:Int)+j).toNat=i+j by omega];simp[cY]
   simp[zss,w1,w2,bP,aC];refine⟨by omega,?_⟩;refine zpa _ _ _ ?_;cases hb:za3 s[i+j] with
   | true=>rw[hb]at hn;simp at hn;simp[w1,w2];refine gc _ _ ⟨s.length-(j+1),by omega,Back.here (by simp) (aI _) ?_ ⟨_,rfl,j+1,by omega,by omega,rfl,by simp,rfl,by rw[←Nat.add_assoc];omega⟩⟩;simp[zlJ,AV.sc,AV.scV,AV.scA,AV.scB]
   | false=>rw[hb]at fin;have:=fin (by simp);simp[w1,w2];simpa[zgL,w1]using this
  ·have bP:¬ (i+j:Int)<s.length:=by omega
   have:s.drop (i+j)=[]:=List.drop_eq_nil_of_le (by omega);rw[this]at fin;have:=fin rfl;simp[zss,w1,w2,bP];simpa[zgL,w1]using this
end
theorem zI8 (s:List UInt8) (H:zaa) (K:AV→zaa→Prop) (hK:K (ze5 s) H):ACalls tP zpU [.str s] H K:=by
 refine ACalls.out (zMS λhs=>?_);by_cases hl:s.length>16384
 ·have bZ:(16384:Int)<s.length:=by omega
  simp[zsp,bZ,AV.isV];unfold ze5 at hK;rw[if_pos hl]at hK;exact Out.tup0 hs hK ⟨zdS,zaU rfl rfl,zaU rfl rfl,trivial⟩
 have bZ:¬ (16384:Int)<s.length:=by omega
 unfold ze5 at hK;rw[if_neg hl]at hK;simp[zsp,bZ];have aI:∀ n,HSc (H++[.perm zbt 3 n]):=λn=>hs.append rfl;unfold zlK;refine ALoop.own 5 zbt 3 rfl ?_;show zlK (.str s) (.sl [] (.own H.length)) (.int .i64 0) (H++[.perm zbt 3 0]) (Out H.length K);refine zMO (Inv:=λq t5 t6 H'=>∃ (i:Nat) (l:List Tk),i≤s.length∧l.length≤i∧q=s.length-i∧t6=.int .i64 i∧t5=.sl (l.map Tk.cs) (.own H.length)∧H'=H++[.perm zbt 3 l.length]∧cat l (zbB (kwF kwds) (s.drop i) i)=zbB (kwF kwds) s 0) s.length ?_ ?_
 ·intro _;exact⟨0,[],by omega,by simp,by omega,rfl,rfl,rfl,by simp⟩
 ·rintro q t5 t6 H' ⟨i,l,hi,bq,rfl,rfl,rfl,rfl,ho⟩ hsc aq aO Kb aw;by_cases ap:i<s.length
  ·have bK:=List.drop_eq_getElem_cons ap;have e9:((s[i].toNat:Int) == 9)=(s[i] == 9):=zcB s[i] 9;have e10:((s[i].toNat:Int) == 10)=(s[i] == 10):=zcB s[i] 10;have e13:((s[i].toNat:Int) == 13)=(s[i] == 13):=zcB s[i] 13;have e32:((s[i].toNat:Int) == 32)=(s[i] == 32):=zcB s[i] 32;have e35:((s[i].toNat:Int) == 35)=(s[i] == 35):=zcB s[i] 35;cases ck:zdt s[i] with
   | true=>
    rw[bK,zzw _ ck]at ho;have key:ze8 (.str s) (.sl (l.map Tk.cs) (.own H.length)) (.int .i64 (IntKind.i64.wrap (i+1))) (H++[.perm zbt 3 l.length]) (Out H.length K) Kb:=by simp[ze8];rw[zat (by omega) (by omega)];refine aw _ _ ⟨s.length-(i+1),by omega,Back.here (by simp) (aI _) ?_ ⟨_,_,rfl,i+1,l,by omega,by omega,rfl,by simp,rfl,rfl,ho⟩⟩;simp[zfO,AV.sc,AV.scV,AV.scA,AV.scB]
    unfold zdt at ck;cases h9:(s[i] == 9) <;> cases e7:(s[i] == 10) <;> cases lr:(s[i] == 13) <;> cases iO:(s[i] == 32) <;> simp[h9,e7,lr,iO]at ck <;> simpa[zlG,ap,e9,e10,e13,e32,h9,e7,lr,iO]using key
   | false=>
    have jl:=ck;unfold zdt at jl;simp only[Bool.or_eq_false_iff]at jl;obtain⟨⟨⟨h9,e7⟩,lr⟩,iO⟩:=jl;have app:∀ (k:Int) (n:Nat),tok (kwF kwds) s[i] (s.drop (i+1))=.ok (k,n)→(s[i] == 35)=false→∀ t,(s.drop i).take n=t→zio (.str s) (.sl (l.map Tk.cs++[[.int .i64 k,.str t,.int .i64 i]]) (.own H.length)) (.int .i64 i) (.int .i64 n) (H++[.perm zbt 3 (l.length+1)]) (Out H.length K) Kb:=by
     intro k n ht aV t mo;subst mo;rw[bK,zzz _ ck aV ht,zwx,←bK]at ho;have hn:=zrv ht;rw[←bK]at hn;simp at hn;have fp:=zrw ht;simp[zio,ze8];rw[zat (by omega) (by omega)];refine aw _ _ ⟨s.length-(i+n),by omega,Back.here (by simp) (aI _) ?_ ⟨_,_,rfl,i+n,l++[⟨k,(s.drop i).take n,i⟩],by omega,by simp;omega,rfl,by simp,by simp[Tk.cs],by simp,?_⟩⟩
     ·simp[zfO,AV.sc,AV.scV,AV.scA,AV.scB]
     ·rw[List.drop_drop]at ho;exact ho
    have bad:∀ e:Int,tok (kwF kwds) s[i] (s.drop (i+1))=.error e→(s[i] == 35)=false→Out H.length K (.tup [.snil,.int .i64 i,.int .i64 e]) (H++[.perm zbt 3 l.length]):=by intro e ht aV;rw[bK,zzx _ ck aV ht]at ho;rw[←ho]at hK;exact zyh hs hK
    simp[zlG,ap,e9,e10,e13,e32,e35,h9,e7,lr,iO];cases aV:(s[i] == 35) with
    | true=>
     simp;rw[bK,zzy _ ck aV]at ho;obtain⟨c1,c2⟩:=zkA e7 (s.drop (i+1));rw[Nat.add_assoc,←c1,←c2,←bK]at ho;refine zML (Inv:=λq t6 H'=>∃ (j:Nat),i≤j∧j≤s.length∧q=s.length-j∧t6=.int .i64 j∧H'=H++[.perm zbt 3 l.length]∧cat l (zbB (kwF kwds) (zex (s.drop j)) (j+zey (s.drop j)))=zbB (kwF kwds) s 0) (s.length-i) ?_ ?_
     ·intro _;exact⟨i,by omega,by omega,by omega,rfl,rfl,ho⟩
     ·rintro q t6 H' ⟨j,iM,hj,rfl,rfl,rfl,ho⟩ hsc aq aO Kb9 gb;by_cases cY:j<s.length
      ·have eJ:=List.drop_eq_getElem_cons cY;have e10:((s[j].toNat:Int) != 10)=!(s[j] == 10):=by rw[←zcB s[j] 10];rfl
       simp[zsq,cY,e10];cases hz:(s[j] == 10) with
       | true=>
        obtain⟨d1,d2⟩:=zyZ hz (s.drop (j+1));rw[eJ,d1,d2,←eJ,Nat.add_zero]at ho;have hij':i≠j:=by rintro rfl;rw[e7]at hz;cases hz
        simp[ze8];refine aw _ _ ⟨s.length-j,by omega,Back.here (by simp) (aI _) ?_ ⟨_,_,rfl,j,l,by omega,by omega,rfl,by simp,rfl,rfl,ho⟩⟩;simp[zfO,AV.sc,AV.scV,AV.scA,AV.scB]
       | false=>obtain⟨d1,d2⟩:=zkA hz (s.drop (j+1));rw[eJ,d1,d2,←Nat.add_assoc]at ho;simp;rw[zat (by omega) (by omega)];refine gb _ _ ⟨s.length-(j+1),by omega,Back.here (by simp) (aI _) ?_ ⟨_,rfl,j+1,by omega,by omega,rfl,by simp,rfl,ho⟩⟩;simp[zlI,AV.sc,AV.scV,AV.scA,AV.scB]
      ·obtain rfl:j=s.length:=by omega
       simp[zsq,ze8];rw[List.drop_length,skipC_nil.1,skipC_nil.2,Nat.add_zero]at ho;refine aw _ _ ⟨0,by omega,Back.here (by simp) (aI _) ?_ ⟨_,_,rfl,s.length,l,by omega,by omega,by omega,by simp,rfl,rfl,by rw[List.drop_length];exact ho⟩⟩;simp[zfO,AV.sc,AV.scV,AV.scA,AV.scB]
    | false=>
     replace app:=λk n h=>app k n h aV
     replace bad:=λe h=>bad e h aV
     simp;refine zxy _ _ _ ?_;by_cases cJ:(zb6 s[i] || bUp s[i])=true
     ·have hc:zb6 s[i]=true∨(zb6 s[i]=false∧bUp s[i]=true):=by cases hL:zb6 s[i] <;> simp[hL]at cJ ⊢;exact cJ
      rcases hc with hL | ⟨hL,hU⟩;case' inl=>simp[hL]
      case' inr=>simp[hL];refine zkL _ _ _ ?_;simp[hU]
      all_goals exact zJQ s hl i ap H l bq aI K Kb cJ app bad
     ·have hL:zb6 s[i]=false:=by simp at cJ;exact cJ.1
      have hU:bUp s[i]=false:=by simp at cJ;exact cJ.2
      simp[hL];refine zkL _ _ _ ?_;simp[hU];refine zpa _ _ _ ?_;cases hD:za3 s[i] with
      | true=>simp;exact zHa s hl i ap H l bq aI K Kb cJ hD app bad
      | false=>
       simp;refine⟨by omega,?_⟩;have bm:tok (kwF kwds) s[i] (s.drop (i+1))=if sgn (s.drop i)=0 then .error 2 else .ok (5,sgn (s.drop i)):=by simp only[tok,cJ,hD,bK];rfl
       rw[bK];refine zIj _ _ _ _ ?_;rw[←bK];by_cases hz:sgn (s.drop i)=0
       ·simp[hz,AV.isV];exact bad 2 (by rw[bm,if_pos hz])
       ·have ib:((sgn (s.drop i):Int) == 0)=false:=by simpa using hz
        have ht:=bm;rw[if_neg hz]at ht;have hn:=zrv ht;rw[←bK]at hn;simp at hn;have:=app 5 (sgn (s.drop i)) ht _ rfl;simp[ib];rw[zat (by omega) (by omega)];simp[zau,zaL,zaw,zaT,plain,AV.pd,zax,zaN,zaK,zfa];refine⟨by omega,by omega,by omega,?_⟩;rw[show ((i:Int)+(sgn (s.drop i):Int)).toNat=i+sgn (s.drop i) by omega,zkI];exact this
  ·obtain rfl:i=s.length:=by omega
   rw[List.drop_length,zrx]at ho;rw[←ho]at hK;simp[zlG,zau,zaL,zaw,zaT,plain,AV.pd,zax,zaN,zaK,AV.isV];refine⟨by omega,?_⟩;simp[cat,Tk.cs]at hK;exact Out.tup hs hK ⟨slV,zaU rfl rfl,zaU rfl rfl,trivial⟩
end Go.Proofs.YtdmamdnkcefmmaaGreatDoor
namespace Go.Proofs.YtdmamdnkcefmmaaGreatDoor
open Go Go.Abs
set_option maxRecDepth 100000
section
variable (t0 t3 t4 t5 t6 t7 t93 t94 t95:AV) (H:zaa) (K:Kt) (Kb2 Kb5 Kb12 Kb18:Lt)
def zed:Nat→List Bool | 5=>rl false [0,1,2,3,115] | 12=>rl false [0,1,2,5,113] | 18=>rl false [0,1,2,5,85,3,25] | _=>[]
noncomputable def zuz:Code:=Tryz.f48.body.getD .skip
noncomputable def zUo:List ResultVar:=Tryz.f48.results.toList
def znB:List AV:=t0::ux 2 (t3::t4::t5::ux 115 [])
def zDD:List Bool:=zed 5
noncomputable def zuB:Code:=zar [1,1,1,0,1,0,0] zuz
def zDy:AExit→List AV→zaa→Prop:=zas tP zed [1,1,1,0,1,0] zuz (zay tP zUo K)
def znD:Prop:=ALoop tP zuB (zDy K) (znB t0 t3 t4 t5) H
def znz:List AV:=t0::ux 2 (t3::t4::t5::t6::t7::ux 113 [])
def zDC:List Bool:=zed 12
noncomputable def zuA:Code:=zar [1,0,0,1,1,1,1,0,0] zuB
def zDx:AExit→List AV→zaa→Prop:=zas tP zed [1,0,0,1,1,1,1,0] zuB (zbV zDD Kb5 (zDy K))
def zDA:Prop:=ALoop tP zuA (zDx K Kb5) (znz t0 t3 t4 t5 t6 t7) H
def znA:List AV:=t0::ux 2 (t3::t4::t5::t6::t7::ux 85 (t93::t94::t95::ux 25 []))
def zUm:List Bool:=zed 18
noncomputable def zUi:Code:=zar [1,0,0,1,1,1,0,0] zuA
def zUh:AExit→List AV→zaa→Prop:=zas tP zed [1,0,0,1,1,1,0] zuA (zbV zDC Kb12 (zDx K Kb5))
def zDB:Prop:=ALoop tP zUi (zUh K Kb5 Kb12) (znA t0 t3 t4 t5 t6 t7 t93 t94 t95) H
def zDz (t0 t3 t4 t5 t6 t7 t93 t94 t95:AV) (H:zaa) (K:Kt) (Kb5:Lt) (Kb12:Lt) (Kb18:Lt):Prop:=zac .add false t95 (.int .i64 1) λt112=>Kb18 (znA t0 t3 t4 t5 t6 t7 t93 t94 t112) H
def znC:Prop:=zDz t0 t3 t4 t5 t6 t7 t93 t94 t95 H K Kb5 Kb12 Kb18
def zuy:Prop:=zac .lss false t95 t94 λt96=>zag t96 (zaj 3 t93 t95 λt97=>zae true 3 t97 H λt98=>zav [(.int .i64 0),(.int .i64 0),.snil] H λt9 H=>zan 3 t9 t98 H λH=>zae true 3 t9 H λt99=>zaf 1 t6 λt101=>zae false 1 t101 H λt102=>ACalls tP zj6 [t99,t5,t102] H λt103 H=>zag t103 (znC t0 t3 t4 t5 t6 t7 t93 t94 t95 H K Kb5 Kb12 Kb18) (zab H (λK'=>K' t0 H) λt104=>zab H (λK'=>K' t5 H) λt105=>zab H (λK'=>zaR 1 3 t104 none (some t105) (K' · H)) λt106=>zab H (λK'=>zal true 3 t9 H (K' · H)) λt107=>zab H (λK'=>zaf 1 t6 (K' · H)) λt108=>zab H (λK'=>zal false 1 t108 H (K' · H)) λt109=>zaC H (λH K'=>ACalls tP zhO [t106,t107,t109] H K') λt110=>zab H (λK'=>aUn .not t110 (K' · H)) λt111=>zag t111 (K (.bool false) H) (znC t0 t3 t4 t5 t6 t7 t93 t94 t95 H K Kb5 Kb12 Kb18))) (zac .add false t7 (.int .i64 1) λt60=>Kb12 (znz t0 t3 t4 t5 t6 t60) H)
def zux:Prop:=zaf 2 t6 λt55=>zae false 1 t55 H λt56=>zah 1 t56 λt57=>zac .lss false t7 t57 λt58=>zag t58 (zaf 2 t6 λt61=>zae false 1 t61 H λt62=>zaj 2 t62 t7 λt64=>zaf 0 t64 λt65=>zae false 1 t65 H λt66=>ACalls tP zj5 [t66] H λt67 H=>aUn .not t67 λt68=>zad t68 false H (λK'=>zaf 2 t6 (K' · H)) λt70 H=>zad t68 false H (λK'=>zae false 1 t70 H (K' · H)) λt71 H=>zad t68 false H (λK'=>K' t7 H) λt72 H=>zad t68 false H (λK'=>zaj 2 t71 t72 (K' · H)) λt73 H=>zad t68 false H (λK'=>zaf 1 t73 (K' · H)) λt74 H=>zad t68 false H (λK'=>zae false 1 t74 H (K' · H)) λt75 H=>zad t68 false H (λK'=>zah 1 t75 (K' · H)) λt76 H=>zad t68 false H (λK'=>zac .gtr false t76 (.int .i64 6) (K' · H)) λt77 H=>zam t68 (.bool true) t77 λt78=>zag t78 (K (.bool false) H) (zaf 2 t6 λt80=>zae false 1 t80 H λt81=>zaj 2 t81 t7 λt83=>zaf 0 t83 λt84=>zae false 1 t84 H λt85=>zaw 1 [(.str [])] 1 [(0,t85)] λt86=>zax zcb 1 16 t4 t86 H λt87 H=>zaf 2 t6 λt88=>zae false 1 t88 H λt89=>zaj 2 t89 t7 λt91=>zaf 1 t91 λt92=>zae false 1 t92 H λt93=>zah 1 t93 λt94=>zDB t0 t3 t87 t5 t6 t7 t93 t94 (.int .i64 0) H K Kb5 Kb12)) (zac .add false t5 (.int .i64 1) λt18=>Kb5 (znB t0 t3 t4 t18) H)
def zf0:Prop:=zah 1 t0 λt15=>zac .lss false t5 t15 λt16=>zag t16 (zaj 3 t0 t5 λt21=>zae true 3 t21 H λt22=>zav [(.str []),(.int .i64 0),.snil] H λt6 H=>zan 3 t6 t22 H λH=>zaf 1 t6 λt23=>zae false 1 t23 H λt24=>zac .lss false t24 (.int .i64 0) λt25=>zad t25 false H (λK'=>zaf 1 t6 (K' · H)) λt27 H=>zad t25 false H (λK'=>zae false 1 t27 H (K' · H)) λt28 H=>zad t25 false H (λK'=>zac .gtr false t28 (.int .i64 6) (K' · H)) λt29 H=>zam t25 (.bool true) t29 λt30=>zad t30 false H (λK'=>zaf 2 t6 (K' · H)) λt32 H=>zad t30 false H (λK'=>zae false 1 t32 H (K' · H)) λt33 H=>zad t30 false H (λK'=>zah 1 t33 (K' · H)) λt34 H=>zad t30 false H (λK'=>zac .lss false t34 (.int .i64 1) (K' · H)) λt35 H=>zam t30 (.bool true) t35 λt36=>zad t36 false H (λK'=>zaf 2 t6 (K' · H)) λt38 H=>zad t36 false H (λK'=>zae false 1 t38 H (K' · H)) λt39 H=>zad t36 false H (λK'=>zah 1 t39 (K' · H)) λt40 H=>zad t36 false H (λK'=>zac .gtr false t40 (.int .i64 8) (K' · H)) λt41 H=>zam t36 (.bool true) t41 λt42=>zad t42 false H (λK'=>zaf 0 t6 (K' · H)) λt44 H=>zad t42 false H (λK'=>zae false 1 t44 H (K' · H)) λt45 H=>zad t42 false H (λK'=>ACalls tP zj5 [t45] H K') λt46 H=>zad t42 false H (λK'=>aUn .not t46 (K' · H)) λt47 H=>zam t42 (.bool true) t47 λt48=>zag t48 (K (.bool false) H) (zaf 0 t6 λt50=>zae false 1 t50 H λt51=>zaw 1 [(.str [])] 1 [(0,t51)] λt52=>zax zcb 1 16 t3 t52 H λt53 H=>zDA t0 t53 t4 t5 t6 (.int .i64 0) H K Kb5)) (ACalls tP zhU [t3] H λt114 H=>aUn .not t114 λt115=>zad t115 true H (λK'=>K' t4 H) λt117 H=>zad t115 true H (λK'=>ACalls tP zhU [t117] H K') λt118 H=>zad t115 true H (λK'=>aUn .not t118 (K' · H)) λt119 H=>zam t115 t119 (.bool false) λt120=>K t120 H)
def zuw:Prop:=zah 1 t0 λt11=>zac .gtr false t11 (.int .i64 12) λt12=>zag t12 (K (.bool false) H) (znD t0 .snil .snil (.int .i64 0) H K)
def zf4:Nat→List Bool | 2=>rl false [0,1,2,1,21] | 5=>rl false [0,1,2,2,20] | _=>[]
noncomputable def zvl:Code:=Tryz.f94.body.getD .skip
noncomputable def zW5:List ResultVar:=Tryz.f94.results.toList
def zok:List AV:=t0::ux 2 (t3::ux 21 [])
def zEI:List Bool:=zf4 2
noncomputable def zvm:Code:=zar [1,0,1,0,0] zvl
def zEF:AExit→List AV→zaa→Prop:=zas tP zf4 [1,0,1,0] zvl (zay tP zW5 K)
def zEG:Prop:=ALoop tP zvm (zEF K) (zok t0 t3) H
def zol:List AV:=t0::ux 2 (t3::t4::ux 20 [])
def zW3:List Bool:=zf4 5
noncomputable def zW0:Code:=zar [1,0,0,1,0,0] zvm
def zWZ:AExit→List AV→zaa→Prop:=zas tP zf4 [1,0,0,1,0] zvm (zbV zEI Kb2 (zEF K))
def zEH:Prop:=ALoop tP zW0 (zWZ K Kb2) (zol t0 t3 t4) H
def zvk:Prop:=zac .lss false t4 t3 λt13=>zag t13 (zab H (λK'=>K' t0 H) λt16=>zab H (λK'=>K' t3 H) λt17=>zab H (λK'=>zaj 1 t16 t17 (K' · H)) λt18=>zab H (λK'=>zal false 1 t18 H (K' · H)) λt19=>zab H (λK'=>K' t0 H) λt20=>zab H (λK'=>K' t4 H) λt21=>zab H (λK'=>zaj 1 t20 t21 (K' · H)) λt22=>zab H (λK'=>zal false 1 t22 H (K' · H)) λt23=>zab H (λK'=>zac .eql false t19 t23 (K' · H)) λt24=>zag t24 (K (.bool true) H) (zac .add false t4 (.int .i64 1) λt15=>Kb5 (zol t0 t3 t15) H)) (zac .add false t3 (.int .i64 1) λt10=>Kb2 (zok t0 t10) H)
def zvj:Prop:=zah 1 t0 λt7=>zac .lss false t3 t7 λt8=>zag t8 (zEH t0 t3 (.int .i64 0) H K Kb2) (K (.bool false) H)
def zEE:Prop:=zEG t0 (.int .i64 0) H K
variable {t0 t3 t4 t5 t6 t7 t93 t94 t95} {H} {K} {Kb2 Kb5 Kb12 Kb18}
theorem zUk (Inv:Nat→AV→zaa→Prop) (n:Nat) (h0:HSc H→Inv n t95 H)
  (ac:Rd1 (λt95=>znA t0 t3 t4 t5 t6 t7 t93 t94 t95) (λt95=>λH Kb18=>zuy t0 t3 t4 t5 t6 t7 t93 t94 t95 H K Kb5 Kb12 Kb18) H Inv):zDB t0 t3 t4 t5 t6 t7 t93 t94 t95 H K Kb5 Kb12:=
 lp1 (M:=zed) zUm t95 (by kernel_rfl) Inv n h0 ac
theorem zUj (Inv:Nat→AV→AV→zaa→Prop) (n:Nat) (h0:HSc H→Inv n t4 t7 H)
  (ac:Rd2 (λt4=>λt7=>znz t0 t3 t4 t5 t6 t7) (λt4=>λt7=>λH Kb12=>zux t0 t3 t4 t5 t6 t7 H K Kb5 Kb12) H Inv):zDA t0 t3 t4 t5 t6 t7 H K Kb5:=
 lp2 (M:=zed) zDC t4 t7 (by kernel_rfl) Inv n h0 ac
theorem zUl (Inv:Nat→AV→AV→AV→zaa→Prop) (n:Nat) (h0:HSc H→Inv n t3 t4 t5 H)
  (ac:Rd3 (λt3=>λt4=>λt5=>znB t0 t3 t4 t5) (λt3=>λt4=>λt5=>λH Kb5=>zf0 t0 t3 t4 t5 H K Kb5) H Inv):znD t0 t3 t4 t5 H K:=
 lp3 (M:=zed) zDD t3 t4 t5 (by kernel_rfl) Inv n h0 ac
theorem zUn (h:HSc H→zuw t0 H K):ACalls tP zjT [t0] H K:=
 acb zed Tryz.func48 zuz (by kernel_rfl) (by kernel_rfl) h
theorem zW2 (Inv:Nat→AV→zaa→Prop) (n:Nat) (h0:HSc H→Inv n t4 H)
  (ac:Rd1 (λt4=>zol t0 t3 t4) (λt4=>λH Kb5=>zvk t0 t3 t4 H K Kb2 Kb5) H Inv):zEH t0 t3 t4 H K Kb2:=
 lp1 (M:=zf4) zW3 t4 (by kernel_rfl) Inv n h0 ac
theorem zW1 (Inv:Nat→AV→zaa→Prop) (n:Nat) (h0:HSc H→Inv n t3 H)
  (ac:Rd1 (λt3=>zok t0 t3) (λt3=>λH Kb2=>zvj t0 t3 H K Kb2) H Inv):zEG t0 t3 H K:=
 lp1 (M:=zf4) zEI t3 (by kernel_rfl) Inv n h0 ac
theorem zW4 (h:HSc H→zEE t0 H K):ACalls tP zhU [t0] H K:=
 acb zf4 Tryz.func94 zvl (by kernel_rfl) (by kernel_rfl) h
end
end Go.Proofs.YtdmamdnkcefmmaaGreatDoor
section


end
namespace Go.Proofs.YtdmamdnkcefmmaaGreatDoor
open Go Go.Abs
theorem zdn {k:AV→Prop} (a b:AV) (vs:List AV):zaA (.tup (a::b::vs)) 1 k=k b:=propext Iff.rfl
theorem zdo {k:AV→Prop} (a b c:AV) (vs:List AV):zaA (.tup (a::b::c::vs)) 2 k=k c:=propext Iff.rfl
def zfG (s:List UInt8):List Tk × Int × Int:=
 if s.length>16384 then ([],0,9) else
 match zbB (kwF kwds) s 0 with
 | .error (p,e)=>([],p,e)
 | .ok l=>(l,0,0)
theorem zy4 (s:List UInt8):ze5 s=.tup [.sl ((zfG s).1.map Tk.cs) .none,.int .i64 (zfG s).2.1,.int .i64 (zfG s).2.2]:=by
 unfold ze5 zfG;split
 ·rfl
 ·split <;> (rename_i h;simp[h])
def zcd (s:List UInt8) (x:List Tk × Int × Int):Bool:=x.2.2 == 0 && match x.1 with
 | [a,_]=>a.kind == 2 && a.text == s
 | _=>false
def zc6 (s:List UInt8):Bool:=zcd s (zfG s)
theorem zCA (s:List UInt8) (H:zaa) (K:AV→zaa→Prop) (hK:K (.bool (zc6 s)) H):ACalls tP zjG [.str s] H K:=by
 refine ACalls.out (zQ4 λhs=>?_);have hO:Out H.length K (.bool (zc6 s)) H:=Out.bool (J:=[]) (by simp) (Nat.le_refl _) hs hK;simp only[zCz];refine zI7 s _ _ ?_;rw[zy4];rw[zc6]at hO;generalize zfG s=x at hO ⊢;obtain⟨l,p,e⟩:=x;clear hK;cases h0:e == 0 with
 | false=>rw[show zcd s (l,p,e)=false by simp[zcd,h0]]at hO;simp[zdn,zdo,h0];exact hO
 | true=>
 match l with
 | []=>rw[show zcd s ([],p,e)=false by simp[zcd]]at hO;simp[zdn,zdo,h0];exact hO
 | [x]=>rw[show zcd s ([x],p,e)=false by simp[zcd]]at hO;simp[zdn,zdo,h0];exact hO
 | [a,x]=>
  rw[show zcd s ([a,x],p,e)=(a.kind == 2 && a.text == s) by simp[zcd,h0]]at hO;cases hk:a.kind == 2 with
  | false=>rw[hk]at hO;simp[zdn,zdo,h0,Tk.cs,hk];exact hO
  | true=>rw[hk]at hO;simp[zdn,zdo,h0,Tk.cs,hk];exact hO
 | a::b::c::r=>
  rw[show zcd s (a::b::c::r,p,e)=false by simp[zcd]]at hO;have:¬ ((r.length:Int)+1+1+1=2):=by omega
  have h2:((r.length:Int)+1+1+1 == 2)=false:=by simpa using this
  simp[zdn,zdo,h0,h2];exact hO
theorem zEB (s:List UInt8) (H:zaa) (K:AV→zaa→Prop) (hK:K (.bool (zc6 s)) H):ACalls tP zj5 [.str s] H K:=by
 refine ACalls.out (zWS λhs=>?_);have hO:Out H.length K (.bool (zc6 s)) H:=Out.bool (J:=[]) (by simp) (Nat.le_refl _) hs hK;simp only[zEA];refine zI8 s _ _ ?_;rw[zy4];rw[zc6]at hO;generalize zfG s=x at hO ⊢;obtain⟨l,p,e⟩:=x;clear hK;cases h0:e == 0 with
 | false=>rw[show zcd s (l,p,e)=false by simp[zcd,h0]]at hO;simp[zdn,zdo,h0];exact hO
 | true=>
 match l with
 | []=>rw[show zcd s ([],p,e)=false by simp[zcd]]at hO;simp[zdn,zdo,h0];exact hO
 | [x]=>rw[show zcd s ([x],p,e)=false by simp[zcd]]at hO;simp[zdn,zdo,h0];exact hO
 | [a,x]=>
  rw[show zcd s ([a,x],p,e)=(a.kind == 2 && a.text == s) by simp[zcd,h0]]at hO;cases hk:a.kind == 2 with
  | false=>rw[hk]at hO;simp[zdn,zdo,h0,Tk.cs,hk];exact hO
  | true=>rw[hk]at hO;simp[zdn,zdo,h0,Tk.cs,hk];exact hO
 | a::b::c::r=>
  rw[show zcd s (a::b::c::r,p,e)=false by simp[zcd]]at hO;have:¬ ((r.length:Int)+1+1+1=2):=by omega
  have h2:((r.length:Int)+1+1+1 == 2)=false:=by simpa using this
  simp[zdn,zdo,h0,h2];exact hO
def zcs (l:List (List UInt8)):Bool:=!decide l.Nodup
def strs (l:List (List UInt8)):List (List AV):=l.map λs=>[.str s]
@[simp] theorem yby (l:List (List UInt8)):(strs l).length=l.length:=by simp[strs]
theorem zJf {l:List (List UInt8)} {i:Nat} (h:i<(strs l).length):(strs l)[i]=[.str (l[i]'(by simpa using h))]:=by simp[strs]
theorem zHR {l:List (List UInt8)} {i j:Nat} (hi:i<l.length) (hj:j<i) (h:l[i]=l[j]):zcs l=true:=by simp only[zcs,Bool.not_eq_true',decide_eq_false_iff_not];intro hn;exact (List.pairwise_iff_getElem.mp hn) j i (by omega) hi hj h.symm
theorem zW6 (l:List (List UInt8)) (hl:l.length≤1000000) (H:zaa) (K:AV→zaa→Prop) (hK:K (.bool (zcs l)) H):ACalls tP zhU [.sl (strs l) .none] H K:=by
 refine ACalls.out (zW4 λhs=>?_);have hO:Out H.length K (.bool (zcs l)) H:=Out.bool (J:=[]) (by simp) (Nat.le_refl _) hs hK;simp[zEE];refine zW1 (Inv:=λq t3 H'=>∃ i:Nat,i≤l.length∧q=l.length-i∧t3=.int .i64 i∧(∀ a b (ha:a<i) (hb:b<a) (h':a<l.length),l[a]≠l[b])∧H=H') l.length ?_ ?_
 ·intro _;exact⟨0,by omega,by omega,rfl,by omega,rfl⟩
 ·rintro q t3 H' ⟨i,hi,rfl,rfl,aD,rfl⟩ hsc aq aO Kb aw;by_cases ap:i<l.length
  ·simp[zvj,ap];refine zW2 (Inv:=λq t4 H'=>∃ j:Nat,j≤i∧q=i-j∧t4=.int .i64 j∧(∀ b (hb:b<j) (kz:b<l.length),l[i]≠l[b])∧H=H') i ?_ ?_
   ·intro _;exact⟨0,by omega,by omega,rfl,by omega,rfl⟩
   ·rintro q t4 H' ⟨j,hj,rfl,rfl,mq,rfl⟩ jh cD ji Kb1 eI;by_cases a6:j<i
    ·simp[zvk,a6,ap,show j<l.length by omega,zJf];cases he:l[i] == l[j] with
     | true=>rw[zHR ap a6 (by simpa using he)]at hO;simpa using hO
     | false=>
      simp;rw[zat (by omega) (by omega)];refine eI _ _ ⟨i-(j+1),by omega,Back.at (J:=[]) (H2:=H) (by simp) (Nat.le_refl _) hs ?_ ⟨_,rfl,j+1,by omega,rfl,by simp,?_,rfl⟩⟩
      ·simp[zol,AV.sc,AV.scV,AV.scA,AV.scB]
      ·intro b hb kz;by_cases hbj:b=j
       ·subst hbj;simpa using he
       ·exact mq b (by omega) kz
    ·obtain rfl:j=i:=by omega
     simp[zvk];rw[zat (by omega) (by omega)];refine aw _ _ ⟨l.length-(j+1),by omega,Back.at (J:=[]) (H2:=H) (by simp) (Nat.le_refl _) hs ?_ ⟨_,rfl,j+1,by omega,rfl,by simp,?_,rfl⟩⟩
     ·simp[zok,AV.sc,AV.scV,AV.scA,AV.scB]
     ·intro a b ha hb h';by_cases haj:a=j
      ·subst haj;exact mq b hb (by omega)
      ·exact aD a b (by omega) hb h'
  ·obtain rfl:i=l.length:=by omega
   have:zcs l=false:=by simp only[zcs,Bool.not_eq_false',decide_eq_true_eq];refine List.pairwise_iff_getElem.mpr λa b ha hb a8 he=>?_;exact aD b a hb a8 hb he.symm
   rw[this]at hO;simp[zvj];exact hO
end Go.Proofs.YtdmamdnkcefmmaaGreatDoor
namespace Go.Proofs.YtdmamdnkcefmmaaGreatDoor
open Go Go.Abs
set_option maxRecDepth 100000
section
variable (t0 t1 t2 t3 t4 t5 t8 t14 t15 t27 t28 t29 t76 t77 t78:AV) (H:zaa) (K:Kt) (Kb5 Kb6 Kb13:Lt)
def zfP:Nat→List Bool | 5=>rl false [0,1,2,2,9,2,89] | 13=>rl false [0,1,2,3,8,2,60,3,26] | _=>[]
noncomputable def zsQ:Code:=Tryz.f159.body.getD .skip
noncomputable def zNW:List ResultVar:=Tryz.f159.results.toList
def zmb:List AV:=t0::ux 2 (t3::t4::ux 9 (t14::t15::ux 89 []))
def zBj:List Bool:=zfP 5
noncomputable def zsR:Code:=zar [1,1,1,0,1,0,0] zsQ
def zBg:AExit→List AV→zaa→Prop:=zas tP zfP [1,1,1,0,1,0] zsQ (zay tP zNW K)
def zBi:Prop:=ALoop tP zsR (zBg K) (zmb t0 t3 t4 t14 t15) H
def zma:List AV:=t0::ux 2 (t3::t4::t5::ux 8 (t14::t15::ux 60 (t76::t77::t78::ux 26 [])))
def zNU:List Bool:=zfP 13
noncomputable def zNR:Code:=zar [1,1,0,0,1,1,1,1,1,0,0] zsR
def zNQ:AExit→List AV→zaa→Prop:=zas tP zfP [1,1,0,0,1,1,1,1,1,0] zsR (zbV zBj Kb5 (zBg K))
def zBh:Prop:=ALoop tP zNR (zNQ K Kb5) (zma t0 t3 t4 t5 t14 t15 t76 t77 t78) H
def zsO:Prop:=zac .lss false t78 t77 λt79=>zag t79 (zaj 2 t76 t78 λt81=>zae true 2 t81 H λt82=>zav [(.str []),.snil] H λt7 H=>zan 2 t7 t82 H λH=>zaf 0 t7 λt83=>zae false 1 t83 H λt84=>ACalls tP zjG [t84] H λt85 H=>aUn .not t85 λt86=>zad t86 false H (λK'=>K' t4 H) λt88 H=>zad t86 false H (λK'=>zaf 0 t7 (K' · H)) λt89 H=>zad t86 false H (λK'=>zae false 1 t89 H (K' · H)) λt90 H=>zad t86 false H (λK'=>zdK (.bool false) false t88 t90 H (K' · H)) λt91 H=>zam t86 (.bool true) t91 λt92=>zad t92 false H (λK'=>K' t0 H) λt94 H=>zad t92 false H (λK'=>K' t5 H) λt95 H=>zad t92 false H (λK'=>K' t78 H) λt96 H=>zad t92 false H (λK'=>ACalls tP zqa [t94,t95,t96] H K') λt97 H=>zad t92 false H (λK'=>aUn .not t97 (K' · H)) λt98 H=>zam t92 (.bool true) t98 λt99=>zag t99 (K (.bool false) H) (zaf 0 t7 λt101=>zae false 1 t101 H λt102=>zcU t4 t102 (.bool true) H λH=>zac .add false t78 (.int .i64 1) λt103=>Kb13 (zma t0 t3 t4 t5 t14 t15 t76 t77 t103) H)) (zac .add false t15 (.int .i64 1) λt104=>Kb5 (zmb t0 t3 t4 t14 t104) H)
def zsP:Prop:=zac .lss false t15 t14 λt16=>zag t16 (zaj 3 t0 t15 λt20=>zaf 0 t20 λt21=>zae false 1 t21 H λt22=>ACalls tP zjG [t22] H λt23 H=>aUn .not t23 λt24=>zad t24 false H (λK'=>K' t3 H) λt26 H=>zad t24 false H (λK'=>K' t0 H) λt27 H=>zad t24 false H (λK'=>K' t15 H) λt28 H=>zad t24 false H (λK'=>zaj 3 t27 t28 (K' · H)) λt29 H=>zad t24 false H (λK'=>zaf 0 t29 (K' · H)) λt30 H=>zad t24 false H (λK'=>zae false 1 t30 H (K' · H)) λt31 H=>zad t24 false H (λK'=>zdK (.bool false) false t26 t31 H (K' · H)) λt32 H=>zam t24 (.bool true) t32 λt33=>zad t33 false H (λK'=>K' t0 H) λt35 H=>zad t33 false H (λK'=>K' t15 H) λt36 H=>zad t33 false H (λK'=>zaj 3 t35 t36 (K' · H)) λt37 H=>zad t33 false H (λK'=>zaf 1 t37 (K' · H)) λt38 H=>zad t33 false H (λK'=>zae false 1 t38 H (K' · H)) λt39 H=>zad t33 false H (λK'=>zac .lss false t39 (.int .i64 0) (K' · H)) λt40 H=>zam t33 (.bool true) t40 λt41=>zad t41 false H (λK'=>K' t0 H) λt43 H=>zad t41 false H (λK'=>K' t15 H) λt44 H=>zad t41 false H (λK'=>zaj 3 t43 t44 (K' · H)) λt45 H=>zad t41 false H (λK'=>zaf 1 t45 (K' · H)) λt46 H=>zad t41 false H (λK'=>zae false 1 t46 H (K' · H)) λt47 H=>zad t41 false H (λK'=>zac .gtr false t47 (.int .i64 6) (K' · H)) λt48 H=>zam t41 (.bool true) t48 λt49=>zag t49 (K (.bool false) H) (zaj 3 t0 t15 λt53=>zaf 0 t53 λt54=>zae false 1 t54 H λt55=>zcU t3 t55 (.bool true) H λH=>zaj 3 t0 t15 λt58=>zaf 2 t58 λt59=>zae false 1 t59 H λt60=>zah 1 t60 λt61=>zac .lss false t61 (.int .i64 1) λt62=>zad t62 false H (λK'=>K' t0 H) λt64 H=>zad t62 false H (λK'=>K' t15 H) λt65 H=>zad t62 false H (λK'=>zaj 3 t64 t65 (K' · H)) λt66 H=>zad t62 false H (λK'=>zaf 2 t66 (K' · H)) λt67 H=>zad t62 false H (λK'=>zae false 1 t67 H (K' · H)) λt68 H=>zad t62 false H (λK'=>zah 1 t68 (K' · H)) λt69 H=>zad t62 false H (λK'=>zac .gtr false t69 (.int .i64 8) (K' · H)) λt70 H=>zam t62 (.bool true) t70 λt71=>zag t71 (K (.bool false) H) (zaj 3 t0 t15 λt74=>zaf 2 t74 λt75=>zae false 1 t75 H λt76=>zah 1 t76 λt77=>zBh t0 t3 t4 t15 t14 t15 t76 t77 (.int .i64 0) H K Kb5))) (K (.bool true) H)
def zsN:Prop:=zah 1 t0 λt9=>zac .gtr false t9 (.int .i64 12) λt10=>zag t10 (K (.bool false) H) (zdY H λt11 H=>zdY H λt12 H=>zah 1 t0 λt14=>zBi t0 t11 t12 t14 (.int .i64 0) H K)
def zmT:Nat→List Bool | 6=>rl false [0,2,6,1,18,3,29] | _=>[]
noncomputable def ztI:Code:=Tryz.f201.body.getD .skip
noncomputable def zRa:List ResultVar:=Tryz.f201.results.toList
def zix:List AV:=t0::t1::ux 6 (t8::ux 18 (t27::t28::t29::ux 29 []))
def zQ8:List Bool:=zmT 6
noncomputable def zQ6:Code:=zar [1,1,1,1,0,1,0,0] ztI
def zQ5:AExit→List AV→zaa→Prop:=zas tP zmT [1,1,1,1,0,1,0] ztI (zay tP zRa K)
def zCC:Prop:=ALoop tP zQ6 (zQ5 K) (zix t0 t1 t8 t27 t28 t29) H
def ztH:Prop:=zac .lss false t29 t28 λt30=>zag t30 (zaj 3 t27 t29 λt32=>zae true 3 t32 H λt33=>zav [(.int .i64 0),(.int .i64 0),.snil] H λt10 H=>zan 3 t10 t33 H λH=>zab H (λK'=>K' t0 H) λt34=>zab H (λK'=>K' t1 H) λt35=>zab H (λK'=>zac .add false t35 (.int .i64 1) (K' · H)) λt36=>zab H (λK'=>zaR 1 3 t34 none (some t36) (K' · H)) λt37=>zab H (λK'=>zal true 3 t10 H (K' · H)) λt38=>zab H (λK'=>K' t0 H) λt39=>zab H (λK'=>K' t1 H) λt40=>zab H (λK'=>zaj 3 t39 t40 (K' · H)) λt41=>zab H (λK'=>zaf 1 t41 (K' · H)) λt42=>zab H (λK'=>zal false 1 t42 H (K' · H)) λt43=>zaC H (λH K'=>ACalls tP zhE [t37,t38,t43] H K') λt44=>zab H (λK'=>aUn .not t44 (K' · H)) λt45=>zab H (λK'=>K' t45 H) λt46=>zad t46 false H (λK'=>zab H (λK''=>K'' t8 H) (K' · H)) λt47 H=>zad t46 false H (λK'=>zab H (λK''=>K'' t29 H) (K' · H)) λt48 H=>zad t46 false H (λK'=>zab H (λK''=>zaj 1 t47 t48 (K'' · H)) (K' · H)) λt49 H=>zad t46 false H (λK'=>zab H (λK''=>zal false 1 t49 H (K'' · H)) (K' · H)) λt50 H=>zad t46 false H (λK'=>zab H (λK''=>aUn .not t50 (K'' · H)) (K' · H)) λt51 H=>zad t46 false H (λK'=>zab H (λK''=>K'' t51 H) (K' · H)) λt52 H=>zad t52 true H (λK'=>zab H (λK''=>zal true 3 t10 H (K'' · H)) (K' · H)) λt53 H=>zad t52 true H (λK'=>zab H (λK''=>K'' t1 H) (K' · H)) λt54 H=>zad t52 true H (λK'=>zaC H (λH K''=>ACalls tP zjL [t53,t54] H K'') (K' · H)) λt55 H=>zad t46 false H (λK'=>zab H (λK''=>zam t52 t55 (.bool false) (K'' · H)) (K' · H)) λt56 H=>zab H (λK'=>zam t46 (.bool true) t56 (K' · H)) λt57=>zag t57 (K (.bool false) H) (zac .add false t29 (.int .i64 1) λt58=>Kb6 (zix t0 t1 t8 t27 t28 t58) H)) (K (.bool true) H)
def zCB:Prop:=zaj 3 t0 t1 λt13=>zaf 2 t13 λt14=>zae false 1 t14 H λt15=>zaj 2 t15 t2 λt17=>zaf 1 t17 λt18=>zae false 1 t18 H λt19=>zah 1 t19 λt21=>zac .gtr false t21 (.int .i64 6) λt22=>zag t22 (K (.bool false) H) (ACalls tP zfw [t0,t1,t2] H λt26 H=>zah 1 t19 λt28=>zCC t0 t1 t26 t19 t28 (.int .i64 0) H K)
variable {t0 t1 t2 t3 t4 t5 t8 t14 t15 t27 t28 t29 t76 t77 t78} {H} {K} {Kb5 Kb6 Kb13}
theorem zNS (Inv:Nat→AV→zaa→Prop) (n:Nat) (h0:HSc H→Inv n t78 H)
  (ac:Rd1 (λt78=>zma t0 t3 t4 t5 t14 t15 t76 t77 t78) (λt78=>λH Kb13=>zsO t0 t3 t4 t5 t14 t15 t76 t77 t78 H K Kb5 Kb13) H Inv):zBh t0 t3 t4 t5 t14 t15 t76 t77 t78 H K Kb5:=
 lp1 (M:=zfP) zNU t78 (by kernel_rfl) Inv n h0 ac
theorem zNT (Inv:Nat→AV→zaa→Prop) (n:Nat) (h0:HSc H→Inv n t15 H)
  (ac:Rd1 (λt15=>zmb t0 t3 t4 t14 t15) (λt15=>λH Kb5=>zsP t0 t3 t4 t14 t15 H K Kb5) H Inv):zBi t0 t3 t4 t14 t15 H K:=
 lp1 (M:=zfP) zBj t15 (by kernel_rfl) Inv n h0 ac
theorem zNV (h:HSc H→zsN t0 H K):ACalls tP zpX [t0] H K:=
 acb zfP Tryz.func159 zsQ (by kernel_rfl) (by kernel_rfl) h
theorem zQ7 (Inv:Nat→AV→zaa→Prop) (n:Nat) (h0:HSc H→Inv n t29 H)
  (ac:Rd1 (λt29=>zix t0 t1 t8 t27 t28 t29) (λt29=>λH Kb6=>ztH t0 t1 t8 t27 t28 t29 H K Kb6) H Inv):zCC t0 t1 t8 t27 t28 t29 H K:=
 lp1 (M:=zmT) zQ8 t29 (by kernel_rfl) Inv n h0 ac
theorem zQ9 (h:HSc H→zCB t0 t1 t2 H K):ACalls tP zqa [t0,t1,t2] H K:=
 acb zmT Tryz.func201 ztI (by kernel_rfl) (by kernel_rfl) h
end
end Go.Proofs.YtdmamdnkcefmmaaGreatDoor
section


end
namespace Go.Proofs.YtdmamdnkcefmmaaGreatDoor
open Go Go.Abs
def zdZ (aa:List Dat) (d:Nat) (vars:Int) (t:VT):Bool:=zaZ (aa.take (d+1)) vars t && (zbS d vars t || !zcA d t)
theorem zRb (aa:List Dat) (d:Nat) (c:Nat) (hd:d<aa.length) (hc:c<(aa[d]).cons.length) (hl:aa.length≤1000000) (bQ:(aa[d]).cons.length≤1000000) (eH:((aa[d]).cons[c]).args.length≤1000000)
  (hb:∀ x∈((aa[d]).cons[c]).args,x.nodes≤1000000) (H:zaa) (K:AV→zaa→Prop)
  (hK:K (.bool (decide (((aa[d]).cons[c]).args.length≤6) && ((aa[d]).cons[c]).args.all (zdZ aa d (aa[d]).vars))) H) :
  ACalls tP zqa [.sl (aa.map Dat.cs) .none,.int .i64 d,.int .i64 c] H K:=by
 refine ACalls.out (zQ9 λhs=>?_);have e1:(aa.map Dat.cs)[d]?=some (aa[d]).cs:=by simp[hd]
 have e2:((aa[d]).cons.map Con.cs)[c]?=some ((aa[d]).cons[c]).cs:=by simp[hc]
 have cw:=ztg aa d c hd hc hl bQ eH hb;generalize hD:aa[d]=D at *;generalize hA:D.cons[c]=C at *;have hO:∀ J,Out H.length K (.bool (decide (C.args.length≤6) && C.args.all (zdZ aa d D.vars))) (H++J):=λJ=>Out.bool rfl (Nat.le_refl _) hs hK;simp[zCB,e1,e2,Dat.cs,Con.cs,hd,hD,hc,hA];by_cases h6:C.args.length≤6
 ·have eK:¬ (6:Int)<C.args.length:=by omega
  have jm:¬ 6<C.args.length:=by omega
  simp[eK,jm];refine cw _ _ ?_;simp[h6]at hO;refine zQ7 (Inv:=λq t29 H'=>∃ i:Nat,i≤C.args.length∧q=C.args.length-i∧t29=.int .i64 i∧(C.args.drop i).all (zdZ aa d D.vars)=C.args.all (zdZ aa d D.vars)∧H=H') C.args.length ?_ ?_
  ·intro _;exact⟨0,by omega,by omega,rfl,by simp,rfl⟩
  ·rintro q t29 H' ⟨i,hi,rfl,rfl,ho,rfl⟩ hsc aq aO Kb aw;by_cases ap:i<C.args.length
   ·rw[List.drop_eq_getElem_cons ap,List.all_cons]at ho;have ga:=hb _ (List.getElem_mem ap);obtain⟨x1,x2,x3,aB,bH,bh,bC⟩:=za2 C.args[i];simp[ztH,ap,aB,e1,hd,hD,Dat.cs];refine⟨⟨bH,bh,bC⟩,?_⟩;rw[zat (by omega) (by omega),show ((d:Int)+1).toNat=d+1 by omega,←List.map_take];refine⟨by omega,by omega,?_⟩;rw[←aB];refine zaB (.bool (zaZ (aa.take (d+1)) D.vars C.args[i])) (λJ=>zAz (aa.take (d+1)) D.vars _ (by omega) _ _ ⟨rfl,rfl⟩) ?_;have hao:zdZ aa d D.vars C.args[i]=(zaZ (aa.take (d+1)) D.vars C.args[i] && (zbS d D.vars C.args[i] || !zcA d C.args[i])):=rfl;rw[hao]at ho;cases hv:zaZ (aa.take (d+1)) D.vars C.args[i] with
    | false=>rw[hv]at ho;simp only[Bool.false_and]at ho;rw[←ho]at hO;simp;exact hO _
    | true=>
    rw[hv]at ho;cases lu:zbS d D.vars C.args[i] with
    | true=>rw[lu]at ho;simp[ap,lu];rw[zat (by omega) (by omega)];refine aw _ _ ⟨C.args.length-(i+1),by omega,Back.same (by simp) hs ?_ ⟨_,rfl,i+1,by omega,rfl,by simp,by simpa using ho,rfl⟩⟩;simp[zix,AV.sc,AV.scV,AV.scA,AV.scB]
    | false=>
     rw[lu]at ho;simp[ap,lu];refine zaB (.bool (zcA d C.args[i])) (λJ=>zSh d _ _ (Nat.le_refl _) (by omega) _ _ ⟨rfl,rfl⟩) ?_;cases hm:zcA d C.args[i] with
     | true=>rw[hm]at ho;simp only[Bool.not_true,Bool.or_false,Bool.and_false,Bool.false_and]at ho;rw[←ho]at hO;simp;exact hO _
     | false=>rw[hm]at ho;simp;rw[zat (by omega) (by omega)];refine aw _ _ ⟨C.args.length-(i+1),by omega,Back.same (by simp) hs ?_ ⟨_,rfl,i+1,by omega,rfl,by simp,by simpa using ho,rfl⟩⟩;simp[zix,AV.sc,AV.scV,AV.scA,AV.scB]
   ·obtain rfl:i=C.args.length:=by omega
    rw[List.drop_length,List.all_nil]at ho;rw[←ho]at hO;simp[ztH];simpa using hO []
 ·have eK:(6:Int)<C.args.length:=by omega
  have jm:6<C.args.length:=by omega
  simp[eK,jm];simp[h6]at hO;simpa using hO []
def zb7 (l:List (List UInt8)):List (List UInt8 × AV):=l.map λs=>(s,.bool true)
theorem zfF (s:List UInt8):∀ l:List (List UInt8),(zbM (zb7 l) s).getD (.bool false)=.bool (decide (s∈l))
 | []=>by simp[zb7,zbM]
 | a::l=>by
  have:=zfF s l;cases h:a == s with
  | true=>
   have h':a=s:=by simpa using h
   simp[zb7,zbM,h,h']
  | false=>
   have h':a≠s:=by simpa using h
   have h'':s≠a:=λe=>h' e.symm;simp only[zb7,List.map_cons,zbM,h]at this ⊢;rw[this];simp[h'']
theorem zq6 (s:List UInt8):∀ l:List (List UInt8),s ∉ l→zcF (zb7 l) s (.bool true)=zb7 (l++[s])
 | [],_=>rfl
 | a::l,h=>by
  have h1:(a == s)=false:=by simp at h;simpa using λe=>h.1 e.symm
  have:=zq6 s l (by simp at h;exact h.2);simp only[zb7,List.map_cons,zcF,h1,List.cons_append]at this ⊢;rw[this]
theorem zId (m:Nat) (l:List (List UInt8)):(AB.map (zb7 l)).sc m=true:=by simp[AB.sc,zb7,AV.scV]
def zbw (aa:List Dat):List (List UInt8):=aa.map Dat.name
def zaS (aa:List Dat):List (List UInt8):=aa.flatMap λD=>D.cons.map Con.name
def zdu (aa:List Dat) (d:Nat) (vars:Int) (c:Con):Bool:=zc6 c.name && (decide (c.args.length≤6) && c.args.all (zdZ aa d vars))
def zcL (aa:List Dat) (d:Nat) (D:Dat):Bool:=zc6 D.name && decide (0≤D.vars) && decide (D.vars≤6) && decide (1≤D.cons.length) && decide (D.cons.length≤8) && D.cons.all (zdu aa d D.vars)
def zcX (aa:List Dat):List Dat→Nat→Bool
 | [],_=>true
 | D::l,d=>zcL aa d D && zcX aa l (d+1)
def zbn (aa:List Dat):Bool:=decide (aa.length≤12) && zcX aa aa 0 && !zcs (zbw aa) && !zcs (zaS aa)
theorem zyB {A R:List (List UInt8)} {s:List UInt8} (h:s∈A):zcs (A++s::R)=true:=by simp only[zcs,Bool.not_eq_true',decide_eq_false_iff_not,List.nodup_append];rintro⟨_,_,h3⟩;exact h3 s h s (by simp) rfl
theorem zqS {l:List (List UInt8)} (h:l.Nodup):zcs l=false:=by simp[zcs,h]
theorem zx6 {A:List (List UInt8)} {s:List UInt8} (h:A.Nodup) (hs:s ∉ A):(A++[s]).Nodup:=by rw[List.nodup_append];refine⟨h,by simp,?_⟩;intro a ha b hb;simp at hb;subst hb;exact λe=>hs (e ▸ ha)
def zgX (aa:List Dat):Prop:=∀ D∈aa,D.cons.length≤1000000∧∀ c∈D.cons,c.args.length≤1000000∧∀ x∈c.args,x.nodes≤1000000
theorem zNX (aa:List Dat) (hB:zgX aa) (hl:aa.length≤1000000) (H:zaa) (K:AV→zaa→Prop) (hK:K (.bool (zbn aa)) H):ACalls tP zpX [.sl (aa.map Dat.cs) .none] H K:=by
 refine ACalls.out (zNV λhs=>?_);have hO:∀ J,Out H.length K (.bool (zbn aa)) (H++J):=λJ=>Out.bool rfl (Nat.le_refl _) hs hK;by_cases mr:aa.length≤12
 ·have eL:¬ (12:Int)<aa.length:=by omega
  have gd:¬ 12<aa.length:=by omega
  have iP:zcX aa aa 0=false→∀ J,Out H.length K (.bool false) (H++J):=λh J=>by have:=hO J;rwa [show zbn aa=false by simp[zbn,h]]at this
  have hD1:zcs (zbw aa)=true→∀ J,Out H.length K (.bool false) (H++J):=λh J=>by have:=hO J;rwa [show zbn aa=false by simp[zbn,h]]at this
  have hD2:zcs (zaS aa)=true→∀ J,Out H.length K (.bool false) (H++J):=λh J=>by have:=hO J;rwa [show zbn aa=false by simp[zbn,h]]at this
  simp[zsN,eL,gd];refine zNT (Inv:=λq t15 H'=>∃ i:Nat,i≤aa.length∧q=aa.length-i∧t15=.int .i64 i∧zcX aa (aa.drop i) i=zcX aa aa 0∧(zbw (aa.take i)).Nodup∧(zaS (aa.take i)).Nodup∧H'=H++[.map (zb7 (zbw (aa.take i))),.map (zb7 (zaS (aa.take i)))]) aa.length ?_ ?_
  ·intro _;exact⟨0,by omega,by omega,rfl,by simp,by simp[zbw],by simp[zaS],by simp[zbw,zaS,zb7]⟩
  ·rintro q t15 H' ⟨i,hi,rfl,rfl,ho,mt,cx,rfl⟩ hsc aq aO Kb aw;by_cases ap:i<aa.length
   ·have e1:(aa.map Dat.cs)[i]?=some (aa[i]).cs:=by simp[ap]
    obtain⟨lv,kB⟩:=hB _ (List.getElem_mem ap);have bo:=λc hc=>zRb aa i c ap hc hl lv (kB _ (List.getElem_mem hc)).1 (kB _ (List.getElem_mem hc)).2;rw[List.drop_eq_getElem_cons ap,zcX]at ho;have bm:aa.take (i+1)=aa.take i++[aa[i]]:=by rw[List.take_append_getElem ap]
    have bc:aa=aa.take i++aa[i]::aa.drop (i+1):=by rw[List.getElem_cons_drop,List.take_append_drop]
    generalize hD:aa[i]=D at *;have bD:zcL aa i D=false→zcX aa aa 0=false:=λh=>by rw[←ho,h,Bool.false_and]
    have da:∀ J,zcL aa i D=false→Out H.length K (.bool false) (H++[.map (zb7 (zbw (aa.take i))),.map (zb7 (zaS (aa.take i)))]++J):=λJ h=>by rw[List.append_assoc];exact iP (bD h) _
    simp[zsP,ap,e1,hD,Dat.cs];refine zCA _ _ _ ?_;cases hu:zc6 D.name with
    | false=>simp;exact iP (bD (by simp[zcL,hu])) _
    | true=>
    by_cases bp:D.name∈zbw (aa.take i)
    ·simp[ap,e1,hD,Dat.cs,zfF,bp];refine hD1 ?_ _;rw[bc];simp only[zbw,List.map_append,List.map_cons];exact zyB bp
    by_cases dE:D.vars<0
    ·simp[ap,e1,hD,Dat.cs,zfF,bp,dE];exact iP (bD (by simp[zcL,show ¬ 0≤D.vars by omega])) _
    by_cases jn:6<D.vars
    ·simp[ap,e1,hD,Dat.cs,zfF,bp,dE,jn];exact iP (bD (by simp[zcL,show ¬ D.vars≤6 by omega])) _
    simp[ap,e1,hD,Dat.cs,zfF,bp,dE,jn,zq6 _ _ bp];by_cases bL:D.cons.length<1
    ·have bT:(D.cons.length:Int)<1:=by omega
     simp[bT];exact iP (bD (by simp[zcL,show ¬ 1≤D.cons.length by omega])) _
    have bT:¬ (D.cons.length:Int)<1:=by omega
    by_cases mu:8<D.cons.length
    ·have eM:(8:Int)<D.cons.length:=by omega
     simp[ap,e1,hD,Dat.cs,bT,eM,mu];exact iP (bD (by simp[zcL,show ¬ D.cons.length≤8 by omega])) _
    have eM:¬ (8:Int)<D.cons.length:=by omega
    have hdat:zcL aa i D=D.cons.all (zdu aa i D.vars):=by simp[zcL,hu,show 0≤D.vars by omega,show D.vars≤6 by omega,show 1≤D.cons.length by omega,show D.cons.length≤8 by omega]
    simp[ap,e1,hD,Dat.cs,bT,eM,mu];have hdn':(zbw (aa.take (i+1))).Nodup:=by rw[bm];simp only[zbw,List.map_append,List.map_cons,List.map_nil];exact zx6 mt bp
    have hde:zbw (aa.take i)++[D.name]=zbw (aa.take (i+1)):=by rw[bm];simp[zbw]
    rw[hde];refine zNS (Inv:=λq t78 H'=>∃ j:Nat,j≤D.cons.length∧q=D.cons.length-j∧t78=.int .i64 j∧(D.cons.drop j).all (zdu aa i D.vars)=D.cons.all (zdu aa i D.vars)∧(zaS (aa.take i)++(D.cons.take j).map Con.name).Nodup∧H'=H++[.map (zb7 (zbw (aa.take (i+1)))),.map (zb7 (zaS (aa.take i)++(D.cons.take j).map Con.name))]) D.cons.length ?_ ?_
    ·intro _;exact⟨0,by omega,by omega,rfl,by simp,by simpa using cx,by simp⟩
    ·rintro q t78 H' ⟨j,hj,rfl,rfl,gL,jW,rfl⟩ jh cD ji Kb1 eI;have hscH:∀ A B,HSc (H++[.map (zb7 A),.map (zb7 B)]):=λA B=>hs.append (by simp[zId]);by_cases a6:j<D.cons.length
     ·have e2:(D.cons.map Con.cs)[j]?=some (D.cons[j]).cs:=by simp[a6]
      have hargs':=bo j a6;rw[List.drop_eq_getElem_cons a6,List.all_cons]at gL;have htj:zaS (aa.take i)++(D.cons.take (j+1)).map Con.name=(zaS (aa.take i)++(D.cons.take j).map Con.name)++[(D.cons[j]).name]:=by rw[←List.take_append_getElem a6,List.map_append,List.append_assoc];rfl
      have aR:zaS aa=(zaS (aa.take i)++(D.cons.take j).map Con.name)++(D.cons[j]).name::((D.cons.drop (j+1)).map Con.name++zaS (aa.drop (i+1))):=by
       have h1:D.cons.map Con.name=(D.cons.take j).map Con.name++(D.cons[j]).name::(D.cons.drop (j+1)).map Con.name:=by rw[←List.map_cons (f:=Con.name),List.getElem_cons_drop,←List.map_append,List.take_append_drop]
       conv=>lhs;rw[bc]
       simp only[zaS,List.flatMap_append,List.flatMap_cons,List.append_assoc,h1,List.cons_append]
      generalize hC:D.cons[j]=C at *;have hbad':zdu aa i D.vars C=false→zcX aa aa 0=false:=λh=>bD (by rw[hdat,←gL,h,Bool.false_and]);generalize hA:zaS (aa.take i)++(D.cons.take j).map Con.name=A at *;simp only[zsO];simp[a6,hC,Con.cs,Nat.add_assoc];refine zCA _ _ _ ?_;cases hu2:zc6 C.name with
      | false=>simp;exact iP (hbad' (by simp[zdu,hu2])) _
      | true=>
      by_cases iQ:C.name∈A
      ·simp[zfF,iQ];exact hD2 (by rw[aR];exact zyB iQ) _
      ·simp[zfF,iQ];refine hargs' _ _ ?_;have mv:zdu aa i D.vars C=(decide (C.args.length≤6) && C.args.all (zdZ aa i D.vars)):=by simp[zdu,hu2]
       rw[←mv];cases dM:zdu aa i D.vars C with
       | false=>simp;exact iP (hbad' dM) _
       | true=>
        rw[dM,Bool.true_and]at gL;simp[zq6 _ _ iQ];rw[zat (by omega) (by omega)];refine eI _ _ ⟨D.cons.length-(j+1),by omega,Back.at (J:=[.cells [.str C.name,.sl (VT.css C.args) .none]]) (H2:=H++[.map (zb7 (zbw (aa.take (i+1)))),.map (zb7 (A++[C.name]))]) (by simp) (by simp) (hscH _ _) ?_ ⟨_,rfl,j+1,by omega,rfl,by simp,gL,?_,?_⟩⟩
        ·simp[zma,AV.sc,AV.scV,AV.scA,AV.scB]
        ·rw[htj];exact zx6 jW iQ
        ·rw[htj]
     ·obtain rfl:j=D.cons.length:=by omega
      rw[List.drop_length,List.all_nil]at gL;rw[List.take_length]at *;simp[zsO];rw[zat (by omega) (by omega)];have mv:zaS (aa.take i)++D.cons.map Con.name=zaS (aa.take (i+1)):=by rw[bm];simp[zaS]
      rw[mv]at jW ⊢;refine aw _ _ ⟨aa.length-(i+1),by omega,Back.at (J:=[]) (by simp) (by simp) (hscH _ _) ?_ ⟨_,rfl,i+1,by omega,rfl,by simp,?_,hdn',jW,rfl⟩⟩
      ·simp[zmb,AV.sc,AV.scV,AV.scA,AV.scB]
      ·rw[←ho,hdat,←gL,Bool.true_and]
   ·obtain rfl:i=aa.length:=by omega
    rw[List.drop_length,zcX]at ho;rw[List.take_length]at *;simp[zsP];have:=hO [.map (zb7 (zbw aa)),.map (zb7 (zaS aa))];rwa [show zbn aa=true by simp[zbn,mr,←ho,zqS mt,zqS cx]]at this
 ·have eL:(12:Int)<aa.length:=by omega
  have gd:12<aa.length:=by omega
  rw[show zbn aa=false by simp[zbn,mr]]at hO;simp[zsN,eL,gd];simpa using hO []
def zvF (c:Con):Prop:=c.name.length≤40∧c.args.length≤8∧∀ t∈c.args,t.nodes≤20
def zoA (d:Dat):Prop:=d.name.length≤40∧d.cons.length≤10∧∀ c∈d.cons,zvF c
def zbb (ds:List Dat):Prop:=ds.length≤14∧∀ d∈ds,zoA d
theorem zhy {α:Type} {l:List α} {i:Nat} (h:i<l.length) {p:α→Prop} (h1:∀ x∈l.take i,p x) (h2:p l[i]):∀ x∈l.take (i+1),p x:=by
 rw[List.take_succ_eq_append_getElem h];intro x hx;rcases List.mem_append.1 hx with hx | hx
 ·exact h1 x hx
 ·simp at hx;subst hx;exact h2
theorem zxA {α:Type} {cs:α→List AV} {l:List α} {i:Nat} (h:i<l.length):(l.map cs)[i]?.getD []=cs l[i]:=by simp[h]
theorem vt3 (v:VT):∃ a b c,v.cs=[a,b,c]∧a.known=true∧b.known=true∧c.known=true:=by obtain⟨k,n,ks⟩:=v;exact⟨_,_,_,rfl,rfl,rfl,rfl⟩
theorem zTp (ds:List Dat) (H:zaa) (K:AV→zaa→Prop) (aq:ds.length≤9223372036854775807) (hK:∀ b,(b=true→zbb ds)→K (.bool b) H):ACalls tP zqp [.sl (ds.map Dat.cs) .none] H K:=by
 refine ACalls.out (zTn λhs=>?_);have hF:∀ J,Out H.length K (.bool false) (H++J):=λJ=>Out.bool rfl (Nat.le_refl _) hs (hK false λh=>by cases h);have hF0:Out H.length K (.bool false) H:=by simpa using hF []
 by_cases h14:ds.length>14
 ·have:(14:Int)<ds.length:=by omega
  simp[zua,this];exact hF0
 have:¬ (14:Int)<ds.length:=by omega
 simp[zua,this];refine zTk (Inv:=λq t15 H'=>∃ i:Nat,i≤ds.length∧q=ds.length-i∧t15=.int .i64 i∧(∀ d∈ds.take i,zoA d)∧H=H') ds.length ?_ ?_
 ·intro _;exact⟨0,by omega,by omega,rfl,by simp,rfl⟩
 ·rintro q t15 H' ⟨i,hi,rfl,rfl,ha,rfl⟩ hsc hl aO Kb4 jo;by_cases bj:i<ds.length
  ·have a7:(ds.map Dat.cs)[i]?.getD []=[.str ds[i].name,.int .i64 ds[i].vars,.sl (ds[i].cons.map Con.cs) .none]:=zxA bj;have next:zoA ds[i]→∀ J,Kb4 (ziA (.sl (ds.map Dat.cs) .none) (.int .i64 ds.length) (.int .i64 (i+1))) (H++J):=by intro hd J;refine jo _ _ ⟨ds.length-(i+1),by omega,Back.same (Nat.le_refl _) hs ?_ ⟨_,rfl,i+1,by omega,rfl,by simp,zhy bj ha hd,rfl⟩⟩;simp[ziA,AV.sc,AV.scV,AV.scA,AV.scB]
   generalize de:ds[i]=d at *;simp[zuc,bj,a7,AV.known,de,Dat.cs];by_cases hn:d.name.length>40
   ·have:(40:Int)<d.name.length:=by omega
    simp[this];exact hF _
   have bB:¬ (40:Int)<d.name.length:=by omega
   by_cases hc:d.cons.length>10
   ·have:(10:Int)<d.cons.length:=by omega
    simp[bB,this];exact hF _
   have fG:¬ (10:Int)<d.cons.length:=by omega
   simp[bB,fG];refine zTl (Inv:=λq t32 H'=>∃ j:Nat,j≤d.cons.length∧q=d.cons.length-j∧t32=.int .i64 j∧(∀ c∈d.cons.take j,zvF c)∧H'=H++[.cells [.str d.name,.int .i64 d.vars,.sl (d.cons.map Con.cs) .none]]) d.cons.length ?_ ?_
   ·intro _;exact⟨0,by omega,by omega,rfl,by simp,rfl⟩
   ·rintro q t32 H' ⟨j,hj,rfl,rfl,hb,rfl⟩ hsc9 hl9 ig Kb9 gb;by_cases a6:j<d.cons.length
    ·have a7:(d.cons.map Con.cs)[j]?.getD []=[.str d.cons[j].name,.sl (VT.css d.cons[j].args) .none]:=zxA a6;generalize bR:d.cons[j]=c at *;simp[zud,a6,a7,AV.known,bR,Con.cs];by_cases hn:c.name.length>40
     ·have:(40:Int)<c.name.length:=by omega
      simp[this];exact hF _
     have bB:¬ (40:Int)<c.name.length:=by omega
     by_cases hc:c.args.length>8
     ·have:(8:Int)<c.args.length:=by omega
      simp[bB,this];exact hF _
     have fG:¬ (8:Int)<c.args.length:=by omega
     simp[bB,fG];refine zTj (Inv:=λq t49 H'=>∃ (k:Nat) (l:Int),k≤c.args.length∧q=c.args.length-k∧t49=.int .i64 k∧-1≤l∧l≤20∧(∀ t∈c.args.take k,t.nodes≤20)∧H'=H++[.cells [.str d.name,.int .i64 d.vars,.sl (d.cons.map Con.cs) .none],.cells [.str c.name,.sl (VT.css c.args) .none],.cells [.int .i64 l]]) c.args.length ?_ ?_
     ·intro _;exact⟨0,20,by omega,by omega,rfl,by omega,by omega,by simp,rfl⟩
     ·rintro q t49 H' ⟨k,l,hk,rfl,rfl,cM,dR,jp,rfl⟩ hsc15 hl15 hsF15 Kb15 hKb15;by_cases cu:k<c.args.length
      ·obtain⟨x,y,z,hv,hx,hy,hz⟩:=vt3 c.args[k];simp[zub,cu,hv,hx,hy,hz];rw[←hv];refine zD9 _ _ (Nat.le_refl _) l (by omega) cM _ (H.length+2) (by simp) _ ?_ ?_
       ·intro aQ;simp;rw[zat (by omega) (by omega)];refine hKb15 _ _ ⟨c.args.length-(k+1),by omega,Back.at (J:=[_]) (H2:=H++[.cells [.str d.name,.int .i64 d.vars,.sl (d.cons.map Con.cs) .none],.cells [.str c.name,.sl (VT.css c.args) .none],.cells [.int .i64 (l-c.args[k].nodes)]]) (by simp;rfl) (by simp) (hs.append rfl) ?_ ⟨_,rfl,k+1,l-c.args[k].nodes,by omega,rfl,by simp,by omega,by omega,zhy cu jp (by omega),rfl⟩⟩;simp[zng,AV.sc,AV.scV,AV.scA,AV.scB]
       ·intro aQ l';simp;exact hF _
      ·obtain rfl:k=c.args.length:=by omega
       rw[List.take_length]at jp;simp[zub];rw[zat (by omega) (by omega)];refine gb _ _ ⟨d.cons.length-(j+1),by omega,Back.at (J:=[_,_]) (H2:=H++[.cells [.str d.name,.int .i64 d.vars,.sl (d.cons.map Con.cs) .none]]) (by simp;exact⟨rfl,rfl⟩) (by simp) (hs.append rfl) ?_ ⟨_,rfl,j+1,by omega,rfl,by simp,zhy a6 hb (by rw[bR];exact⟨by omega,by omega,jp⟩),rfl⟩⟩;simp[znh,AV.sc,AV.scV,AV.scA,AV.scB]
    ·obtain rfl:j=d.cons.length:=by omega
     rw[List.take_length]at hb;simp[zud];rw[zat (by omega) (by omega)];exact next ⟨by omega,by omega,hb⟩ _
  ·obtain rfl:i=ds.length:=by omega
   rw[List.take_length]at ha;simp[zuc];exact Out.bool (J:=[]) (by simp) (Nat.le_refl _) hs (hK true λ_=>⟨by omega,ha⟩)
def zew (aa:List Dat) (d:Nat) (vars:Int) (t:VT):Bool:=zbS d vars t || zaZ (aa.take d) vars t
structure RCon (aa:List Dat) (d:Nat) (vars:Int) (c:Con):Prop where
 up:zc6 c.name=true
 len:c.args.length≤6
 args:∀ x∈c.args,zew aa d vars x=true
structure RDat (aa:List Dat) (d:Nat) (D:Dat):Prop where
 v0:0≤D.vars
 v6:D.vars≤6
 c1:1≤D.cons.length
 c8:D.cons.length≤8
 up:zc6 D.name=true
 cons:∀ c∈D.cons,RCon aa d D.vars c
structure RData (aa:List Dat):Prop where
 len:aa.length≤12
 dats:∀ d (h:d<aa.length),RDat aa d aa[d]
 names:(zbw aa).Nodup
 cons:(zaS aa).Nodup
theorem zrq {α:Type} {l:List α} {i:Nat} (h:i<l.length):l.take (i+1)=l.take i++[l[i]]:=by rw[List.take_append_getElem h]
theorem zwF:∀ l:List Dat,(∀ D∈l,D.cons.length≤10)→(zaS l).length≤l.length*10
 | [],_=>by simp[zaS]
 | D::l,h=>by have h1:=zwF l (λD hD=>h D (by simp[hD]));have h2:=h D (by simp);rw[zaS]at h1 ⊢;rw[List.flatMap_cons,List.length_append,List.length_map,List.length_cons];omega
theorem zGh {aa:List Dat} {d:Nat} (h:d<aa.length):zbw (aa.take (d+1))=zbw (aa.take d)++[(aa[d]).name]:=by rw[zbw,zrq h,List.map_append];rfl
theorem zFW {aa:List Dat} {d:Nat} (h:d<aa.length):zaS (aa.take (d+1))=zaS (aa.take d)++(aa[d]).cons.map Con.name:=by rw[zaS,zrq h,List.flatMap_append];simp[zaS]
theorem zzb (l:List (List UInt8)) (s:List UInt8):strs (l++[s])=strs l++[[.str s]]:=by simp[strs]
theorem zws {s:List UInt8} {k:AV→Prop}:zaw 1 [.str []] 1 [(0,.str s)] k=k (.sl [[.str s]] .full):=propext Iff.rfl
theorem zyC (l:List (List UInt8)) (hl:l.length≤1000000) {tok:Tok} (H:zaa) (K:AV→zaa→Prop) (hK:K (.bool (zcs l)) H):ACalls tP zhU [.sl (strs l) tok] H K:=
 ACalls.wk (zW6 l hl H K hK) ⟨.atom (.sl _ _),trivial⟩
theorem zF2 {D:Dat} {i:Nat} (h:i<D.cons.length):(D.cons.map Con.cs)[i]?.getD []=[.str (D.cons[i]).name,.sl (VT.css (D.cons[i]).args) .none]:=by simp[h,Con.cs]
theorem zDE (aa:List Dat) (kY:zbb aa) (H:zaa) (K:AV→zaa→Prop) (hK:∀ b,(b=true↔RData aa)→K (.bool b) H):ACalls tP zjT [.sl (aa.map Dat.cs) .none] H K:=by
 refine ACalls.out (zUn λhs=>?_);obtain⟨kl,kd⟩:=kY;have hF:¬ RData aa→∀ J,Out H.length K (.bool false) (H++J):=λh J=>Out.bool rfl (Nat.le_refl _) hs (hK _ (by simp[h]));have hT:∀ b:Bool,(b=true↔RData aa)→∀ J,Out H.length K (.bool b) (H++J):=λb h J=>Out.bool rfl (Nat.le_refl _) hs (hK _ h);by_cases mr:aa.length>12
 ·have eL:(12:Int)<aa.length:=by omega
  simp[zuw,eL];have:=hF (λh=>by have:=h.len;omega) [];simpa using this
 have eL:¬ (12:Int)<aa.length:=by omega
 simp[zuw,eL];unfold znD;refine ALoop.own 3 zcb 1 rfl ?_;refine ALoop.own 4 zcb 1 rfl ?_;rw[List.append_assoc];have cx:∀ d,(zaS (aa.take d)).length≤140:=λd=>by have:=zwF (aa.take d) (λD hD=>(kd D (List.mem_of_mem_take hD)).2.1);rw[List.length_take]at this;have:min d aa.length*10≤14*10:=Nat.mul_le_mul_right _ (by omega);omega
 have dR:(H++[AB.perm zcb 1 0]).length=H.length+1:=by simp
 rw[dR];show znD (.sl (aa.map Dat.cs) .none) (.sl [] (.own H.length)) (.sl [] (.own (H.length+1))) (.int .i64 0) (H++[.perm zcb 1 0,.perm zcb 1 0]) (Out H.length K);have hsP:∀ m n,HSc (H++[.perm zcb 1 m,.perm zcb 1 n]):=λm n=>hs.append rfl;refine zUl (Inv:=λq t3 t4 t5 H'=>∃ d:Nat,d≤aa.length∧q=aa.length-d∧t5=.int .i64 d∧t3=.sl (strs (zbw (aa.take d))) (.own H.length)∧t4=.sl (strs (zaS (aa.take d))) (.own (H.length+1))∧(∀ j (h:j<aa.length),j<d→RDat aa j aa[j])∧H'=H++[.perm zcb 1 d,.perm zcb 1 (zaS (aa.take d)).length]) aa.length ?_ ?_
 ·intro _;exact⟨0,by omega,by omega,rfl,by simp[zbw,strs],by simp[zaS,strs],by omega,by simp[zaS]⟩
 ·rintro q t3 t4 t5 H' ⟨d,hd,rfl,rfl,rfl,rfl,aA,rfl⟩ hsc aq aO Kb aw;by_cases ap:d<aa.length
  ·have bD:¬ RDat aa d aa[d]→∀ J,Out H.length K (.bool false) (H++J):=λh=>hF λhh=>h (hh.dats d ap);have hcd:=cx d;have eU:=zGh ap;have aR:=zFW ap;obtain⟨kn,kc,kcc⟩:=kd _ (List.getElem_mem ap);have iF:(zbw (aa.take d)).length=d:=by simp[zbw];omega
   generalize hD:aa[d]=D at *;have cG:(aa.map Dat.cs)[d]?.getD []=[.str D.name,.int .i64 D.vars,.sl (D.cons.map Con.cs) .none]:=by simp[ap,hD,Dat.cs]
   by_cases dE:D.vars<0
   ·simp[zf0,ap,hD,Dat.cs,dE];exact bD (λh=>by have:=h.v0;omega) _
   by_cases jn:6<D.vars
   ·simp[zf0,ap,hD,Dat.cs,dE,jn];exact bD (λh=>by have:=h.v6;omega) _
   by_cases bL:D.cons.length<1
   ·have bT:(D.cons.length:Int)<1:=by omega
    simp[zf0,ap,hD,Dat.cs,dE,jn,bT];exact bD (λh=>by have:=h.c1;omega) _
   have bT:¬ (D.cons.length:Int)<1:=by omega
   by_cases mu:8<D.cons.length
   ·have eM:(8:Int)<D.cons.length:=by omega
    simp[zf0,ap,hD,Dat.cs,dE,jn,bT,eM];exact bD (λh=>by have:=h.c8;omega) _
   have eM:¬ (8:Int)<D.cons.length:=by omega
   simp[zf0,ap,hD,Dat.cs,dE,jn,bT,eM];refine zEB _ _ _ ?_;cases hup:zc6 D.name with
   | false=>simp;exact bD (λh=>by have:=h.up;rw[hup]at this;cases this) _
   | true=>
   simp[zws];simp[zax,zaN,zaK,iF];refine⟨by omega,?_⟩;rw[←zzb,←eU];refine zUj (Inv:=λq t4 t7 H'=>∃ k:Nat,k≤D.cons.length∧q=D.cons.length-k∧t7=.int .i64 k∧t4=.sl (strs (zaS (aa.take d)++(D.cons.map Con.name).take k)) (.own (H.length+1))∧(∀ c∈D.cons.take k,RCon aa d D.vars c)∧H'=H++[.perm zcb 1 (d+1),.perm zcb 1 ((zaS (aa.take d)).length+k),.cells [.str D.name,.int .i64 D.vars,.sl (D.cons.map Con.cs) .none]]) D.cons.length ?_ ?_
   ·intro _;exact⟨0,by omega,by omega,rfl,by simp,by simp,by simp⟩
   ·rintro q t4 t7 H' ⟨k,hk,rfl,rfl,rfl,jq,rfl⟩ jh cD ji Kb1 eI;have hlk:(zaS (aa.take d)++(D.cons.map Con.name).take k).length=(zaS (aa.take d)).length+k:=by simp;omega
    by_cases cu:k<D.cons.length
    ·have hkI:(k:Int)<D.cons.length:=by omega
     have hca:=zF2 cu;have gf:¬ RCon aa d D.vars D.cons[k]→∀ J,Out H.length K (.bool false) (H++J):=λh=>bD λhh=>h (hh.cons _ (List.getElem_mem cu));have eX:zaS (aa.take d)++(D.cons.map Con.name).take (k+1)=(zaS (aa.take d)++(D.cons.map Con.name).take k)++[(D.cons[k]).name]:=by rw[zrq (by simpa using cu)];simp
     obtain⟨_,ka,kan⟩:=kcc _ (List.getElem_mem cu);generalize hC:D.cons[k]=C at *;simp[zux,cu,hC,Con.cs];refine zEB _ _ _ ?_;cases hupc:zc6 C.name with
     | false=>simp;exact gf (λh=>by have:=h.up;rw[hupc]at this;cases this) _
     | true=>
     by_cases kC:6<C.args.length
     ·have jr:(6:Int)<C.args.length:=by omega
      simp[cu,hC,Con.cs,jr];exact gf (λh=>by have:=h.len;omega) _
     have jr:¬ (6:Int)<C.args.length:=by omega
     simp[cu,hC,Con.cs,jr,zws];generalize hA:zaS (aa.take d)++(D.cons.map Con.name).take k=A at *;have eN:A.length=(zaS (aa.take d)).length+k:=hlk;simp[zax,zaN,zaK,eN,cu,hC,Con.cs];refine⟨by omega,?_⟩;rw[←zzb,←eX];refine zUk (Inv:=λq t95 H'=>∃ i:Nat,i≤C.args.length∧q=C.args.length-i∧t95=.int .i64 i∧(∀ x∈C.args.take i,zew aa d D.vars x=true)∧H'=H++[.perm zcb 1 (d+1),.perm zcb 1 ((zaS (aa.take d)).length+k+1),.cells [.str D.name,.int .i64 D.vars,.sl (D.cons.map Con.cs) .none]]) C.args.length ?_ ?_
     ·intro _;exact⟨0,by omega,by omega,rfl,by simp,rfl⟩
     ·rintro q t95 H' ⟨i,hi,rfl,rfl,hok3,rfl⟩ cv d5 ik Kb2 bE;by_cases bj:i<C.args.length
      ·have hxn:=kan _ (List.getElem_mem bj);have habad:zew aa d D.vars C.args[i]=false→∀ J,Out H.length K (.bool false) (H++J):=λh=>gf λhh=>by have:=hh.args _ (List.getElem_mem bj);rw[h]at this;cases this
       obtain⟨x,y,z,aB,hx,hy,hz⟩:=vt3 C.args[i];have good:zew aa d D.vars C.args[i]=true→znC (.sl (aa.map Dat.cs) .none) (.sl (strs (zbw (aa.take (d+1)))) (.own H.length)) (.sl (strs (zaS (aa.take d)++(D.cons.map Con.name).take (k+1))) (.own (H.length+1))) (.int .i64 d) (.ptr (H.length+2) 0) (.int .i64 k) (.sl (VT.css C.args) .none) (.int .i64 C.args.length) (.int .i64 i) (H++[.perm zcb 1 (d+1),.perm zcb 1 ((zaS (aa.take d)).length+k+1),.cells [.str D.name,.int .i64 D.vars,.sl (D.cons.map Con.cs) .none],.cells [x,y,z]]) (Out H.length K) Kb Kb1 Kb2:=λhg=>by simp[znC,zDz];rw[zat (by omega) (by omega)];refine bE _ _ ⟨C.args.length-(i+1),by omega,Back.at (J:=[_]) (H2:=H++[.perm zcb 1 (d+1),.perm zcb 1 ((zaS (aa.take d)).length+k+1),.cells [.str D.name,.int .i64 D.vars,.sl (D.cons.map Con.cs) .none]]) (by simp;rfl) (by simp) cv ?_ ⟨_,rfl,i+1,by omega,rfl,by simp,zhy bj hok3 hg,rfl⟩⟩;simp[znA,AV.sc,AV.scV,AV.scA,AV.scB]
       simp[zuy,bj,aB,hx,hy,hz];rw[←aB];refine zvE _ _ _ (by omega) _ _ ?_;cases dv:zbS d D.vars C.args[i] with
       | true=>rw[aB];simp;exact good (by simp[zew,dv])
       | false=>
        simp[aB];refine⟨⟨by omega,λa _=>rfl⟩,?_⟩;rw[←List.map_take,←aB];refine zaB (.bool (zaZ (aa.take d) D.vars C.args[i])) (λJ=>zuC (aa.take d) (by simp;omega) _ _ (by omega) _ _ ⟨rfl,rfl⟩) ?_;cases lw:zaZ (aa.take d) D.vars C.args[i] with
        | false=>simp;exact habad (by simp[zew,dv,lw]) _
        | true=>rw[aB];simp;exact good (by simp[zew,lw])
      ·obtain rfl:i=C.args.length:=by omega
       rw[List.take_length]at *;simp[zuy];rw[zat (by omega) (by omega)];refine eI _ _ ⟨D.cons.length-(k+1),by omega,Back.here (by simp) cv ?_ ⟨_,_,rfl,k+1,by omega,rfl,by simp,rfl,?_,by simp[Nat.add_assoc]⟩⟩
       ·simp[znz,AV.sc,AV.scV,AV.scA,AV.scB]
       ·exact zhy cu jq (by rw[hC];exact⟨hupc,by omega,hok3⟩)
    ·obtain rfl:k=D.cons.length:=by omega
     rw[List.take_length]at *;simp[zux];rw[zat (by omega) (by omega)];refine aw _ _ ⟨aa.length-(d+1),by omega,Back.at (J:=[_]) (H2:=H++[.perm zcb 1 (d+1),.perm zcb 1 (zaS (aa.take (d+1))).length]) (by rw[aR];simp;rfl) (by simp) (hsP _ _) ?_ ⟨_,_,_,rfl,d+1,by omega,rfl,by simp,rfl,by rw[aR];exact congrArg (λl=>AV.sl (strs (zaS (aa.take d)++l)) (.own (H.length+1))) (List.take_of_length_le (Nat.le_of_eq (List.length_map _))),λj hj c9=>?_,rfl⟩⟩
     ·simp[znB,AV.sc,AV.scV,AV.scA,AV.scB]
     ·by_cases hjd:j=d
      ·subst hjd;rw[hD];exact⟨by omega,by omega,by omega,by omega,hup,jq⟩
      ·exact aA j hj (by omega)
  ·obtain rfl:d=aa.length:=by omega
   rw[List.take_length]at *;have mt:(zbw aa).length=aa.length:=by simp[zbw]
   have hcn':=cx aa.length;rw[List.take_length]at hcn';simp[zf0];refine zyC _ (by omega) _ _ ?_;cases hr:zcs (zbw aa) with
   | true=>simp;refine hT _ ?_ _;simp;intro h;have:=zqS h.names;rw[hr]at this;cases this
   | false=>simp;refine zyC _ (by omega) _ _ ?_;refine hT _ ?_ _;simp only[zcs,Bool.not_eq_false',decide_eq_true_eq,Bool.not_not]at hr ⊢;exact⟨λh=>⟨by omega,λj hj=>aA j hj hj,hr,h⟩,λh=>h.cons⟩
mutual
theorem zH9:∀ v w:VT,v.same w=true↔v=w
 | .mk k n ks,.mk k' n' ks'=>by have h:=zyO ks ks';simp only[VT.same,Bool.and_eq_true,beq_iff_eq,VT.mk.injEq,h,and_assoc]
theorem zyO:∀ v w:List VT,VT.sameL v w=true↔v=w
 | v::vs,w::ws=>by have h1:=zH9 v w;have h2:=zyO vs ws;simp only[VT.sameL,Bool.and_eq_true,List.cons.injEq,h1,h2]
 | [],[]=>by simp[VT.sameL]
 | [],_::_=>by simp[VT.sameL]
 | _::_,[]=>by simp[VT.sameL]
end
theorem zkG {α:Type} (l:List α) (d n:Nat):(l.take d)[n]?=if n<d then l[n]? else none:=by
 by_cases h:n<d
 ·rw[if_pos h,List.getElem?_take_of_lt h]
 ·rw[if_neg h,List.getElem?_eq_none (by rw[List.length_take];omega)]
theorem zIh {aa:List Dat} {d:Nat} {vars k n:Int} {len:Nat} (h:(k == 5 && n == (d:Int))=false):zbj (aa.take (d+1)) vars k n len=zbj (aa.take d) vars k n len:=by
 unfold zbj;by_cases h5:k=5
 ·subst h5;have hn:n≠d:=by simpa using h
  simp only[zkG];by_cases h0:0≤n
  ·have:(n.toNat<d+1)=(n.toNat<d):=by apply propext;omega
   simp[this]
  ·simp[h0]
 ·have:(k == 5)=false:=by simpa using h5
  simp[this]
mutual
theorem zzI (aa:List Dat) (d:Nat) (vars:Int):∀ t:VT,zcA d t=false→za5 (aa.take (d+1)) vars t=za5 (aa.take d) vars t
 | .mk k n ks=>by intro h;simp only[zcA,Bool.or_eq_false_iff]at h;rw[za5,za5,zIh h.1,zzF aa d vars ks h.2]
theorem zzF (aa:List Dat) (d:Nat) (vars:Int):∀ l:List VT,zeU d l=false→zbh (aa.take (d+1)) vars l=zbh (aa.take d) vars l
 | []=>λ_=>rfl
 | t::ts=>by intro h;simp only[zeU,Bool.or_eq_false_iff]at h;rw[zbh,zbh,zzI aa d vars t h.1,zzF aa d vars ts h.2]
end
mutual
theorem zxF (aa:List Dat) (d:Nat) (vars:Int):∀ t:VT,za5 (aa.take d) vars t=true→zcA d t=false
 | .mk k n ks=>by
  intro h;rw[za5,Bool.and_eq_true]at h;rw[zcA,zxE aa d vars ks h.2,Bool.or_false];by_cases h5:k=5
  ·subst h5;have h1:=h.1;simp[zbj,zkG]at h1;obtain⟨h0,h2⟩:=h1;by_cases hn:n=d
   ·subst hn;simp at h2
   ·simpa using hn
  ·have:(k == 5)=false:=by simpa using h5
   simp[this]
theorem zxE (aa:List Dat) (d:Nat) (vars:Int):∀ l:List VT,zbh (aa.take d) vars l=true→zeU d l=false
 | []=>λ_=>rfl
 | t::ts=>by intro h;rw[zbh,Bool.and_eq_true]at h;rw[zeU,zxF aa d vars t h.1,zxE aa d vars ts h.2];rfl
end
theorem zyQ (aa:List Dat) (vars:Int):∀ (l:List VT) (i:Nat),zcO l i=true→((i+l.length:Nat):Int)≤vars→zbh aa vars l=true∧VT.nodesL l=l.length
 | [],i,_,_=>⟨rfl,rfl⟩
 | .mk k n ks::l,i,h,hv=>by
  rw[zcO,Bool.and_eq_true]at h;obtain⟨h1,h2⟩:=h;simp only[zhq,Bool.and_eq_true,beq_iff_eq]at h1;obtain⟨⟨rfl,rfl⟩,h3⟩:=h1;have hk:ks=[]:=List.eq_nil_of_length_eq_zero h3;subst hk;obtain⟨h4,h5⟩:=zyQ aa vars l (i+1) h2 (by simp at hv ⊢;omega);simp at hv;constructor
  ·simp[zbh,za5,zbj,h4];omega
  ·simp[VT.nodesL,VT.nodes,h5];omega
theorem zwc (aa:List Dat) (d:Nat) (hd:d<aa.length) (h0:0≤(aa[d]).vars) (h6:(aa[d]).vars≤6) (t:VT):zdZ aa d (aa[d]).vars t=zew aa d (aa[d]).vars t:=by
 unfold zdZ zew;cases hs:zbS d (aa[d]).vars t with
 | true=>
  obtain⟨k,n,ks⟩:=t;simp only[zbS,Bool.and_eq_true,beq_iff_eq]at hs;obtain⟨⟨⟨rfl,rfl⟩,hl⟩,hs⟩:=hs;obtain⟨h1,h2⟩:=zyQ (aa.take (d+1)) (aa[d]).vars ks 0 hs (by simp;omega);have lw:zaZ (aa.take (d+1)) (aa[d]).vars (.mk 5 d ks)=true:=by simp[zaZ,za5,h1,VT.nodes,h2,zbj,zkG,hd,hl];omega
  simp[lw]
 | false=>
  simp only[Bool.false_or];unfold zaZ;cases hm:zcA d t with
  | false=>rw[zzI aa d _ t hm];simp
  | true=>
   have:za5 (aa.take d) (aa[d]).vars t=false:=by
    cases h:za5 (aa.take d) (aa[d]).vars t with
    | false=>rfl
    | true=>rw[zxF aa d _ t h]at hm;cases hm
   simp[this]
theorem zo9 (aa:List Dat):∀ (l:List Dat) (d:Nat),zcX aa l d=true↔∀ j (h:j<l.length),zcL aa (d+j) l[j]=true
 | [],d=>by simp[zcX]
 | D::l,d=>by
  rw[zcX,Bool.and_eq_true,zo9 aa l (d+1)];constructor
  ·rintro⟨h1,h2⟩ j hj;cases j with
   | zero=>exact h1
   | succ j=>have:=h2 j (by simpa using hj);rw[show d+(j+1)=d+1+j by omega];simpa using this
  ·intro h;refine⟨h 0 (by simp),λj hj=>?_⟩;have:=h (j+1) (by simpa using hj);rw[show d+(j+1)=d+1+j by omega]at this;simpa using this
theorem zwQ (aa:List Dat):zbn aa=true↔RData aa:=by
 unfold zbn;simp only[Bool.and_eq_true,decide_eq_true_eq,zo9,zcs,Bool.not_not,Nat.zero_add];constructor
 ·rintro⟨⟨⟨h1,h2⟩,h3⟩,h4⟩;refine⟨h1,λd hd=>?_,h3,h4⟩;have:=h2 d hd;simp only[zcL,Bool.and_eq_true,decide_eq_true_eq,List.all_eq_true]at this;obtain⟨⟨⟨⟨⟨q1,q2⟩,q3⟩,q4⟩,q5⟩,q6⟩:=this;refine⟨q2,q3,q4,q5,q1,λc hc=>?_⟩;have:=q6 c hc;simp only[zdu,Bool.and_eq_true,decide_eq_true_eq,List.all_eq_true]at this;exact⟨this.1,this.2.1,λx hx=>by rw[←zwc aa d hd q2 q3 x];exact this.2.2 x hx⟩
 ·rintro⟨h1,h2,h3,h4⟩;refine⟨⟨⟨h1,λd hd=>?_⟩,h3⟩,h4⟩;obtain⟨q2,q3,q4,q5,q1,q6⟩:=h2 d hd;simp only[zcL,Bool.and_eq_true,decide_eq_true_eq,List.all_eq_true];refine⟨⟨⟨⟨⟨q1,q2⟩,q3⟩,q4⟩,q5⟩,λc hc=>?_⟩;obtain⟨r1,r2,r3⟩:=q6 c hc;simp only[zdu,Bool.and_eq_true,decide_eq_true_eq,List.all_eq_true];exact⟨r1,r2,λx hx=>by rw[zwc aa d hd q2 q3 x];exact r3 x hx⟩
mutual
def zaI (aa:List Dat):VT→VT→Bool
 | .mk vk vn vks,.mk k n al=>
  if k=1 then vk == 3 && decide (-1099511627776≤vn) && decide (vn≤1099511627776) && vks.length == 0
  else if k=2 then vk == 2 && (vn == 0 || vn == 1) && vks.length == 0
  else if k=3 then vk == 1 && vn == 0 && vks.length == 0
  else if k=6 then vk == 4 && vn == 0 && zbR aa vks al
  else if k=5 then vk == 5 && decide (0≤vn) && decide (vn<8) && zfp aa vks (za6 aa (.mk k n al) vn)
  else if k=7 then vk == 6 && vn == 0 && decide (vks.length≤4096) && zdL aa vks (al.getD 0 (.mk 0 0 []))
  else if k=8 then vk == 7 && vn == 0 && zbR aa vks al
  else vk == 8 && decide (0≤vn) && decide (vn<64) && vks.length == 0
def zfp (aa:List Dat):List VT→Option (List VT)→Bool
 | _,none=>false
 | [],some ts=>ts.isEmpty
 | v::vs,some ts=>match ts with
  | []=>false
  | t::ts=>zaI aa v t && zbR aa vs ts
def zbR (aa:List Dat):List VT→List VT→Bool
 | [],ts=>ts.isEmpty
 | v::vs,ts=>match ts with
  | []=>false
  | t::ts=>zaI aa v t && zbR aa vs ts
def zdL (aa:List Dat):List VT→VT→Bool
 | [],_=>true
 | v::vs,t=>zaI aa v t && zdL aa vs t
end
theorem zpk (aa:List Dat) (vs ts:List VT):zfp aa vs (some ts)=zbR aa vs ts:=by
 cases vs with
 | nil=>cases ts <;> rw[zfp,zbR]
 | cons v vs=>cases ts <;> simp only[zfp,zbR]
theorem zxf (aa:List Dat) (vs:List VT):zfp aa vs none=false:=by cases vs <;> rw[zfp]
theorem zhn {aa:List Dat}:∀ {vs ts:List VT},zbR aa vs ts=true→vs.length=ts.length
 | [],ts,h=>by rw[zbR]at h;cases ts <;> simp at h ⊢
 | v::vs,[],h=>by simp[zbR]at h
 | v::vs,t::ts,h=>by simp only[zbR,Bool.and_eq_true]at h;simp[zhn h.2]
theorem zhm {aa:List Dat}:∀ {vs ts:List VT},zbR aa vs ts=true→∀ (i:Nat) (h1:i<vs.length) (h2:i<ts.length),zaI aa vs[i] ts[i]=true
 | [],ts,h=>by intro i h1;simp at h1
 | v::vs,[],h=>by simp[zbR]at h
 | v::vs,t::ts,h=>by
  simp only[zbR,Bool.and_eq_true]at h;intro i h1 h2;cases i with
  | zero=>exact h.1
  | succ i=>exact zhm h.2 i (by simpa using h1) (by simpa using h2)
theorem zIi {aa:List Dat} {m:Nat} {vars k n:Int} {len:Nat} (h:zbj (aa.take m) vars k n len=true) (h4:k≠4):zbj aa 0 k n len=true:=by
 unfold zbj at h ⊢;have jd:(k == 4)=false:=by simpa using h4
 rw[jd]at h ⊢;by_cases h5:k=5
 ·subst h5;simp only[zkG]at h;by_cases hm:n.toNat<m
  ·simpa[hm]using h
  ·simp[hm]at h
 ·have:(k == 5)=false:=by simpa using h5
  simpa[this]using h
theorem zzd (ks:List VT):∀ l:List VT,(zaP ks l).length=l.length
 | []=>rfl
 | t::ts=>by simp[zaP,zzd ks ts]
mutual
theorem zzJ {aa:List Dat} {m:Nat} {vars:Int} {ks:List VT} (hk:∀ x∈ks,za5 aa 0 x=true) (hl:(ks.length:Int)=vars):∀ a:VT,za5 (aa.take m) vars a=true→za5 aa 0 (subst ks a)=true
 | .mk k n al=>by
  intro h;rw[za5,Bool.and_eq_true]at h;unfold subst;by_cases h4:k=4
  ·have h1:=h.1;subst h4;simp[zbj]at h1;rw[if_pos ⟨rfl,by omega,by omega⟩];have hn:n.toNat<ks.length:=by omega
   rw[List.getElem?_eq_getElem hn];exact hk _ (List.getElem_mem hn)
  ·rw[if_neg (λh=>h4 h.1),za5,Bool.and_eq_true,zzd];exact⟨zIi h.1 h4,zzG hk hl al h.2⟩
theorem zzG {aa:List Dat} {m:Nat} {vars:Int} {ks:List VT} (hk:∀ x∈ks,za5 aa 0 x=true) (hl:(ks.length:Int)=vars):∀ l:List VT,zbh (aa.take m) vars l=true→zbh aa 0 (zaP ks l)=true
 | []=>by intro _;simp[zaP,zbh]
 | t::ts=>by intro h;rw[zbh,Bool.and_eq_true]at h;rw[zaP,zbh,Bool.and_eq_true];exact⟨zzJ hk hl t h.1,zzG hk hl ts h.2⟩
end
theorem zzE {aa:List Dat} {vars:Int}:∀ {l:List VT},zbh aa vars l=true→∀ x∈l,za5 aa vars x=true
 | [],_=>by simp
 | t::ts,h=>by
  rw[zbh,Bool.and_eq_true]at h;intro x hx;rcases List.mem_cons.1 hx with rfl | hx
  ·exact h.1
  ·exact zzE h.2 x hx
theorem zzH {aa:List Dat} {vars:Int} {k n:Int} {ks:List VT} (h:za5 aa vars (.mk k n ks)=true):∀ x∈ks,za5 aa vars x=true:=by rw[za5,Bool.and_eq_true]at h;exact zzE h.2
theorem zry {aa:List Dat} {vars:Int} {k n:Int} {ks:List VT} (h:zaZ aa vars (.mk k n ks)=true):∀ x∈ks,zaZ aa vars x=true:=by rw[zaZ,Bool.and_eq_true,decide_eq_true_eq]at h;intro x hx;rw[zaZ,Bool.and_eq_true,decide_eq_true_eq];exact⟨Nat.le_trans (zhr x hx) h.1,zzH h.2 x hx⟩
theorem zF1 {aa:List Dat} (hD:zbn aa=true) {d c:Nat} (hd:d<aa.length) (hc:c<aa[d].cons.length):∀ x∈(aa[d].cons[c]).args,za5 (aa.take (d+1)) aa[d].vars x=true:=by simp only[zbn,Bool.and_eq_true,zo9,Nat.zero_add]at hD;have h1:=hD.1.1.2 d hd;simp only[zcL,Bool.and_eq_true]at h1;have h2:=List.all_eq_true.1 h1.2 _ (List.getElem_mem hc);simp only[zdu,Bool.and_eq_true]at h2;intro x hx;have h3:=List.all_eq_true.1 h2.2.2 x hx;simp only[zdZ,zaZ,Bool.and_eq_true]at h3;exact h3.1.2
theorem zgf {aa:List Dat} {k n:Int} {ks:List VT} {c:Int} {l:List VT} (h:za6 aa (.mk k n ks) c=some l) :
  k=5∧0≤n∧0≤c∧∃ (hn:n.toNat<aa.length) (hc:c.toNat<(aa[n.toNat]).cons.length),(ks.length:Int)=(aa[n.toNat]).vars∧l=((aa[n.toNat]).cons[c.toNat]).args.map (subst ks)∧∀ x∈l,x.nodes≤200:=by
 rw[zc9]at h;split at h
 ·rename_i h5;split at h
  ·rename_i D hD;obtain⟨hn,rfl⟩:=List.getElem?_eq_some_iff.1 hD;split at h
   ·rename_i hv;split at h
    ·rename_i C hC;obtain⟨hc,rfl⟩:=List.getElem?_eq_some_iff.1 hC;split at h
     ·rename_i ha;simp only[Option.some.injEq]at h;subst h;exact⟨h5.1,h5.2.1,h5.2.2,hn,hc,hv,rfl,λx hx=>of_decide_eq_true (List.all_eq_true.1 ha x hx)⟩
     ·cases h
    ·cases h
   ·cases h
  ·cases h
 ·cases h
theorem zpf {aa:List Dat} (hD:zbn aa=true) {t:VT} (ht:za5 aa 0 t=true) {c:Int} {l:List VT} (h:za6 aa t c=some l):∀ x∈l,zaZ aa 0 x=true:=by obtain⟨k,n,ks⟩:=t;obtain⟨rfl,h0,dW,hn,hc,hv,rfl,aF⟩:=zgf h;intro x hx;rw[zaZ,Bool.and_eq_true,decide_eq_true_eq];refine⟨aF x hx,?_⟩;obtain⟨a,ha,rfl⟩:=List.mem_map.1 hx;exact zzJ (zzH ht) hv a (zF1 hD hn hc a ha)
theorem zyR {ks:List VT}:∀ (l:List VT) (i:Nat),zcO l i=true→i+l.length=ks.length→zaP ks l=ks.drop i
 | [],i,_,hl=>by simp at hl;subst hl;simp[zaP]
 | x::l,i,h,hl=>by
  rw[zcO,Bool.and_eq_true]at h;obtain⟨k,n,al⟩:=x;simp only[zhq,Bool.and_eq_true,beq_iff_eq]at h;obtain⟨⟨⟨rfl,rfl⟩,h3⟩,h4⟩:=h;simp at hl;have hi:i<ks.length:=by omega
  rw[List.drop_eq_getElem_cons hi,zaP,zyR l (i+1) h4 (by omega)];rw[subst,if_pos ⟨rfl,by omega,by omega⟩];simp[hi]
theorem zyS {ks:List VT} {d vars:Int} {a:VT} (h:zbS d vars a=true) (hl:(ks.length:Int)=vars):subst ks a=.mk 5 d ks:=by obtain⟨k,n,al⟩:=a;simp only[zbS,Bool.and_eq_true,beq_iff_eq]at h;obtain⟨⟨⟨rfl,rfl⟩,h3⟩,h4⟩:=h;rw[subst,if_neg (λh=>by have:=h.1;omega)];have:=zyR (ks:=ks) al 0 h4 (by omega);rw[this,List.drop_zero]
def zb2 (d:Nat) (D:Dat) (C:Con):List Bool:=C.args.map (zbS d D.vars)
def zbK (aa:List Dat) (d:Nat):List (List Bool):=match aa[d]? with
 | some D=>D.cons.map (zb2 d D)
 | none=>[]
mutual
def zbU (rs:List (List Bool)):VT→List VT
 | .mk k n ks=>.mk k n ks::zb1 rs ks (rs.getD n.toNat [])
def zb1 (rs:List (List Bool)):List VT→List Bool→List VT
 | [],_=>[]
 | v::vs,bs=>match bs with
  | []=>[]
  | b::bs=>(if b=true then zbU rs v else [])++zb1 rs vs bs
end
mutual
theorem zkm (rs:List (List Bool)):∀ v:VT,(zbU rs v).length≤v.nodes
 | .mk k n ks=>by have:=zqN rs ks (rs.getD n.toNat []);simp only[zbU,VT.nodes,List.length_cons];omega
theorem zqN (rs:List (List Bool)):∀ (vs:List VT) (bs:List Bool),(zb1 rs vs bs).length≤VT.nodesL vs
 | [],_=>by simp[zb1,VT.nodesL]
 | v::vs,[]=>by simp[zb1]
 | v::vs,b::bs=>by
  have h1:=zkm rs v;have h2:=zqN rs vs bs;simp only[zb1,VT.nodesL,List.length_append];split
  ·omega
  ·simp;omega
end
theorem zgg {aa:List Dat} {n:Int} {al:List VT} {vk vn:Int} {vks:List VT} (h:zaI aa (.mk vk vn vks) (.mk 5 n al)=true) :
  vk=5∧0≤n∧0≤vn∧vn<8∧∃ (hn:n.toNat<aa.length) (hc:vn.toNat<(aa[n.toNat]).cons.length),vks.length=((aa[n.toNat]).cons[vn.toNat]).args.length∧(al.length:Int)=(aa[n.toNat]).vars ∧
   (zbK aa n.toNat).getD vn.toNat []=zb2 n.toNat aa[n.toNat] (aa[n.toNat]).cons[vn.toNat]∧(zbK aa n.toNat).length=(aa[n.toNat]).cons.length ∧
   ∀ (i:Nat) (hi:i<vks.length) (h2:i<((aa[n.toNat]).cons[vn.toNat]).args.length),zbS n.toNat (aa[n.toNat]).vars ((aa[n.toNat]).cons[vn.toNat]).args[i]=true→zaI aa vks[i] (.mk 5 n al)=true:=by
 simp only[zaI]at h;simp at h;obtain⟨⟨⟨h1,h2⟩,h3⟩,h4⟩:=h;cases hf:za6 aa (.mk 5 n al) vn with
 | none=>rw[hf,zxf]at h4;cases h4
 | some l=>
  rw[hf,zpk]at h4;obtain⟨_,k1,k2,hn,hc,hv,rfl,_⟩:=zgf hf;have aq:=zhn h4;simp at aq;refine⟨h1,k1,h2,h3,hn,hc,aq,hv,?_,?_,?_⟩
  ·simp[zbK,List.getElem?_eq_getElem hn,hc,List.getD_eq_getElem?_getD]
  ·simp[zbK,List.getElem?_eq_getElem hn]
  ·intro i hi lx dv;have:=zhm h4 i hi (by simpa using lx);rw[List.getElem_map,zyS dv (by simpa using hv)]at this;rwa [show ((n.toNat:Nat):Int)=n by omega]at this
def pick:List VT→List Bool→List VT
 | x::l,b::bs=>if b then pick l bs else x::pick l bs
 | _,_=>[]
def za7 (aa:List Dat) (t:VT) (c:Int):Option (List VT):=(za6 aa t c).map λl=>pick l ((zbK aa t.num.toNat).getD c.toNat [])
mutual
def zcq (aa:List Dat):IT→VT→Int × Bool
 | .mk n ks,t=>
  if t.kind=6 then (if n=0 then (if t.kids.length=ks.length then zb0 aa ks t.kids 0 else (0,false)) else (0,false))
  else if t.kind=7 then (n,decide (0≤n) && decide (n≤6) && decide (ks.length=0))
  else if t.kind=5 then (if n=0 then zcP aa ks t 0 else (0,false))
  else (0,decide (n=0) && decide (ks.length=0))
def zb0 (aa:List Dat):List IT→List VT→Int→Int × Bool
 | [],_,a=>(a,decide (a≤6))
 | v::vs,ts,a=>match ts with
  | t::ts=>if (zcq aa v t).2 then zb0 aa vs ts (a+(zcq aa v t).1) else (0,false)
  | []=>(0,false)
def zcP (aa:List Dat):List IT→VT→Int→Int × Bool
 | [],_,a=>(a,true)
 | .mk c ks::es,t,a=>match za7 aa t c with
  | none=>(0,false)
  | some ps=>if ps.length=ks.length then
    (if (zb0 aa ks ps 0).2 && decide (a+(1+(zb0 aa ks ps 0).1)≤6) then zcP aa es t (a+(1+(zb0 aa ks ps 0).1)) else (0,false))
   else (0,false)
end
mutual
def rdV (aa:List Dat):IT→VT→Int
 | .mk n ks,t=>
  if t.kind=6 then (if n=0 then (if t.kids.length=ks.length then rdA aa ks t.kids 0 else -1) else -1)
  else if t.kind=7 then (if 0≤n∧n≤6∧ks.length=0 then n else -1)
  else if t.kind=5 then (if n=0∧ks.length≤6 then rdE aa ks t 0 else -1)
  else (if n=0∧ks.length=0 then 0 else -1)
def rdA (aa:List Dat):List IT→List VT→Int→Int
 | [],_,a=>a
 | v::vs,ts,a=>match ts with
  | t::ts=>if rdV aa v t<0∨a+rdV aa v t>6 then -1 else rdA aa vs ts (a+rdV aa v t)
  | []=>-1
def rdE (aa:List Dat):List IT→VT→Int→Int
 | [],_,a=>a
 | .mk c ks::es,t,a=>if c<0∨8≤c then -1 else match za7 aa t c with
  | none=>-1
  | some ps=>if ps.length=ks.length then
    (if rdA aa ks ps 0<0∨a+1+rdA aa ks ps 0>6 then -1 else rdE aa es t (a+(1+rdA aa ks ps 0)))
   else -1
end
theorem zHA {aa:List Dat} (h8:∀ D∈aa,D.cons.length≤8) {t:VT} {c:Int} {ps:List VT} (h:za7 aa t c=some ps):0≤c∧c<8:=by
 unfold za7 at h;cases hf:za6 aa t c with
 | none=>rw[hf]at h;cases h
 | some l=>obtain⟨_,k1,k2,hn,hc,_⟩:=zgf hf;have:=h8 _ (List.getElem_mem hn);omega
def agr (m:Int × Bool) (r:Int):Prop:=(m.2=true→m.1=r∧0≤r∧r≤6)∧(m.2=false→r=-1)
theorem zeg:agr (0,false) (-1):=⟨λh=>(by cases h),λ_=>rfl⟩
mutual
theorem zg4 {aa:List Dat} (h8:∀ D∈aa,D.cons.length≤8):∀ (v:IT) (t:VT),agr (zcq aa v t) (rdV aa v t)
 | .mk n ks,t=>by
  have hA:=(zi0 h8 ks t.kids 0 (by omega)).1 (by omega);have hE:=zoN h8 ks t 0 (by omega) (by omega);unfold zcq rdV;split
  ·split
   ·split
    ·exact hA
    ·exact zeg
   ·exact zeg
  ·split
   ·refine⟨λh=>?_,λh=>?_⟩
    ·simp at h;rw[if_pos ⟨h.1.1,h.1.2,by simpa using h.2⟩];exact⟨rfl,h.1.1,h.1.2⟩
    ·rw[if_neg];rintro⟨h1,h2,h3⟩;simp[h1,h2,h3]at h
   ·split
    ·by_cases hn:n=0
     ·simp only[hn,if_true,true_and];by_cases hl:ks.length≤6
      ·rw[if_pos hl];exact hE.1
      ·rw[if_neg hl];refine⟨λh=>?_,λ_=>rfl⟩;have:=hE.2 h;omega
     ·simp only[hn,if_false,false_and];exact zeg
    ·refine⟨λh=>?_,λh=>?_⟩
     ·simp at h;simp[h]
     ·rw[if_neg];rintro⟨h1,h2⟩;simp[h1,h2]at h
theorem zi0 {aa:List Dat} (h8:∀ D∈aa,D.cons.length≤8):∀ (vs:List IT) (ts:List VT) (a:Int),0≤a→(a≤6→agr (zb0 aa vs ts a) (rdA aa vs ts a))∧(6<a→(zb0 aa vs ts a).2=false)
 | [],ts,a,ha=>by simp only[zb0,rdA];exact⟨λh=>⟨λ_=>⟨rfl,ha,h⟩,λh2=>by simp at h2;omega⟩,λh=>by simp;omega⟩
 | v::vs,ts,a,ha=>by
  match ts with
  | []=>simp only[zb0,rdA];exact⟨λ_=>zeg,λ_=>by trivial⟩
  | t::ts=>
   obtain⟨g1,g2⟩:=zg4 h8 v t;simp only[zb0,rdA];cases hb:(zcq aa v t).2 with
   | false=>rw[g2 hb];simp;exact λ_=>zeg
   | true=>
    obtain⟨e1,e2,e3⟩:=g1 hb;rw[e1];have hn:=zi0 h8 vs ts (a+rdV aa v t) (by omega);simp only[if_true];refine⟨λh=>?_,λh=>hn.2 (by omega)⟩;by_cases h6:a+rdV aa v t>6
    ·rw[if_pos (.inr h6)];exact⟨λh=>(by rw[hn.2 (by omega)]at h;cases h),λ_=>rfl⟩
    ·rw[if_neg (by omega)];exact hn.1 (by omega)
theorem zoN {aa:List Dat} (h8:∀ D∈aa,D.cons.length≤8):∀ (es:List IT) (t:VT) (a:Int),0≤a→a≤6→agr (zcP aa es t a) (rdE aa es t a)∧((zcP aa es t a).2=true→a+es.length≤6)
 | [],t,a,h0,h6=>by simp only[zcP,rdE];exact⟨⟨λ_=>⟨rfl,h0,h6⟩,λh=>by cases h⟩,λ_=>by simpa using h6⟩
 | .mk c ks::es,t,a,h0,h6=>by
  simp only[zcP,rdE];cases hp:za7 aa t c with
  | none=>simp only[ite_self];exact⟨zeg,λh=>by cases h⟩
  | some ps=>
   obtain⟨c0,c8⟩:=zHA h8 hp;rw[if_neg (show ¬(c<0∨8≤c) by omega)];simp only;by_cases hl:ps.length=ks.length
   ·simp only[hl,if_true];obtain⟨g1,g2⟩:=(zi0 h8 ks ps 0 (by omega)).1 (by omega);cases hb:(zb0 aa ks ps 0).2 with
    | false=>rw[g2 hb];simp;exact zeg
    | true=>
     obtain⟨e1,e2,e3⟩:=g1 hb;rw[e1];by_cases hh:a+(1+rdA aa ks ps 0)≤6
     ·have hn:=zoN h8 es t (a+(1+rdA aa ks ps 0)) (by omega) hh;rw[if_neg (show ¬(rdA aa ks ps 0<0∨a+1+rdA aa ks ps 0>6) by omega)];simp only[hh,decide_true,Bool.and_self,if_true];refine⟨hn.1,λh=>?_⟩;have:=hn.2 h;simp only[List.length_cons];omega
     ·rw[if_pos (show rdA aa ks ps 0<0∨a+1+rdA aa ks ps 0>6 by omega)];simp[hh];exact zeg
   ·simp only[hl,if_false];exact⟨zeg,λh=>by cases h⟩
end
end Go.Proofs.YtdmamdnkcefmmaaGreatDoor
namespace Go.Abs
open Go
def fill:List IT→List Nat→List IT→List IT
 | row,p::ps,x::xs=>fill (row.set p x) ps xs
 | row,_,_=>row
@[simp] theorem yaO (row xs:List IT):fill row [] xs=row:=by cases xs <;> rfl
@[simp] theorem zGl:∀ (row:List IT) (ps:List Nat) (xs:List IT),(fill row ps xs).length=row.length
 | row,p::ps,x::xs=>by rw[fill,zGl];simp
 | row,[],_=>by simp[fill]
 | row,_::_,[]=>by simp[fill]
mutual
theorem IT.same_eq:∀ v w:IT,IT.same v w=true→v=w
 | .mk n ks,.mk n' ks',h=>by simp only[IT.same,Bool.and_eq_true,beq_iff_eq]at h;rw[h.1,IT.sameL_eq ks ks' h.2]
theorem IT.sameL_eq:∀ v w:List IT,IT.sameL v w=true→v=w
 | [],[],_=>rfl
 | v::vs,w::ws,h=>by simp only[IT.sameL,Bool.and_eq_true]at h;rw[IT.same_eq v w h.1,IT.sameL_eq vs ws h.2]
 | [],_::_,h=>by simp[IT.sameL]at h
 | _::_,[],h=>by simp[IT.sameL]at h
end
end Go.Abs
namespace Go.Proofs.YtdmamdnkcefmmaaGreatDoor
open Go Go.Abs
variable {aa:List Dat}
theorem zqR {h8:∀ D∈aa,D.cons.length≤8} (v:IT) (t:VT):-1≤rdV aa v t∧rdV aa v t≤6:=by
 obtain⟨h1,h2⟩:=zg4 h8 v t;cases hb:(zcq aa v t).2 with
 | true=>have:=h1 hb;omega
 | false=>have:=h2 hb;omega
def ad (a r:Int):Int:=if r<0 then -1 else if a+r>6 then -1 else a+r
theorem zfh {a r:Int} (h:0≤r) (h2:a+r≤6):ad a r=a+r:=by unfold ad;rw[if_neg (by omega),if_neg (by omega)]
theorem zc7 {a r:Int} (h:r<0∨a+r>6):ad a r=-1:=by
 unfold ad;by_cases h1:r<0
 ·rw[if_pos h1]
 ·rw[if_neg h1,if_pos (by omega)]
theorem zFp {a b r:Int} (hb:0≤b) (ha:0≤a):ad (a+b) r=ad a (ad b r):=by
 by_cases h1:r<0∨b+r>6
 ·rw[zc7 (a:=b) h1,zc7 (a:=a) (.inl (by omega)),zc7 (by omega)]
 ·rw[zfh (a:=b) (by omega) (by omega)];by_cases h2:a+(b+r)>6
  ·rw[zc7 (.inr h2),zc7 (.inr (by omega))]
  ·rw[zfh (by omega) (by omega),zfh (by omega) (by omega),Int.add_assoc]
theorem zyy (v:IT) (vs:List IT) (t:VT) (ts:List VT) (a:Int):rdA aa (v::vs) (t::ts) a=if rdV aa v t<0∨a+rdV aa v t>6 then -1 else rdA aa vs ts (a+rdV aa v t):=by simp only[rdA]
theorem zev (c:Int) (ks es:List IT) (t:VT) (a:Int):rdE aa (.mk c ks::es) t a=if c<0∨8≤c then -1 else match za7 aa t c with
  | none=>-1
  | some ps=>if ps.length=ks.length then (if rdA aa ks ps 0<0∨a+1+rdA aa ks ps 0>6 then -1 else rdE aa es t (a+(1+rdA aa ks ps 0))) else -1:=by simp only[rdE] <;> rfl
theorem zkq:∀ (es:List IT) (t:VT) (a:Int),0≤a→rdE aa es t a=-1∨a+es.length≤rdE aa es t a
 | [],_,a,h=>by simp[rdE]
 | .mk c ks::es,t,a,h=>by
  rw[zev];by_cases hc:c<0∨8≤c
  ·rw[if_pos hc];exact .inl rfl
  ·rw[if_neg hc];cases za7 aa t c with
   | none=>exact .inl rfl
   | some ps=>
    simp only;by_cases hl:ps.length=ks.length
    ·rw[if_pos hl];by_cases h0:rdA aa ks ps 0<0∨a+1+rdA aa ks ps 0>6
     ·rw[if_pos h0];exact .inl rfl
     ·rw[if_neg h0];rcases zkq es t (a+(1+rdA aa ks ps 0)) (by omega) with h2 | h2
      ·exact .inl h2
      ·right;simp only[List.length_cons];omega
    ·rw[if_neg hl];exact .inl rfl
theorem zko:∀ (es:List IT) (t:VT) (a:Int),0≤a→a≤6→rdE aa es t a=ad a (rdE aa es t 0)
 | [],_,a,h,h6=>by simp only[rdE];rw[zfh (by omega) (by omega),Int.add_zero]
 | .mk c ks::es,t,a,h,h6=>by
  rw[zev,zev];by_cases hc:c<0∨8≤c
  ·rw[if_pos hc,if_pos hc,zc7 (.inl (by omega))]
  ·rw[if_neg hc,if_neg hc];cases za7 aa t c with
   | none=>exact (zc7 (a:=a) (r:=-1) (.inl (by omega))).symm
   | some ps=>
    simp only;by_cases hl:ps.length=ks.length
    ·rw[if_pos hl,if_pos hl];by_cases h0:rdA aa ks ps 0<0∨0+1+rdA aa ks ps 0>6
     ·rw[if_pos h0,if_pos (by omega),zc7 (.inl (by omega))]
     ·rw[if_neg h0,zko es t (0+(1+rdA aa ks ps 0)) (by omega) (by omega),Int.zero_add];have g2:=zkq (aa:=aa) es t 0 (by omega);by_cases h3:a+1+rdA aa ks ps 0>6
      ·rw[if_pos (Or.inr h3)];generalize rdE aa es t 0=r at *;by_cases h4:r<0∨(1+rdA aa ks ps 0)+r>6
       ·rw[zc7 h4,zc7 (.inl (by omega))]
       ·rw[zfh (a:=1+rdA aa ks ps 0) (by omega) (by omega),zc7 (.inr (by omega))]
      ·rw[if_neg (by omega),zko es t _ (by omega) (by omega),zFp (by omega) h]
    ·rw[if_neg hl,if_neg hl,zc7 (.inl (by omega))]
theorem zHN {h8:∀ D∈aa,D.cons.length≤8} (es:List IT) (t:VT):rdE aa es t 0≤6:=by
 have h:=(zoN h8 es t 0 (by omega) (by omega)).1;cases hb:(zcP aa es t 0).2 with
 | true=>have:=h.1 hb;omega
 | false=>have:=h.2 hb;omega
theorem zqP (h8:∀ D∈aa,D.cons.length≤8):∀ (xs ys:List IT) (t:VT) (a:Int),0≤a→a≤6→rdE aa (xs++ys) t a=(if rdE aa xs t a<0 then -1 else rdE aa ys t (rdE aa xs t a))
 | [],ys,t,a,h,_=>by rw[List.nil_append,if_neg (by simp only[rdE];omega)];simp only[rdE]
 | .mk c ks::es,ys,t,a,h,h6=>by
  rw[List.cons_append,zev,zev];by_cases hc:c<0∨8≤c
  ·rw[if_pos hc];simp[hc]
  ·rw[if_neg hc];simp only[if_neg hc];cases za7 aa t c with
   | none=>simp
   | some ps=>
    simp only;by_cases hl:ps.length=ks.length
    ·simp only[if_pos hl];by_cases h0:rdA aa ks ps 0<0∨a+1+rdA aa ks ps 0>6
     ·simp only[if_pos h0];simp
     ·simp only[if_neg h0];exact zqP h8 es ys t _ (by omega) (by omega)
    ·simp only[if_neg hl];simp
end Go.Proofs.YtdmamdnkcefmmaaGreatDoor
namespace Go.Abs
open Go Go.RowKit
variable {P:Program}
end Go.Abs
namespace Go.Proofs.YtdmamdnkcefmmaaGreatDoor
open Go Go.Abs
set_option maxRecDepth 100000
section
variable (t0:AV) (H:zaa) (K:Kt)
def zLK:Nat→List Bool | 300001=>rl false [0,1] | _=>[]
noncomputable def zLL:Code:=Tryz.f130.body.getD .skip
def zsd:Prop:=zg1 true .eql t0 λt4=>zag t4 (K .snil H) (zaw 2 [(.int .i64 0),.snil] 0 [] λt5=>zax zbQ 2 32 t5 t0 H λt7 H=>K t7 H)
variable {t0} {H} {K}
theorem zLM (h:HSc H→zsd t0 H K):ACalls tP zpL [t0] H K:=
 acb zLK Tryz.func130 zLL (by kernel_rfl) (by kernel_rfl) h
end
end Go.Proofs.YtdmamdnkcefmmaaGreatDoor
namespace Go.Proofs.YtdmamdnkcefmmaaGreatDoor
open Go Go.Abs
def RowA (H:zaa) (a:AV) (n:Nat) (ds:List AV):Prop:=
 ds.length=n*2∧ds.all AV.known=true∧((∃ id,a=.ms id 0 n n∧H[id]?=some (.cells ds))∨(0<n∧∃ id e,a=.ov id n∧H[id]?=some (.vec e 2 n ds)))
theorem RowA.app {H J:zaa} {a:AV} {n:Nat} {ds:List AV} (h:RowA H a n ds):RowA (H++J) a n ds:=by
 obtain⟨h1,h2,h3⟩:=h;refine⟨h1,h2,?_⟩;rcases h3 with ⟨id,rfl,h⟩ | ⟨h0,id,e,rfl,h⟩
 ·exact .inl ⟨id,rfl,by rw[List.getElem?_append_left (List.getElem?_eq_some_iff.1 h).1];exact h⟩
 ·exact .inr ⟨h0,id,e,rfl,by rw[List.getElem?_append_left (List.getElem?_eq_some_iff.1 h).1];exact h⟩
end Go.Proofs.YtdmamdnkcefmmaaGreatDoor
namespace Go.Proofs.YtdmamdnkcefmmaaGreatDoor
open Go Go.Abs
set_option maxRecDepth 100000
section
variable (t0 t1 t2 t3 t6 t7 t8 t11 t12 t13:AV) (H:zaa) (K:Kt) (Kb2 Kb3:Lt)
def zMp (_:Nat):List Bool:=[]
noncomputable def zMq:Code:=Tryz.f139.body.getD .skip
def zAU:Prop:=ACalls tP zjA [t0] H λt8 H=>ACalls tP zjA [t1] H λt10 H=>zag t8 (zag t10 (K (.int .i64 0) H) (K (.int .i64 (-1)) H)) (zag t10 (K (.int .i64 1) H) (zac .lss false t0 t1 λt16=>zag t16 (K (.int .i64 (-1)) H) (zac .gtr false t0 t1 λt19=>zag t19 (K (.int .i64 1) H) (K (.int .i64 0) H))))
def zlA:Nat→List Bool | 3=>rl false [3,1,2,3,9] | _=>[]
noncomputable def zsm:Code:=Tryz.f138.body.getD .skip
noncomputable def zMo:List ResultVar:=Tryz.f138.results.toList
def zlC:List AV:=ux 3 (t3::ux 2 (t6::t7::t8::ux 9 []))
def zMm:List Bool:=zlA 3
noncomputable def zMk:Code:=zar [1,1,0,1,0,0] zsm
def zMj:AExit→List AV→zaa→Prop:=zas tP zlA [1,1,0,1,0] zsm (zay tP zMo K)
def zAT:Prop:=ALoop tP zMk (zMj K) (zlC t3 t6 t7 t8) H
def zlB:Prop:=zac .lss false t8 t7 λt9=>zag t9 (zaj 1 t6 t8 λt10=>zae false 1 t10 H λt11=>zac .neq false t11 t3 λt14=>zag t14 (K t11 H) (zac .add false t8 (.int .i64 1) λt16=>Kb3 (zlC t3 t6 t7 t16) H)) (K t3 H)
def zAS:Prop:=zah 1 t0 λt7=>zAT (.int .i64 0) t0 t7 (.int .i64 0) H K
def zPS (_:Nat):List Bool:=[]
noncomputable def zPT:Code:=Tryz.f187.body.getD .skip
def zCd:Prop:=zac .neq false t0 t0 λt5=>K t5 H
def zWA (_:Nat):List Bool:=[]
noncomputable def zWB:Code:=Tryz.f86.body.getD .skip
def zEt:Prop:=zaq t0 H λt2 H=>zaq t1 H λt3 H=>zab H (λK'=>zaf 0 t2 (K' · H)) λt6=>zab H (λK'=>zal false 1 t6 H (K' · H)) λt7=>zab H (λK'=>zaf 0 t3 (K' · H)) λt8=>zab H (λK'=>zal false 1 t8 H (K' · H)) λt9=>zaC H (λH K'=>ACalls tP zjo [t7,t9] H K') λt10=>zab H (λK'=>zaf 1 t2 (K' · H)) λt11=>zab H (λK'=>zal false 1 t11 H (K' · H)) λt12=>zab H (λK'=>zah 1 t12 (K' · H)) λt13=>zab H (λK'=>zaf 1 t3 (K' · H)) λt14=>zab H (λK'=>zal false 1 t14 H (K' · H)) λt15=>zab H (λK'=>zah 1 t15 (K' · H)) λt16=>zaC H (λH K'=>ACalls tP zjo [t13,t16] H K') λt17=>zab H (λK'=>zaw 1 [(.int .i64 0)] 2 [(0,t10),(1,t17)] (K' · H)) λt18=>zaC H (λH K'=>ACalls tP zpQ [t18] H K') λt19=>zab H (λK'=>K' t19 H) λt5=>zac .neq false t5 (.int .i64 0) λt21=>zag t21 (K t5 H) (zaf 1 t2 λt23=>zae false 1 t23 H λt24=>zaf 1 t3 λt25=>zae false 1 t25 H λt26=>ACalls tP zpR [t24,t26,(.fn zgp [])] H λt27 H=>K t27 H)
def zlD:Nat→List Bool | 2=>rl false [0,3,8,3,25] | _=>[]
noncomputable def zso:Code:=Tryz.f140.body.getD .skip
noncomputable def zMx:List ResultVar:=Tryz.f140.results.toList
def zlE:List AV:=t0::t1::t2::ux 8 (t11::t12::t13::ux 25 [])
def zMv:List Bool:=zlD 2
noncomputable def zMt:Code:=zar [1,0,1,0,0] zso
def zMs:AExit→List AV→zaa→Prop:=zas tP zlD [1,0,1,0] zso (zay tP zMx K)
def zAW:Prop:=ALoop tP zMt (zMs K) (zlE t0 t1 t2 t11 t12 t13) H
def zsn:Prop:=zac .lss false t13 t12 λt14=>zag t14 (zaj 2 t11 t13 λt16=>zae true 2 t16 H λt17=>zav [(.int .i64 0),.snil] H λt8 H=>zan 2 t8 t17 H λH=>zah 1 t1 λt20=>zac .geq false t13 t20 λt21=>zag t21 (K (.int .i64 1) H) (zaj 2 t1 t13 λt24=>zae true 2 t24 H λt25=>zav [(.int .i64 0),.snil] H λt9 H=>zan 2 t9 t25 H λH=>zae true 2 t8 H λt27=>zae true 2 t9 H λt28=>aCallV tP t2 [t27,t28] H λt29 H=>zac .neq false t29 (.int .i64 0) λt31=>zag t31 (K t29 H) (zac .add false t13 (.int .i64 1) λt33=>Kb2 (zlE t0 t1 t2 t11 t12 t33) H))) (zah 1 t0 λt35=>zah 1 t1 λt37=>zac .lss false t35 t37 λt38=>zag t38 (K (.int .i64 (-1)) H) (K (.int .i64 0) H))
def zAV:Prop:=zah 1 t0 λt12=>zAW t0 t1 t2 t0 t12 (.int .i64 0) H K
def zJ9 (_:Nat):List Bool:=[]
noncomputable def zKa:Code:=Tryz.f103.body.getD .skip
def zz9:Prop:=zaq t1 H λt4 H=>zae true 3 t4 H λt13=>ACalls tP zjr [t0,t13,t2] H λt15 H=>zaA t15 0 λt16=>zaA t15 1 λt17=>zaA t15 2 λt18=>zaE [t16,t17] (K · H)
variable {t0 t1 t2 t3 t6 t7 t8 t11 t12 t13} {H} {K} {Kb2 Kb3}
theorem zMr (h:HSc H→zAU t0 t1 H K):ACalls tP zjo [t0,t1] H K:=
 acb zMp Tryz.func139 zMq (by kernel_rfl) (by kernel_rfl) h
theorem zMl (Inv:Nat→AV→zaa→Prop) (n:Nat) (h0:HSc H→Inv n t8 H)
  (ac:Rd1 (λt8=>zlC t3 t6 t7 t8) (λt8=>λH Kb3=>zlB t3 t6 t7 t8 H K Kb3) H Inv):zAT t3 t6 t7 t8 H K:=
 lp1 (M:=zlA) zMm t8 (by kernel_rfl) Inv n h0 ac
theorem zMn (h:HSc H→zAS t0 H K):ACalls tP zpQ [t0] H K:=
 acb zlA Tryz.func138 zsm (by kernel_rfl) (by kernel_rfl) h
theorem zPU (h:HSc H→zCd t0 H K):ACalls tP zjA [t0] H K:=
 acb zPS Tryz.func187 zPT (by kernel_rfl) (by kernel_rfl) h
theorem zWC (h:HSc H→zEt t0 t1 H K):ACalls tP zgp [t0,t1] H K:=
 acb zWA Tryz.func86 zWB (by kernel_rfl) (by kernel_rfl) h
theorem zMu (Inv:Nat→AV→zaa→Prop) (n:Nat) (h0:HSc H→Inv n t13 H)
  (ac:Rd1 (λt13=>zlE t0 t1 t2 t11 t12 t13) (λt13=>λH Kb2=>zsn t0 t1 t2 t11 t12 t13 H K Kb2) H Inv):zAW t0 t1 t2 t11 t12 t13 H K:=
 lp1 (M:=zlD) zMv t13 (by kernel_rfl) Inv n h0 ac
theorem zMw (h:HSc H→zAV t0 t1 t2 H K):ACalls tP zpR [t0,t1,t2] H K:=
 acb zlD Tryz.func140 zso (by kernel_rfl) (by kernel_rfl) h
theorem zKb (h:HSc H→zz9 t0 t1 t2 H K):ACalls tP zpE [t0,t1,t2] H K:=
 acb zJ9 Tryz.func103 zKa (by kernel_rfl) (by kernel_rfl) h
end
end Go.Proofs.YtdmamdnkcefmmaaGreatDoor
namespace Go.Proofs.YtdmamdnkcefmmaaGreatDoor
open Go Go.Abs
theorem zdw (v:IT):∃ a b,v.cs=[a,b]∧a.known=true∧b.known=true:=by obtain⟨n,ks⟩:=v;exact⟨_,_,rfl,rfl,rfl⟩
theorem zFK {v:IT} {k:AV→Prop}:zaw 2 [.int .i64 0,.snil] 1 [(0,.agg v.cs)] k=k (.sl [v.cs] .full):=by cases v;exact propext Iff.rfl
theorem zGB {l:List IT} {i:Nat} (h:i<l.length):IT.css (l.take (i+1))=IT.css (l.take i)++[(l[i]).cs]:=by rw[IT.css_map,IT.css_map,List.take_succ_eq_append_getElem h,List.map_append];rfl
mutual
def zdG:VT→IT
 | .mk k _ ks=>.mk 0 (if k=6 then zcH ks else [])
def zcH:List VT→List IT
 | []=>[]
 | t::ts=>zdG t::zcH ts
end
theorem zz3:∀ ts:List VT,zcH ts=ts.map zdG
 | []=>by simp[zcH]
 | t::ts=>by simp[zcH,zz3 ts]
end Go.Proofs.YtdmamdnkcefmmaaGreatDoor
namespace Go.Proofs.YtdmamdnkcefmmaaGreatDoor
open Go Go.Abs
set_option maxRecDepth 100000
section
variable (t0 t1 t2 t4 t5 t7 t8 t53 t54 t55 t56 t57 t58:AV) (H:zaa) (K:Kt) (Kb5 Kb13 Kb15:Lt)
def zXK (_:Nat):List Bool:=[]
noncomputable def zXL:Code:=Tryz.f11.body.getD .skip
def zq9:Prop:=zaq t0 H λt1 H=>zav [(.int .i64 0)] H λt3 H=>zan 1 t3 (.int .i64 40) H λH=>zae true 2 t1 H λt4=>ACalls tP zjQ [t4,t3] H λt5 H=>K t5 H
def zni:Nat→List Bool | 5=>rl false [1,2,2,1,24] | _=>[]
noncomputable def zui:Code:=Tryz.f39.body.getD .skip
noncomputable def zTz:List ResultVar:=Tryz.f39.results.toList
def znj:List AV:=ux 1 (t1::t2::ux 2 (t5::ux 24 []))
def zTx:List Bool:=zni 5
noncomputable def zTv:Code:=zar [1,1,1,0,1,0,0] zui
def zTu:AExit→List AV→zaa→Prop:=zas tP zni [1,1,1,0,1,0] zui (zay tP zTz K)
def zDm:Prop:=ALoop tP zTv (zTu K) (znj t1 t2 t5) H
def zuh:Prop:=zaf 1 t2 λt16=>zae false 1 t16 H λt17=>zah 1 t17 λt18=>zac .lss false t5 t18 λt19=>zag t19 (zaf 1 t2 λt22=>zae false 1 t22 H λt23=>zaj 2 t23 t5 λt25=>zae true 2 t25 H λt26=>ACalls tP zjQ [t26,t1] H λt28 H=>aUn .not t28 λt29=>zag t29 (K (.bool false) H) (zac .add false t5 (.int .i64 1) λt21=>Kb5 (znj t1 t2 t21) H)) (K (.bool true) H)
def zDl:Prop:=zaq t0 H λt2 H=>zaX t1 λt7=>zae false 1 t7 H λt8=>zac .sub false t8 (.int .i64 1) λt9=>zaX t1 λt10=>zan 1 t10 t9 H λH=>zaX t1 λt12=>zae false 1 t12 H λt13=>zac .lss false t13 (.int .i64 0) λt14=>zag t14 (K (.bool false) H) (zDm t1 t2 (.int .i64 0) H K)
def zS8 (_:Nat):List Bool:=[]
noncomputable def zS9:Code:=Tryz.f28.body.getD .skip
def zDa:Prop:=zaq t1 H λt4 H=>zaq t2 H λt5 H=>zae true 3 t4 H λt8=>zae true 2 t5 H λt9=>ACalls tP zqc [t0,t8,t9] H λt10 H=>zac .geq false t10 (.int .i64 0) λt11=>K t11 H
def zTB (_:Nat):List Bool:=[]
noncomputable def zTC:Code:=Tryz.f40.body.getD .skip
def zDn:Prop:=zaq t1 H λt4 H=>zaq t2 H λt5 H=>zae true 3 t4 H λt10=>ACalls tP zqu [t0,t10] H λt11 H=>aUn .not t11 λt12=>zag t12 (K (.int .i64 (-1)) H) (zae true 3 t4 H λt15=>zae true 2 t5 H λt16=>ACalls tP zjY [t0,t15,t16] H λt17 H=>zaA t17 0 λt18=>zaA t17 1 λt19=>aUn .not t19 λt21=>zag t21 (K (.int .i64 (-1)) H) (K t18 H))
def zRR (_:Nat):List Bool:=[]
noncomputable def zRS:Code:=Tryz.f23.body.getD .skip
def zCJ:Prop:=zaq t1 H λt4 H=>zaq t2 H λt5 H=>zae true 3 t4 H λt8=>ACalls tP zjV [t0,t8] H λt9 H=>aUn .not t9 λt10=>zag t10 (K (.int .i64 (-1)) H) (zae true 3 t4 H λt12=>zae true 2 t5 H λt13=>ACalls tP zjX [t0,t12,t13] H λt14 H=>K t14 H)
def zVF (_:Nat):List Bool:=[]
noncomputable def zVG:Code:=Tryz.f73.body.getD .skip
def zEa:Prop:=zaq t1 H λt3 H=>zau [.snil,.snil,.snil,.snil] [(0,1),(1,1),(2,1),(3,1)] [(0,t0)] λt6=>ACalls tP zpH [t6] H λt7 H=>zad t7 true H (λK'=>K' t0 H) λt9 H=>zad t7 true H (λK'=>zae true 3 t3 H (K' · H)) λt10 H=>zad t7 true H (λK'=>ACalls tP zhE [t9,t10,(.int .i64 0)] H K') λt11 H=>zam t7 t11 (.bool false) λt12=>K t12 H
def zn3:Nat→List Bool | 13=>rl false [0,1,3,1,3,1,44,3,42] | _=>[]
noncomputable def zu3:Code:=Tryz.f74.body.getD .skip
noncomputable def zVO:List ResultVar:=Tryz.f74.results.toList
def zn4:List AV:=t0::ux 3 (t4::ux 3 (t8::ux 44 (t53::t54::t55::ux 42 [])))
def zVM:List Bool:=zn3 13
noncomputable def zVK:Code:=zar [1,0,1,0,1,1,1,1,1,0,1,1,0,1,0,0] zu3
def zVJ:AExit→List AV→zaa→Prop:=zas tP zn3 [1,0,1,0,1,1,1,1,1,0,1,1,0,1,0] zu3 (zay tP zVO K)
def zEb:Prop:=ALoop tP zVK (zVJ K) (zn4 t0 t4 t8 t53 t54 t55) H
def zu2:Prop:=zac .lss false t55 t54 λt56=>zag t56 (zaj 2 t53 t55 λt57=>zae true 2 t57 H λt58=>zav [(.int .i64 0),.snil] H λt10 H=>zan 2 t10 t58 H λH=>zae true 3 t4 H λt61=>zaf 0 t10 λt62=>zae false 1 t62 H λt63=>ACalls tP zpI [t0,t61,t63] H λt64 H=>zaA t64 0 λt65=>zaA t64 1 λt66=>aUn .not t66 λt68=>zag t68 (zaE [(.int .i64 0),(.bool false)] (K · H)) (zaf 1 t10 λt72=>zae false 1 t72 H λt73=>ACalls tP zjk [t0,t65,t73] H λt74 H=>zaA t74 0 λt75=>zaA t74 1 λt76=>zac .add false (.int .i64 1) t75 λt79=>zac .add false t8 t79 λt80=>aUn .not t76 λt82=>zad t82 false H (λK'=>K' t80 H) λt84 H=>zad t82 false H (λK'=>zac .gtr false t84 (.int .i64 6) (K' · H)) λt85 H=>zam t82 (.bool true) t85 λt86=>zag t86 (zaE [(.int .i64 0),(.bool false)] (K · H)) (zac .add false t55 (.int .i64 1) λt87=>Kb13 (zn4 t0 t4 t80 t53 t54 t87) H))) (zaE [t8,(.bool true)] (K · H))
def zdI:Prop:=zaq t1 H λt4 H=>zaq t2 H λt5 H=>zaf 0 t4 λt14=>zae false 1 t14 H λt15=>zac .eql false t15 (.int .i64 6) λt17=>zag t17 (zaf 0 t5 λt18=>zae false 1 t18 H λt19=>zac .neq false t19 (.int .i64 0) λt20=>zag t20 (zaE [(.int .i64 0),(.bool false)] (K · H)) (zaf 2 t4 λt22=>zae false 1 t22 H λt23=>zaf 1 t5 λt24=>zae false 1 t24 H λt25=>ACalls tP zjk [t0,t23,t25] H λt26 H=>zaA t26 0 λt27=>zaA t26 1 λt28=>zaE [t27,t28] (K · H))) (zac .eql false t15 (.int .i64 7) λt30=>zag t30 (zab H (λK'=>zaf 0 t5 (K' · H)) λt31=>zab H (λK'=>zal false 1 t31 H (K' · H)) λt32=>zab H (λK'=>zaf 0 t5 (K' · H)) λt33=>zab H (λK'=>zal false 1 t33 H (K' · H)) λt34=>zab H (λK'=>zac .geq false t34 (.int .i64 0) (K' · H)) λt35=>zab H (λK'=>K' t35 H) λt36=>zad t36 true H (λK'=>zab H (λK''=>zaf 0 t5 (K'' · H)) (K' · H)) λt37 H=>zad t36 true H (λK'=>zab H (λK''=>zal false 1 t37 H (K'' · H)) (K' · H)) λt38 H=>zad t36 true H (λK'=>zab H (λK''=>zac .leq false t38 (.int .i64 6) (K'' · H)) (K' · H)) λt39 H=>zab H (λK'=>zam t36 t39 (.bool false) (K' · H)) λt40=>zab H (λK'=>K' t40 H) λt41=>zad t41 true H (λK'=>zab H (λK''=>zaf 1 t5 (K'' · H)) (K' · H)) λt42 H=>zad t41 true H (λK'=>zab H (λK''=>zal false 1 t42 H (K'' · H)) (K' · H)) λt43 H=>zad t41 true H (λK'=>zab H (λK''=>zah 1 t43 (K'' · H)) (K' · H)) λt44 H=>zad t41 true H (λK'=>zab H (λK''=>zac .eql false t44 (.int .i64 0) (K'' · H)) (K' · H)) λt45 H=>zab H (λK'=>zam t41 t45 (.bool false) (K' · H)) λt46=>zab H (λK'=>K' t32 H) λt6=>zab H (λK'=>K' t46 H) λt7=>zaE [t6,t7] (K · H)) (zac .eql false t15 (.int .i64 5) λt48=>zag t48 (zaf 0 t5 λt49=>zae false 1 t49 H λt50=>zac .neq false t50 (.int .i64 0) λt51=>zag t51 (zaE [(.int .i64 0),(.bool false)] (K · H)) (zaf 1 t5 λt52=>zae false 1 t52 H λt53=>zah 1 t53 λt54=>zEb t0 t4 (.int .i64 0) t53 t54 (.int .i64 0) H K)) (zab H (λK'=>zaf 0 t5 (K' · H)) λt89=>zab H (λK'=>zal false 1 t89 H (K' · H)) λt90=>zab H (λK'=>zac .eql false t90 (.int .i64 0) (K' · H)) λt91=>zab H (λK'=>K' t91 H) λt92=>zad t92 true H (λK'=>zab H (λK''=>zaf 1 t5 (K'' · H)) (K' · H)) λt93 H=>zad t92 true H (λK'=>zab H (λK''=>zal false 1 t93 H (K'' · H)) (K' · H)) λt94 H=>zad t92 true H (λK'=>zab H (λK''=>zah 1 t94 (K'' · H)) (K' · H)) λt95 H=>zad t92 true H (λK'=>zab H (λK''=>zac .eql false t95 (.int .i64 0) (K'' · H)) (K' · H)) λt96 H=>zab H (λK'=>zam t92 t96 (.bool false) (K' · H)) λt97=>zab H (λK'=>K' (.int .i64 0) H) λt6=>zab H (λK'=>K' t97 H) λt7=>zaE [t6,t7] (K · H))))
def zUQ (_:Nat):List Bool:=[]
noncomputable def zUR:Code:=Tryz.f53.body.getD .skip
def zDP:Prop:=zaq t1 H λt3 H=>ACalls tP zjT [t0] H λt6 H=>zad t6 true H (λK'=>K' t0 H) λt8 H=>zad t6 true H (λK'=>zae true 3 t3 H (K' · H)) λt9 H=>zad t6 true H (λK'=>ACalls tP zhO [t8,t9,(.int .i64 0)] H K') λt10 H=>zam t6 t10 (.bool false) λt11=>K t11 H
def znV:Nat→List Bool | 15=>rl false [0,1,3,1,2,1,48,3,50] | _=>[]
noncomputable def zuW:Code:=Tryz.f59.body.getD .skip
noncomputable def zVm:List ResultVar:=Tryz.f59.results.toList
def znW:List AV:=t0::ux 3 (t4::ux 2 (t7::ux 48 (t56::t57::t58::ux 50 [])))
def zVk:List Bool:=znV 15
noncomputable def zVi:Code:=zar [1,0,1,0,1,1,1,1,1,0,1,1,0,1,0,0] zuW
def zVh:AExit→List AV→zaa→Prop:=zas tP znV [1,0,1,0,1,1,1,1,1,0,1,1,0,1,0] zuW (zay tP zVm K)
def zD2:Prop:=ALoop tP zVi (zVh K) (znW t0 t4 t7 t56 t57 t58) H
def ziJ:Prop:=zac .lss false t58 t57 λt59=>zag t59 (zaj 2 t56 t58 λt60=>zae true 2 t60 H λt61=>zav [(.int .i64 0),.snil] H λt9 H=>zan 2 t9 t61 H λH=>zaf 0 t9 λt62=>zae false 1 t62 H λt63=>zac .lss false t63 (.int .i64 0) λt64=>zad t64 false H (λK'=>zaf 0 t9 (K' · H)) λt66 H=>zad t64 false H (λK'=>zae false 1 t66 H (K' · H)) λt67 H=>zad t64 false H (λK'=>zac .geq false t67 (.int .i64 8) (K' · H)) λt68 H=>zam t64 (.bool true) t68 λt69=>zag t69 (K (.int .i64 (-1)) H) (zae true 3 t4 H λt72=>zaf 0 t9 λt73=>zae false 1 t73 H λt74=>ACalls tP zjg [t0,t72,t74] H λt75 H=>zaA t75 0 λt76=>zaA t75 1 λt77=>aUn .not t77 λt79=>zag t79 (K (.int .i64 (-1)) H) (zaf 1 t9 λt82=>zae false 1 t82 H λt83=>ACalls tP zjj [t0,t76,t83] H λt84 H=>zac .lss false t84 (.int .i64 0) λt86=>zad t86 false H (λK'=>K' t7 H) λt88 H=>zad t86 false H (λK'=>zac .add false t88 (.int .i64 1) (K' · H)) λt89 H=>zad t86 false H (λK'=>K' t84 H) λt90 H=>zad t86 false H (λK'=>zac .add false t89 t90 (K' · H)) λt91 H=>zad t86 false H (λK'=>zac .gtr false t91 (.int .i64 6) (K' · H)) λt92 H=>zam t86 (.bool true) t92 λt93=>zag t93 (K (.int .i64 (-1)) H) (zac .add false (.int .i64 1) t84 λt96=>zac .add false t7 t96 λt97=>zac .add false t58 (.int .i64 1) λt98=>Kb15 (znW t0 t4 t97 t56 t57 t98) H)))) (K t7 H)
def zdl:Prop:=zaq t1 H λt4 H=>zaq t2 H λt5 H=>zaf 0 t4 λt13=>zae false 1 t13 H λt14=>zac .eql false t14 (.int .i64 6) λt16=>zag t16 (zaf 0 t5 λt17=>zae false 1 t17 H λt18=>zac .neq false t18 (.int .i64 0) λt19=>zag t19 (K (.int .i64 (-1)) H) (zaf 2 t4 λt21=>zae false 1 t21 H λt22=>zaf 1 t5 λt23=>zae false 1 t23 H λt24=>ACalls tP zjj [t0,t22,t24] H λt25 H=>K t25 H)) (zac .eql false t14 (.int .i64 7) λt27=>zag t27 (zaf 0 t5 λt28=>zae false 1 t28 H λt29=>zac .lss false t29 (.int .i64 0) λt30=>zad t30 false H (λK'=>zaf 0 t5 (K' · H)) λt32 H=>zad t30 false H (λK'=>zae false 1 t32 H (K' · H)) λt33 H=>zad t30 false H (λK'=>zac .gtr false t33 (.int .i64 6) (K' · H)) λt34 H=>zam t30 (.bool true) t34 λt35=>zad t35 false H (λK'=>zaf 1 t5 (K' · H)) λt37 H=>zad t35 false H (λK'=>zae false 1 t37 H (K' · H)) λt38 H=>zad t35 false H (λK'=>zah 1 t38 (K' · H)) λt39 H=>zad t35 false H (λK'=>zac .gtr false t39 (.int .i64 0) (K' · H)) λt40 H=>zam t35 (.bool true) t40 λt41=>zag t41 (K (.int .i64 (-1)) H) (zaf 0 t5 λt42=>zae false 1 t42 H λt43=>K t43 H)) (zac .eql false t14 (.int .i64 5) λt45=>zag t45 (zaf 0 t5 λt46=>zae false 1 t46 H λt47=>zac .neq false t47 (.int .i64 0) λt48=>zad t48 false H (λK'=>zaf 1 t5 (K' · H)) λt50 H=>zad t48 false H (λK'=>zae false 1 t50 H (K' · H)) λt51 H=>zad t48 false H (λK'=>zah 1 t51 (K' · H)) λt52 H=>zad t48 false H (λK'=>zac .gtr false t52 (.int .i64 6) (K' · H)) λt53 H=>zam t48 (.bool true) t53 λt54=>zag t54 (K (.int .i64 (-1)) H) (zaf 1 t5 λt55=>zae false 1 t55 H λt56=>zah 1 t56 λt57=>zD2 t0 t4 (.int .i64 0) t56 t57 (.int .i64 0) H K)) (zaf 0 t5 λt100=>zae false 1 t100 H λt101=>zac .neq false t101 (.int .i64 0) λt102=>zad t102 false H (λK'=>zaf 1 t5 (K' · H)) λt104 H=>zad t102 false H (λK'=>zae false 1 t104 H (K' · H)) λt105 H=>zad t102 false H (λK'=>zah 1 t105 (K' · H)) λt106 H=>zad t102 false H (λK'=>zac .gtr false t106 (.int .i64 0) (K' · H)) λt107 H=>zam t102 (.bool true) t107 λt108=>zag t108 (K (.int .i64 (-1)) H) (K (.int .i64 0) H))))
variable {t0 t1 t2 t4 t5 t7 t8 t53 t54 t55 t56 t57 t58} {H} {K} {Kb5 Kb13 Kb15}
theorem zXM (h:HSc H→zq9 t0 H K):ACalls tP zj4 [t0] H K:=
 acb zXK Tryz.func11 zXL (by kernel_rfl) (by kernel_rfl) h
theorem zTw (Inv:Nat→AV→zaa→Prop) (n:Nat) (h0:HSc H→Inv n t5 H)
  (ac:Rd1 (λt5=>znj t1 t2 t5) (λt5=>λH Kb5=>zuh t1 t2 t5 H K Kb5) H Inv):zDm t1 t2 t5 H K:=
 lp1 (M:=zni) zTx t5 (by kernel_rfl) Inv n h0 ac
theorem zTy (h:HSc H→zDl t0 t1 H K):ACalls tP zjQ [t0,t1] H K:=
 acb zni Tryz.func39 zui (by kernel_rfl) (by kernel_rfl) h
theorem zTa (h:HSc H→zDa t0 t1 t2 H K):ACalls tP zjP [t0,t1,t2] H K:=
 acb zS8 Tryz.func28 zS9 (by kernel_rfl) (by kernel_rfl) h
theorem zTD (h:HSc H→zDn t0 t1 t2 H K):ACalls tP zhN [t0,t1,t2] H K:=
 acb zTB Tryz.func40 zTC (by kernel_rfl) (by kernel_rfl) h
theorem zRT (h:HSc H→zCJ t0 t1 t2 H K):ACalls tP zqc [t0,t1,t2] H K:=
 acb zRR Tryz.func23 zRS (by kernel_rfl) (by kernel_rfl) h
theorem zVH (h:HSc H→zEa t0 t1 H K):ACalls tP zqu [t0,t1] H K:=
 acb zVF Tryz.func73 zVG (by kernel_rfl) (by kernel_rfl) h
theorem zVL (Inv:Nat→AV→AV→zaa→Prop) (n:Nat) (h0:HSc H→Inv n t8 t55 H)
  (ac:Rd2 (λt8=>λt55=>zn4 t0 t4 t8 t53 t54 t55) (λt8=>λt55=>λH Kb13=>zu2 t0 t4 t8 t53 t54 t55 H K Kb13) H Inv):zEb t0 t4 t8 t53 t54 t55 H K:=
 lp2 (M:=zn3) zVM t8 t55 (by kernel_rfl) Inv n h0 ac
theorem zVN (h:HSc H→zdI t0 t1 t2 H K):ACalls tP zjY [t0,t1,t2] H K:=
 acb zn3 Tryz.func74 zu3 (by kernel_rfl) (by kernel_rfl) h
theorem zUS (h:HSc H→zDP t0 t1 H K):ACalls tP zjV [t0,t1] H K:=
 acb zUQ Tryz.func53 zUR (by kernel_rfl) (by kernel_rfl) h
theorem zVj (Inv:Nat→AV→AV→zaa→Prop) (n:Nat) (h0:HSc H→Inv n t7 t58 H)
  (ac:Rd2 (λt7=>λt58=>znW t0 t4 t7 t56 t57 t58) (λt7=>λt58=>λH Kb15=>ziJ t0 t4 t7 t56 t57 t58 H K Kb15) H Inv):zD2 t0 t4 t7 t56 t57 t58 H K:=
 lp2 (M:=znV) zVk t7 t58 (by kernel_rfl) Inv n h0 ac
theorem zVl (h:HSc H→zdl t0 t1 t2 H K):ACalls tP zjX [t0,t1,t2] H K:=
 acb znV Tryz.func59 zuW (by kernel_rfl) (by kernel_rfl) h
end
section
variable (t0 t1 t2 t7 t8 t10 t11 t12 t13 t16 t17 t18 t19 t20 t26 t27 t28 t29 t30 t33 t34 t35:AV) (H:zaa) (K:Kt) (Kb5 Kb6 Kb7:Lt)
def zlj:Nat→List Bool | 5=>rl false [0,1,1,1,5,1,9,3,23] | _=>[]
noncomputable def zsa:Code:=Tryz.f124.body.getD .skip
noncomputable def zLv:List ResultVar:=Tryz.f124.results.toList
def zlk:List AV:=t0::ux 1 (t2::ux 5 (t8::ux 9 (t18::t19::t20::ux 23 [])))
def zLt:List Bool:=zlj 5
noncomputable def zLr:Code:=zar [1,1,1,0,1,0,0] zsa
def zLq:AExit→List AV→zaa→Prop:=zas tP zlj [1,1,1,0,1,0] zsa (zay tP zLv K)
def zAA:Prop:=ALoop tP zLr (zLq K) (zlk t0 t2 t8 t18 t19 t20) H
def zr9:Prop:=zac .lss false t20 t19 λt21=>zag t21 (zaj 3 t18 t20 λt23=>zae true 3 t23 H λt24=>zav [(.int .i64 0),(.int .i64 0),.snil] H λt10 H=>zan 3 t10 t24 H λH=>zab H (λK'=>K' t0 H) λt26=>zab H (λK'=>zal true 3 t10 H (K' · H)) λt27=>zab H (λK'=>K' t2 H) λt28=>zab H (λK'=>K' t20 H) λt29=>zab H (λK'=>zaj 2 t28 t29 (K' · H)) λt30=>zab H (λK'=>zal true 2 t30 H (K' · H)) λt31=>zaC H (λH K'=>ACalls tP zjY [t26,t27,t31] H K') λt32=>zab H (λK'=>K' t32 H) λt25=>zab H (λK'=>zaA t25 0 (K' · H)) λt33=>zab H (λK'=>zaA t25 1 (K' · H)) λt34=>zab H (λK'=>K' t33 H) λt11=>zab H (λK'=>K' t34 H) λt12=>aUn .not t12 λt36=>zag t36 (zaE [(.int .i64 0),(.bool false)] (K · H)) (zac .add false t8 t11 λt39=>zac .add false t20 (.int .i64 1) λt40=>Kb5 (zlk t0 t2 t39 t18 t19 t40) H)) (zac .leq false t8 (.int .i64 6) λt43=>zaE [t8,t43] (K · H))
def zr8:Prop:=zah 1 t1 λt14=>zah 1 t2 λt16=>zac .neq false t14 t16 λt17=>zag t17 (zaE [(.int .i64 0),(.bool false)] (K · H)) (zah 1 t1 λt19=>zAA t0 t2 (.int .i64 0) t1 t19 (.int .i64 0) H K)
def zll:Nat→List Bool | 6=>rl false [8,1,1,1,15,3,15] | _=>[]
noncomputable def zsc:Code:=Tryz.f125.body.getD .skip
noncomputable def zLB:List ResultVar:=Tryz.f125.results.toList
def zlm:List AV:=ux 8 (t8::ux 1 (t10::ux 15 (t26::t27::t28::ux 15 [])))
def zLz:List Bool:=zll 6
noncomputable def zLx:Code:=zar [1,1,1,1,0,1,0,0] zsc
def zLw:AExit→List AV→zaa→Prop:=zas tP zll [1,1,1,1,0,1,0] zsc (zay tP zLB K)
def zlo:Prop:=ALoop tP zLx (zLw K) (zlm t8 t10 t26 t27 t28) H
def zAD (t8 t10 t26 t27 t28:AV) (H:zaa) (K:Kt) (Kb6:Lt):Prop:=zac .add false t28 (.int .i64 1) λt42=>Kb6 (zlm t8 t10 t26 t27 t42) H
def zln:Prop:=zAD t8 t10 t26 t27 t28 H K Kb6
def zsb:Prop:=zac .lss false t28 t27 λt29=>zag t29 (zaj 1 t26 t28 λt31=>zae false 1 t31 H λt32=>aUn .not t32 λt34=>zag t34 (zaj 3 t8 t28 λt38=>zae true 3 t38 H λt39=>zaw 3 [(.int .i64 0),(.int .i64 0),.snil] 1 [(0,t39)] λt40=>zax za1 3 40 t10 t40 H λt41 H=>zln t8 t41 t26 t27 t28 H K Kb6) (zln t8 t10 t26 t27 t28 H K Kb6)) (zaE [t10,(.bool true)] (K · H))
def zAC:Prop:=zaq t1 H λt4 H=>zae true 3 t4 H λt15=>ACalls tP zjw [t0,t15,t2] H λt17 H=>zaA t17 0 λt18=>zaA t17 1 λt19=>aUn .not t19 λt21=>zag t21 (zaE [.snil,(.bool false)] (K · H)) (zaf 1 t4 λt23=>zae false 1 t23 H λt24=>ACalls tP zfw [t0,t24,t2] H λt26 H=>zah 1 t26 λt27=>zlo t18 .snil t26 t27 (.int .i64 0) H K)
def zkS:Nat→List Bool | 7=>rl false [8,1,4,1,19,3,12] | _=>[]
noncomputable def zrN:Code:=Tryz.f102.body.getD .skip
noncomputable def zJ8:List ResultVar:=Tryz.f102.results.toList
def zkT:List AV:=ux 8 (t8::ux 4 (t13::ux 19 (t33::t34::t35::ux 12 [])))
def zJ6:List Bool:=zkS 7
noncomputable def zJ4:Code:=zar [1,1,1,1,1,0,1,0,0] zrN
def zJ3:AExit→List AV→zaa→Prop:=zas tP zkS [1,1,1,1,1,0,1,0] zrN (zay tP zJ8 K)
def zkU:Prop:=ALoop tP zJ4 (zJ3 K) (zkT t8 t13 t33 t34 t35) H
def zrM:Prop:=zac .lss false t35 t34 λt36=>zag t36 (zaj 1 t33 t35 λt37=>zae false 1 t37 H λt38=>zaj 3 t8 t38 λt42=>zae true 3 t42 H λt43=>zaw 3 [(.int .i64 0),(.int .i64 0),.snil] 1 [(0,t43)] λt44=>zax za1 3 40 t13 t44 H λt45 H=>zac .add false t35 (.int .i64 1) λt46=>Kb7 (zkT t8 t45 t33 t34 t46) H) (zaE [t13,(.bool true)] (K · H))
def zz7:Prop:=zaq t1 H λt4 H=>zae true 3 t4 H λt18=>ACalls tP zhW [t0,t18,t2] H λt20 H=>zaA t20 0 λt21=>zaA t20 1 λt22=>aUn .not t22 λt24=>zag t24 (zaE [.snil,(.bool false)] (K · H)) (zae true 3 t4 H λt27=>ACalls tP zjr [t0,t27,t2] H λt29 H=>zaA t29 0 λt30=>zaA t29 1 λt31=>zaA t29 2 λt32=>zah 1 t30 λt34=>zkU t21 .snil t30 t34 (.int .i64 0) H K)
def zlS:Nat→List Bool | 6=>rl false [11,2,15,3,16] | _=>[]
noncomputable def zsF:Code:=Tryz.f149.body.getD .skip
noncomputable def zNk:List ResultVar:=Tryz.f149.results.toList
def zlU:List AV:=ux 11 (t11::t12::ux 15 (t28::t29::t30::ux 16 []))
def zNi:List Bool:=zlS 6
noncomputable def zNg:Code:=zar [1,1,1,0,1,0,0] zsF
def zNf:AExit→List AV→zaa→Prop:=zas tP zlS [1,1,1,0,1,0] zsF (zay tP zNk K)
def zlW:Prop:=ALoop tP zNg (zNf K) (zlU t11 t12 t28 t29 t30) H
def zA5 (t11 t12 t28 t29 t30:AV) (H:zaa) (K:Kt) (Kb6:Lt):Prop:=zac .add false t30 (.int .i64 1) λt44=>Kb6 (zlU t11 t12 t28 t29 t44) H
def zlV:Prop:=zA5 t11 t12 t28 t29 t30 H K Kb6
def zlT:Prop:=zac .lss false t30 t29 λt31=>zag t31 (zaj 1 t28 t30 λt33=>zae false 1 t33 H λt34=>zag t34 (zaw 1 [(.int .i64 0)] 1 [(0,t30)] λt38=>zax zcM 1 8 t12 t38 H λt39 H=>zlV t11 t39 t28 t29 t30 H K Kb6) (zaw 1 [(.int .i64 0)] 1 [(0,t30)] λt42=>zax zcM 1 8 t11 t42 H λt43 H=>zlV t43 t12 t28 t29 t30 H K Kb6)) (zaE [t11,t12,(.bool true)] (K · H))
def zA4:Prop:=zaq t1 H λt4 H=>zae true 3 t4 H λt17=>ACalls tP zhW [t0,t17,t2] H λt19 H=>zaA t19 0 λt20=>zaA t19 1 λt21=>aUn .not t21 λt23=>zag t23 (zaE [.snil,.snil,(.bool false)] (K · H)) (zaf 1 t4 λt25=>zae false 1 t25 H λt26=>ACalls tP zeX [t0,t26,t2] H λt28 H=>zah 1 t28 λt29=>zlW .snil .snil t28 t29 (.int .i64 0) H K)
def zlf:Nat→List Bool | 5=>rl false [0,3,4,1,8,2,25] | _=>[]
noncomputable def zr1:Code:=Tryz.f111.body.getD .skip
noncomputable def zK1:List ResultVar:=Tryz.f111.results.toList
def zlg:List AV:=t0::t1::t2::ux 4 (t7::ux 8 (t16::t17::ux 25 []))
def zKZ:List Bool:=zlf 5
noncomputable def zKX:Code:=zar [1,1,1,0,1,0,0] zr1
def zKW:AExit→List AV→zaa→Prop:=zas tP zlf [1,1,1,0,1,0] zr1 (zay tP zK1 K)
def zAn:Prop:=ALoop tP zKX (zKW K) (zlg t0 t1 t2 t7 t16 t17) H
def zr0:Prop:=zac .lss false t17 t16 λt18=>zag t18 (zab H (λK'=>K' t0 H) λt20=>zab H (λK'=>K' t1 H) λt21=>zab H (λK'=>K' t17 H) λt22=>zab H (λK'=>zaj 3 t21 t22 (K' · H)) λt23=>zab H (λK'=>zal true 3 t23 H (K' · H)) λt24=>zab H (λK'=>K' t2 H) λt25=>zab H (λK'=>K' t17 H) λt26=>zab H (λK'=>zaj 2 t25 t26 (K' · H)) λt27=>zab H (λK'=>zal true 2 t27 H (K' · H)) λt28=>zaC H (λH K'=>ACalls tP zjX [t20,t24,t28] H K') λt29=>zab H (λK'=>K' t29 H) λt9=>zac .lss false t9 (.int .i64 0) λt31=>zad t31 false H (λK'=>K' t7 H) λt33 H=>zad t31 false H (λK'=>K' t9 H) λt34 H=>zad t31 false H (λK'=>zac .add false t33 t34 (K' · H)) λt35 H=>zad t31 false H (λK'=>zac .gtr false t35 (.int .i64 6) (K' · H)) λt36 H=>zam t31 (.bool true) t36 λt37=>zag t37 (K (.int .i64 (-1)) H) (zac .add false t7 t9 λt40=>zac .add false t17 (.int .i64 1) λt41=>Kb5 (zlg t0 t1 t2 t40 t16 t41) H)) (K t7 H)
def zrZ:Prop:=zah 1 t1 λt11=>zah 1 t2 λt13=>zac .neq false t11 t13 λt14=>zag t14 (K (.int .i64 (-1)) H) (zah 1 t1 λt16=>zAn t0 t1 t2 (.int .i64 0) t16 (.int .i64 0) H K)
variable {t0 t1 t2 t7 t8 t10 t11 t12 t13 t16 t17 t18 t19 t20 t26 t27 t28 t29 t30 t33 t34 t35} {H} {K} {Kb5 Kb6 Kb7}
theorem zLs (Inv:Nat→AV→AV→zaa→Prop) (n:Nat) (h0:HSc H→Inv n t8 t20 H)
  (ac:Rd2 (λt8=>λt20=>zlk t0 t2 t8 t18 t19 t20) (λt8=>λt20=>λH Kb5=>zr9 t0 t2 t8 t18 t19 t20 H K Kb5) H Inv):zAA t0 t2 t8 t18 t19 t20 H K:=
 lp2 (M:=zlj) zLt t8 t20 (by kernel_rfl) Inv n h0 ac
theorem zLu (h:HSc H→zr8 t0 t1 t2 H K):ACalls tP zjk [t0,t1,t2] H K:=
 acb zlj Tryz.func124 zsa (by kernel_rfl) (by kernel_rfl) h
theorem zLy (Inv:Nat→AV→AV→zaa→Prop) (n:Nat) (h0:HSc H→Inv n t10 t28 H)
  (ac:Rd2 (λt10=>λt28=>zlm t8 t10 t26 t27 t28) (λt10=>λt28=>λH Kb6=>zsb t8 t10 t26 t27 t28 H K Kb6) H Inv):zlo t8 t10 t26 t27 t28 H K:=
 lp2 (M:=zll) zLz t10 t28 (by kernel_rfl) Inv n h0 ac
theorem zLA (h:HSc H→zAC t0 t1 t2 H K):ACalls tP zpI [t0,t1,t2] H K:=
 acb zll Tryz.func125 zsc (by kernel_rfl) (by kernel_rfl) h
theorem zJ5 (Inv:Nat→AV→AV→zaa→Prop) (n:Nat) (h0:HSc H→Inv n t13 t35 H)
  (ac:Rd2 (λt13=>λt35=>zkT t8 t13 t33 t34 t35) (λt13=>λt35=>λH Kb7=>zrM t8 t13 t33 t34 t35 H K Kb7) H Inv):zkU t8 t13 t33 t34 t35 H K:=
 lp2 (M:=zkS) zJ6 t13 t35 (by kernel_rfl) Inv n h0 ac
theorem zJ7 (h:HSc H→zz7 t0 t1 t2 H K):ACalls tP zjg [t0,t1,t2] H K:=
 acb zkS Tryz.func102 zrN (by kernel_rfl) (by kernel_rfl) h
theorem zNh (Inv:Nat→AV→AV→AV→zaa→Prop) (n:Nat) (h0:HSc H→Inv n t11 t12 t30 H)
  (ac:Rd3 (λt11=>λt12=>λt30=>zlU t11 t12 t28 t29 t30) (λt11=>λt12=>λt30=>λH Kb6=>zlT t11 t12 t28 t29 t30 H K Kb6) H Inv):zlW t11 t12 t28 t29 t30 H K:=
 lp3 (M:=zlS) zNi t11 t12 t30 (by kernel_rfl) Inv n h0 ac
theorem zNj (h:HSc H→zA4 t0 t1 t2 H K):ACalls tP zjr [t0,t1,t2] H K:=
 acb zlS Tryz.func149 zsF (by kernel_rfl) (by kernel_rfl) h
theorem zKY (Inv:Nat→AV→AV→zaa→Prop) (n:Nat) (h0:HSc H→Inv n t7 t17 H)
  (ac:Rd2 (λt7=>λt17=>zlg t0 t1 t2 t7 t16 t17) (λt7=>λt17=>λH Kb5=>zr0 t0 t1 t2 t7 t16 t17 H K Kb5) H Inv):zAn t0 t1 t2 t7 t16 t17 H K:=
 lp2 (M:=zlf) zKZ t7 t17 (by kernel_rfl) Inv n h0 ac
theorem zK0 (h:HSc H→zrZ t0 t1 t2 H K):ACalls tP zjj [t0,t1,t2] H K:=
 acb zlf Tryz.func111 zr1 (by kernel_rfl) (by kernel_rfl) h
end
end Go.Proofs.YtdmamdnkcefmmaaGreatDoor
section


end
namespace Go.Proofs.YtdmamdnkcefmmaaGreatDoor
open Go Go.Abs
set_option maxRecDepth 100000
section
variable (t0 t1 t2 t7 t40 t41 t42:AV) (H:zaa) (K:Kt) (Kb5:Lt)
def zmO:Nat→List Bool | 5=>rl false [0,2,5,1,32,3,16] | _=>[]
noncomputable def ztz:Code:=Tryz.f196.body.getD .skip
noncomputable def zQL:List ResultVar:=Tryz.f196.results.toList
def zmP:List AV:=t0::t1::ux 5 (t7::ux 32 (t40::t41::t42::ux 16 []))
def zQJ:List Bool:=zmO 5
noncomputable def zQH:Code:=zar [1,1,1,0,1,0,0] ztz
def zQG:AExit→List AV→zaa→Prop:=zas tP zmO [1,1,1,0,1,0] ztz (zay tP zQL K)
def zmQ:Prop:=ALoop tP zQH (zQG K) (zmP t0 t1 t7 t40 t41 t42) H
def zty:Prop:=zac .lss false t42 t41 λt43=>zag t43 (zaj 3 t40 t42 λt44=>zae true 3 t44 H λt45=>zav [(.int .i64 0),(.int .i64 0),.snil] H λt9 H=>zan 3 t9 t45 H λH=>zab H (λK'=>K' t7 H) λt46=>zab H (λK'=>zal true 3 t9 H (K' · H)) λt47=>zab H (λK'=>K' t1 H) λt48=>zab H (λK'=>K' t0 H) λt49=>zab H (λK'=>K' t1 H) λt50=>zab H (λK'=>zaj 3 t49 t50 (K' · H)) λt51=>zab H (λK'=>zaf 1 t51 (K' · H)) λt52=>zab H (λK'=>zal false 1 t52 H (K' · H)) λt53=>zaC H (λH K'=>ACalls tP zj6 [t47,t48,t53] H K') λt54=>zab H (λK'=>zaw 1 [(.bool false)] 1 [(0,t54)] (K' · H)) λt55=>zax zge 1 1 t46 t55 H λt56 H=>zab H (λK'=>K' t56 H) λt7=>zac .add false t42 (.int .i64 1) λt57=>Kb5 (zmP t0 t1 t7 t40 t41 t57) H) (K t7 H)
def zCr:Prop:=zac .lss false t1 (.int .i64 0) λt11=>zad t11 false H (λK'=>K' t1 H) λt13 H=>zad t11 false H (λK'=>K' t0 H) λt14 H=>zad t11 false H (λK'=>zah 1 t14 (K' · H)) λt15 H=>zad t11 false H (λK'=>zac .geq false t13 t15 (K' · H)) λt16 H=>zam t11 (.bool true) t16 λt17=>zad t17 false H (λK'=>K' t2 H) λt19 H=>zad t17 false H (λK'=>zac .lss false t19 (.int .i64 0) (K' · H)) λt20 H=>zam t17 (.bool true) t20 λt21=>zad t21 false H (λK'=>K' t2 H) λt23 H=>zad t21 false H (λK'=>K' t0 H) λt24 H=>zad t21 false H (λK'=>K' t1 H) λt25 H=>zad t21 false H (λK'=>zaj 3 t24 t25 (K' · H)) λt26 H=>zad t21 false H (λK'=>zaf 2 t26 (K' · H)) λt27 H=>zad t21 false H (λK'=>zae false 1 t27 H (K' · H)) λt28 H=>zad t21 false H (λK'=>zah 1 t28 (K' · H)) λt29 H=>zad t21 false H (λK'=>zac .geq false t23 t29 (K' · H)) λt30 H=>zam t21 (.bool true) t30 λt31=>zag t31 (K .snil H) (zaj 3 t0 t1 λt34=>zaf 2 t34 λt35=>zae false 1 t35 H λt36=>zaj 2 t36 t2 λt38=>zaf 1 t38 λt39=>zae false 1 t39 H λt40=>zah 1 t40 λt41=>zmQ t0 t1 .snil t40 t41 (.int .i64 0) H K)
variable {t0 t1 t2 t7 t40 t41 t42} {H} {K} {Kb5}
theorem zQI (Inv:Nat→AV→AV→zaa→Prop) (n:Nat) (h0:HSc H→Inv n t7 t42 H)
  (ac:Rd2 (λt7=>λt42=>zmP t0 t1 t7 t40 t41 t42) (λt7=>λt42=>λH Kb5=>zty t0 t1 t7 t40 t41 t42 H K Kb5) H Inv):zmQ t0 t1 t7 t40 t41 t42 H K:=
 lp2 (M:=zmO) zQJ t7 t42 (by kernel_rfl) Inv n h0 ac
theorem zQK (h:HSc H→zCr t0 t1 t2 H K):ACalls tP zeX [t0,t1,t2] H K:=
 acb zmO Tryz.func196 ztz (by kernel_rfl) (by kernel_rfl) h
end
end Go.Proofs.YtdmamdnkcefmmaaGreatDoor
section


end
namespace Go.Proofs.YtdmamdnkcefmmaaGreatDoor
open Go Go.Abs
def zbH (l:List Bool):List (List AV):=l.map λb=>[.bool b]
theorem ztA (aa:List Dat) (d:Nat) (c:Nat) (hd:d<aa.length) (hc:c<(aa[d]).cons.length) (hl:aa.length≤1000000) (bQ:(aa[d]).cons.length≤1000000) (eH:((aa[d]).cons[c]).args.length≤1000000)
  (hb:∀ x∈((aa[d]).cons[c]).args,x.nodes≤1000000) (H:zaa) (K:Kt)
  (hK:K (.sl (zbH (zb2 d aa[d] (aa[d]).cons[c])) .none) H) :
  ACalls tP zeX [.sl (aa.map Dat.cs) .none,.int .i64 d,.int .i64 c] H K:=by
 refine ACalls.out (zQK λhs=>?_);have e1:(aa.map Dat.cs)[d]?=some (aa[d]).cs:=by simp[hd]
 have e2:((aa[d]).cons.map Con.cs)[c]?=some ((aa[d]).cons[c]).cs:=by simp[hc]
 generalize hD:aa[d]=D at *;generalize hA:D.cons[c]=C at *;have h1:¬ (d:Int)<0:=by omega
 have h2:¬ (aa.length:Int)≤d:=by omega
 have h3:¬ (c:Int)<0:=by omega
 have h4:¬ (D.cons.length:Int)≤c:=by omega
 simp[zCr,h1,h2,h3,h4,e1,e2,Dat.cs,Con.cs,hd,hD,hc,hA];unfold zmQ;refine ALoop.own 7 zge 1 rfl ?_;show zmQ (.sl (aa.map Dat.cs) .none) (.int .i64 d) (.sl [] (.own H.length)) (.sl (VT.css C.args) .none) (.int .i64 C.args.length) (.int .i64 0) (H++[.perm zge 1 0]) (Out H.length K);have aI:∀ n,HSc (H++[.perm zge 1 n]):=λn=>hs.append rfl;refine zQI (Inv:=λq t7 t42 H'=>∃ i:Nat,i≤C.args.length∧q=C.args.length-i∧t42=.int .i64 i∧t7=.sl (zbH ((zb2 d D C).take i)) (.own H.length)∧H'=H++[.perm zge 1 i]) C.args.length ?_ ?_
 ·intro _;exact⟨0,by omega,by omega,rfl,rfl,rfl⟩
 ·rintro q t7 t42 H' ⟨i,hi,rfl,rfl,rfl,rfl⟩ hsc aq aO Kb aw;have dP:(zb2 d D C).length=C.args.length:=by simp[zb2]
  by_cases ap:i<C.args.length
  ·obtain⟨x,y,z,aB,hx,hy,hz⟩:=za2 C.args[i];have ga:=hb _ (List.getElem_mem ap);simp[zty,ap,aB,Nat.add_assoc,e1,hd,hD,Dat.cs];rw[←aB];refine⟨⟨hx,hy,hz⟩,?_⟩;refine zaB (.bool (zbS d D.vars C.args[i])) (λJ=>zvE _ _ _ ga _ _ ⟨rfl,rfl⟩) ?_;simp[zaw,zaT,plain,AV.pd,zax,zaN,zaK,zbH];have dH:min i (zb2 d D C).length=i:=by omega
   rw[dH];refine⟨rfl,⟨by omega,by omega⟩,?_⟩;rw[zat (by omega) (by omega)];have aT:List.take i (List.map (λb=>[AV.bool b]) (zb2 d D C))++[[AV.bool (zbS (↑d) D.vars C.args[i])]]=zbH ((zb2 d D C).take (i+1)):=by rw[List.take_succ_eq_append_getElem (by omega)];simp[zbH,zb2]
   rw[aT];refine aw _ _ ⟨C.args.length-(i+1),by omega,Back.at (J:=[.cells C.args[i].cs]) (H2:=H++[.perm zge 1 (i+1)]) (by simp) (by simp) (aI _) ?_ ⟨_,_,rfl,i+1,by omega,rfl,by simp,rfl,rfl⟩⟩;simp[zmP,AV.sc,AV.scV,AV.scA,AV.scB]
  ·obtain rfl:i=C.args.length:=by omega
   rw[List.take_of_length_le (by omega)];simp[zty];exact Out.at rfl (Nat.le_refl _) hs (.atom (.sl _ _)) rfl (by simp[zbH,AV.scV,AV.scA,AV.scB]) hK
end Go.Proofs.YtdmamdnkcefmmaaGreatDoor
