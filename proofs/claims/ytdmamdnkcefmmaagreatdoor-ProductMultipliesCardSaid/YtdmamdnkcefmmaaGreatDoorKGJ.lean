import Derived.Test.YtdmamdnkcefmmaaGreatDoorKGT
import Derived.Test.YtdmamdnkcefmmaaGreatDoorAbsQ1
import Derived.Test.YtdmamdnkcefmmaaGreatDoorKNum
import Derived.Test.YtdmamdnkcefmmaaGreatDoorProg
import Derived.KernelRfl
import Derived.Test.YtdmamdnkcefmmaaGreatDoorIT
import Derived.Test.YtdmamdnkcefmmaaGreatDoorAbsL
set_option linter.unusedSimpArgs false
set_option linter.unusedVariables false
set_option maxRecDepth 100000
namespace Go.Proofs.YtdmamdnkcefmmaaGreatDoor
def kwds:List (List UInt8):=[[97,114,114,97,121],[98,111,111,108],[99,97,116,99,104],[100,97,116,97],[101,108,115,101],[101,110,100],[102,97,108,115,101],[102,110],[102,117,110],[103,101,116],[105,102],[105,110],[105,110,116],[108,101,110],[108,101,116],[109,97,116,99,104],[110,101,119],[114,97,105,115,101],[114,101,97,100],[114,101,102],[115,101,116],[116,104,101,110],[116,105,99,107],[116,114,117,101],[116,114,121],[117,110,105,116],[119,105,116,104],[119,114,105,116,101]]
def kwF (ws:List (List UInt8)) (s:List UInt8):Bool:=ws.any (s == ·)
theorem zc2 {H:zaa} {K:AV→zaa→Prop} {r:AV} (hsc:HSc H) (hv:r.isV=true) (hr:r.scV H.length=true) (h:K r H):Out H.length K r H:=by have:=Out.same (J:=[]) rfl hsc hv hr h;simpa using this
theorem zcC (b c:UInt8):((b.toNat:Int) == (c.toNat:Int))=(b == c):=by
 rw[Bool.eq_iff_iff];simp only[beq_iff_eq];constructor
 ·intro h;exact UInt8.toNat_inj.mp (by omega)
 ·rintro rfl;rfl
theorem zxY (b:UInt8) (H:zaa) (K:AV→zaa→Prop) (hK:K (.bool (zb3 b)) H):ACalls tP zjK [.int .u8 b.toNat] H K:=by refine ACalls.out (zQm λhs=>?_);have hO:=zc2 (K:=K) (H:=H) (r:=.bool (zb3 b)) hs rfl rfl hK;unfold zb3 at hO;cases h1:decide (97≤(b.toNat:Int)) <;> simp[zCC,h1] <;> simpa[h1]using hO
theorem zkP (b:UInt8) (H:zaa) (K:AV→zaa→Prop) (hK:K (.bool (bUp b)) H):ACalls tP zgr [.int .u8 b.toNat] H K:=by refine ACalls.out (zQp λhs=>?_);have hO:=zc2 (K:=K) (H:=H) (r:=.bool (bUp b)) hs rfl rfl hK;unfold bUp at hO;cases h1:decide (65≤(b.toNat:Int)) <;> simp[zCD,h1] <;> simpa[h1]using hO
theorem zpx (b:UInt8) (H:zaa) (K:AV→zaa→Prop) (hK:K (.bool (za2 b)) H):ACalls tP zhP [.int .u8 b.toNat] H K:=by refine ACalls.out (zQs λhs=>?_);have hO:=zc2 (K:=K) (H:=H) (r:=.bool (za2 b)) hs rfl rfl hK;unfold za2 at hO;cases h1:decide (48≤(b.toNat:Int)) <;> simp[zCE,h1] <;> simpa[h1]using hO
theorem zpX (b:UInt8) (H:zaa) (K:AV→zaa→Prop) (hK:K (.bool (zb3 b)) H):ACalls tP zjX [.int .u8 b.toNat] H K:=by refine ACalls.out (zSO λhs=>?_);have hO:=zc2 (K:=K) (H:=H) (r:=.bool (zb3 b)) hs rfl rfl hK;unfold zb3 at hO;cases h1:decide (97≤(b.toNat:Int)) <;> simp[zDn,h1] <;> simpa[h1]using hO
theorem zkQ (b:UInt8) (H:zaa) (K:AV→zaa→Prop) (hK:K (.bool (bUp b)) H):ACalls tP zhT [.int .u8 b.toNat] H K:=by refine ACalls.out (zSR λhs=>?_);have hO:=zc2 (K:=K) (H:=H) (r:=.bool (bUp b)) hs rfl rfl hK;unfold bUp at hO;cases h1:decide (65≤(b.toNat:Int)) <;> simp[zDo,h1] <;> simpa[h1]using hO
theorem zpy (b:UInt8) (H:zaa) (K:AV→zaa→Prop) (hK:K (.bool (za2 b)) H):ACalls tP zfA [.int .u8 b.toNat] H K:=by refine ACalls.out (zS6 λhs=>?_);have hO:=zc2 (K:=K) (H:=H) (r:=.bool (za2 b)) hs rfl rfl hK;unfold za2 at hO;cases h1:decide (48≤(b.toNat:Int)) <;> simp[zDt,h1] <;> simpa[h1]using hO
theorem zGa (b:UInt8) (H:zaa) (K:AV→zaa→Prop) (hK:K (.bool (zdu b)) H):ACalls tP zqJ [.int .u8 b.toNat] H K:=by refine ACalls.out (zSF λhs=>?_);have hO:=zc2 (K:=K) (H:=H) (r:=.bool (zdu b)) hs rfl rfl hK;unfold zdu at hO;have e1:((b.toNat:Int) == 9)=(b == 9):=zcC b 9;have e2:((b.toNat:Int) == 10)=(b == 10):=zcC b 10;have e3:((b.toNat:Int) == 13)=(b == 13):=zcC b 13;have e4:((b.toNat:Int) == 32)=(b == 32):=zcC b 32;cases h1:(b == 9) <;> cases h2:(b == 10) <;> cases h3:(b == 13) <;> simp[zDk,e1,e2,e3,e4,h1,h2,h3] <;> simpa[h1,h2,h3]using hO
theorem zKb (b:UInt8) (H:zaa) (K:AV→zaa→Prop) (hK:K (.bool (bIn b)) H):ACalls tP zhU [.int .u8 b.toNat] H K:=by
 refine ACalls.out (zS0 λhs=>?_);have hO:=zc2 (K:=K) (H:=H) (r:=.bool (bIn b)) hs rfl rfl hK;unfold bIn at hO;have e1:((b.toNat:Int) == 95)=(b == 95):=zcC b 95;unfold zDr;refine zpX b _ _ ?_;cases h1:zb3 b with
 | true=>simp;simpa[h1]using hO
 | false=>
  simp;refine zkQ b _ _ ?_;cases h2:bUp b with
  | true=>simp;simpa[h1,h2]using hO
  | false=>
   simp;refine zpy b _ _ ?_;cases h3:za2 b with
   | true=>simp;simpa[h1,h2,h3]using hO
   | false=>simp[e1];simpa[h1,h2,h3]using hO
theorem zHd (s:List UInt8) (H:zaa) (K:AV→zaa→Prop) (hK:K (.bool (kwF kwds s)) H):ACalls tP zqL [.str s] H K:=by
 refine ACalls.out (zS3 λhs=>?_);have hO:=zc2 (K:=K) (H:=H) (r:=.bool (kwF kwds s)) hs rfl rfl hK;have step:∀ (w:List UInt8) (ws:List (List UInt8)) (rest:Prop),(Out H.length K (.bool (kwF ws s)) H→rest)→Out H.length K (.bool (kwF (w::ws) s)) H →
   zac .eql false (.str s) (.str w) λt=>zag t (zbt t H (Out H.length K)) rest:=by
  intro w ws rest h h';simp only[kwF,List.any_cons]at h h';cases e:(s == w) with
  | true=>simpa[zbt,e]using h'
  | false=>rw[e,Bool.false_or]at h';simpa[zbt,e]using h h'
 unfold zDs
 revert hO
 unfold kwds
 iterate 27 refine step _ _ _ ?_
 intro h';simp only[kwF,List.any_cons,List.any_nil,Bool.or_false]at h';cases e:(s == [119,114,105,116,101]) <;> rw[e]at h' <;> simpa[zbt,e]using h'
theorem zHe (s:List UInt8) (H:zaa) (K:AV→zaa→Prop) (hK:K (.bool (kwF kwds s)) H):ACalls tP zjL [.str s] H K:=by
 refine ACalls.out (zQx λhs=>?_);have hO:=zc2 (K:=K) (H:=H) (r:=.bool (kwF kwds s)) hs rfl rfl hK;have e:zCF (.str s) H (Out H.length K)=ztJ (.str s) (.sl (kwds.map λw=>[.str w]) .full) (.int .i64 0) H (Out H.length K):=rfl;rw[e];have am:kwds.length=28:=rfl;generalize kwds=ws at *;refine zQv (Inv:=λq t4 H'=>∃ i:Nat,i≤ws.length∧q=ws.length-i∧t4=.int .i64 i∧kwF (ws.drop i) s=kwF ws s∧H'=H) ws.length ?_ ?_
 ·intro _;exact⟨0,by omega,by omega,rfl,by simp,rfl⟩
 ·rintro q t8 H' ⟨i,hi,rfl,rfl,ho,rfl⟩ hsc _ aM Kb au;by_cases ak:i<ws.length
  ·rw[List.drop_eq_getElem_cons ak]at ho;simp only[kwF,List.any_cons]at ho;cases hz:(ws[i] == s) with
   | true=>
    have g7:(s == ws[i])=true:=by rw[beq_iff_eq]at hz ⊢;exact hz.symm
    rw[g7,Bool.true_or]at ho;simp[zmL,ak,hz];unfold kwF at hO;rw[←ho]at hO;exact hO
   | false=>
    have g7:(s == ws[i])=false:=by rw[beq_eq_false_iff_ne]at hz ⊢;exact λh=>hz h.symm
    rw[g7,Bool.false_or]at ho;simp[zmL,ak,hz];rw[zaw (by omega) (by omega)];refine au _ _ ⟨ws.length-(i+1),by omega,Back.here (Nat.le_refl _) hs ?_ ⟨_,rfl,i+1,by omega,rfl,by simp,ho,rfl⟩⟩;simp[zmM,AV.sc,AV.scV,AV.scA,AV.scB]
  ·simp[zmL,ak];obtain rfl:i=ws.length:=by omega
   rw[List.drop_length]at ho;rw[←ho]at hO;exact hO
theorem zwP {b:UInt8} (h:za2 b=true):48≤(b.toNat:Int)∧(b.toNat:Int)≤57:=by simpa[za2]using h
theorem zIW (s:List UInt8) (hd:∀ b∈s,za2 b=true) (hl:s.length≤1000000) (H:zaa) (K:AV→zaa→Prop) (hK:K (.bool (zch s 0)) H):ACalls tP zhV [.str s] H K:=by
 refine ACalls.out (zTb λhs=>?_);have hO:=zc2 (K:=K) (H:=H) (r:=.bool (zch s 0)) hs rfl rfl hK;simp[zDu];refine zS9 (Inv:=λq t3 t7 H'=>∃ (i:Nat) (n:Int),i≤s.length∧q=s.length-i∧t7=.int .i64 i∧t3=.int .i64 n∧0≤n∧n≤1000000∧zch (s.drop i) n=zch s 0∧H'=H) s.length ?_ ?_
 ·intro _;exact⟨0,0,by omega,by omega,rfl,rfl,by omega,by omega,by simp,rfl⟩
 ·rintro q t3 t7 H' ⟨i,n,hi,rfl,rfl,rfl,fm,ek,ho,rfl⟩ hsc _ aM Kb au;by_cases ak:i<s.length
  ·have hb:=zwP (hd s[i] (List.getElem_mem ak));rw[List.drop_eq_getElem_cons ak,zch]at ho;simp[zup,ak];rw[IntWalk.u8_in _ (by omega),zaw (n:=n*10) (by omega) (by omega),zaw (n:=(s[i].toNat:Int)-48) (by omega) (by omega),zaw (by omega) (by omega),zaw (by omega) (by omega)];by_cases hg:1000000<n*10+((s[i].toNat:Int)-48)
   ·rw[if_pos hg]at ho;have ff:decide (1000000<n*10+((s[i].toNat:Int)-48))=true:=by simpa using hg
    rw[←ho]at hO;rw[ff];simpa using hO
   ·rw[if_neg hg]at ho;have ff:decide (1000000<n*10+((s[i].toNat:Int)-48))=false:=by simpa using hg
    rw[ff];simp only[zwr,Bool.false_eq_true,if_false];refine au _ _ ⟨s.length-(i+1),by omega,Back.here (Nat.le_refl _) hs ?_ ⟨_,_,rfl,i+1,_,by omega,rfl,by simp,rfl,by omega,by omega,ho,rfl⟩⟩;simp[znk,AV.sc,AV.scV,AV.scA,AV.scB]
  ·simp[zup,ak];obtain rfl:i=s.length:=by omega
   rw[List.drop_length,zch]at ho;rw[←ho]at hO;exact hO
theorem zyU (cl:UInt8→Bool) (f:FuncId) (bP:zel tP f=true) (hf:∀ (b:UInt8) (H:zaa) (K:AV→zaa→Prop),K (.bool (cl b)) H→ACalls tP f [.int .u8 b.toNat] H K)
  (s:List UInt8) (hl:s.length≤1000000) (H:zaa) (K:AV→zaa→Prop) (hK:K (.str (s.takeWhile cl)) H):ACalls tP zjY [.str s,.fn f []] H K:=by
 refine ACalls.out (zSW λhs=>?_);have hO:=zc2 (K:=K) (H:=H) (r:=.str (s.takeWhile cl)) hs rfl rfl hK;simp[zDp];refine zSU (Inv:=λq t5 H'=>∃ i:Nat,i≤s.length∧q=s.length-i∧t5=.int .i64 i∧s.take i++(s.drop i).takeWhile cl=s.takeWhile cl∧H'=H) s.length ?_ ?_
 ·intro _;exact⟨0,by omega,by omega,rfl,by simp,rfl⟩
 ·rintro q t5 H' ⟨i,hi,rfl,rfl,ho,rfl⟩ hsc _ aM Kb au;by_cases ak:i<s.length
  ·rw[List.drop_eq_getElem_cons ak,List.takeWhile_cons]at ho;simp[zun,ak];simp only[aCallV,bP,List.append_nil];refine hf _ _ _ ?_;cases hc:cl s[i] with
   | true=>rw[hc,if_pos rfl,List.append_cons,←List.take_succ_eq_append_getElem ak]at ho;simp;rw[zaw (by omega) (by omega)];refine au _ _ ⟨s.length-(i+1),by omega,Back.here (Nat.le_refl _) hs ?_ ⟨_,rfl,i+1,by omega,rfl,by simp,ho,rfl⟩⟩;simp[zni,AV.sc,AV.scV,AV.scA,AV.scB]
   | false=>rw[hc,if_neg (by simp),List.append_nil]at ho;rw[←ho]at hO;simp[hi];exact hO
  ·simp[zun,ak];obtain rfl:i=s.length:=by omega
   rw[List.drop_length,List.takeWhile_nil,List.append_nil,List.take_length]at ho;rw[←ho]at hO;simpa using hO
theorem zJ4 (s:List UInt8) (hd:∀ b∈s,za2 b=true) (hl:s.length≤1000000) (H:zaa) (K:AV→zaa→Prop) (hK:∀ n,K (.tup [.int .i64 n,.bool (zch s 0)]) H):ACalls tP zgs [.str s] H K:=by
 refine ACalls.out (zQD λhs=>?_);have hO:∀ n,Out H.length K (.tup [.int .i64 n,.bool (zch s 0)]) H:=λn=>Out.tup0 hs (hK n) ⟨zaY rfl rfl,zaY rfl rfl,trivial⟩;simp only[zCH];refine zQB (Inv:=λq t3 t7 H'=>∃ (i:Nat) (n:Int),i≤s.length∧q=s.length-i∧t7=.int .i64 i∧t3=.int .i64 n∧0≤n∧n≤1000000∧zch (s.drop i) n=zch s 0∧H'=H) s.length ?_ ?_
 ·intro _;exact⟨0,0,by omega,by omega,rfl,rfl,by omega,by omega,by simp,rfl⟩
 ·rintro q t3 t7 H' ⟨i,n,hi,rfl,rfl,rfl,fm,ek,ho,rfl⟩ hsc _ aM Kb au;by_cases ak:i<s.length
  ·have hb:=zwP (hd s[i] (List.getElem_mem ak));rw[List.drop_eq_getElem_cons ak,zch]at ho;simp[ztK,ak];rw[IntWalk.u8_in _ (by omega),zaw (n:=n*10) (by omega) (by omega),zaw (n:=(s[i].toNat:Int)-48) (by omega) (by omega),zaw (by omega) (by omega),zaw (by omega) (by omega)];by_cases hg:1000000<n*10+((s[i].toNat:Int)-48)
   ·rw[if_pos hg]at ho;have ff:decide (1000000<n*10+((s[i].toNat:Int)-48))=true:=by simpa using hg
    rw[←ho]at hO;rw[ff];simpa[AV.isV]using hO 0
   ·rw[if_neg hg]at ho;have ff:decide (1000000<n*10+((s[i].toNat:Int)-48))=false:=by simpa using hg
    rw[ff];simp only[zwr,Bool.false_eq_true,if_false];refine au _ _ ⟨s.length-(i+1),by omega,Back.here (Nat.le_refl _) hs ?_ ⟨_,_,rfl,i+1,_,by omega,rfl,by simp,rfl,by omega,by omega,ho,rfl⟩⟩;simp[zmO,AV.sc,AV.scV,AV.scA,AV.scB]
  ·simp[ztK,ak,AV.isV];obtain rfl:i=s.length:=by omega
   rw[List.drop_length,zch]at ho;rw[←ho]at hO;exact hO n
theorem zJP (b:UInt8) (r:List UInt8):(b::r).take 1=[b]:=by simp
theorem zrx {s:List UInt8} (h:¬ 2≤s.length):zdD s=false:=by
 match s,h with
 | [],_=>rfl
 | [b],_=>simp[zdD]
 | _::_::_,h=>simp at h
theorem zzo (b:UInt8) (r:List UInt8) (h:zdD (b::r)=false):sgn (b::r)=if sgns.contains b=true then 1 else 0:=by simp[sgn,h]
theorem zIL (b:UInt8) (r:List UInt8) (H:zaa) (K:AV→zaa→Prop) (hK:K (.str ((b::r).take (sgn (b::r)))) H):ACalls tP zqM [.str (b::r)] H K:=by
 refine ACalls.out (zTf λhs=>?_);have hO:=zc2 (K:=K) (H:=H) (r:=.str ((b::r).take (sgn (b::r)))) hs rfl rfl hK;have one:zdD (b::r)=false→znl (.str (b::r)) H (Out H.length K):=by
  intro h2;rw[zzo b r h2]at hO;have hO:Out H.length K (.str (if sgns.contains b=true then [b] else [])) H:=by cases hc:sgns.contains b <;> rw[hc]at hO <;> simpa using hO
  have step:∀ (c:UInt8) (cs:List UInt8) (rest:Prop),(Out H.length K (.str (if cs.contains b=true then [b] else [])) H→rest)→Out H.length K (.str (if (c::cs).contains b=true then [b] else [])) H →
    zac .eql false (.str [b]) (.str [c]) λt=>zag t (zcD (.str (b::r)) t H (Out H.length K)) rest:=by
   intro c cs rest h h';rw[List.contains_cons]at h';cases e:(b == c) with
   | true=>rw[e]at h';simpa[zcD,e]using h'
   | false=>rw[e,Bool.false_or]at h';simpa[zcD,e]using h h'
  unfold znl;simp only[zFJ,zFC,zFB,Int.toNat_one,zJP,List.drop_zero];refine⟨by decide,⟨by omega,by simp⟩,?_⟩
  revert hO
  unfold sgns
  iterate 12 refine step _ _ _ ?_
  intro h';rw[List.contains_cons]at h';cases e:(b == 95) <;> rw[e]at h' <;> simpa[zcD,e]using h'
 by_cases hl:2≤(b::r).length
 ·have cC:(2:Int)≤r.length+1:=by simp only[List.length_cons]at hl;omega
  have eW:1≤r.length:=by simp only[List.length_cons]at hl;omega
  cases h2:zdD (b::r) with
  | true=>
   have h3:sgn (b::r)=2:=by simp[sgn,h2]
   rw[h3]at hO;unfold zdD at h2;simp only[List.take_succ_cons]at h2 hO;cases e1:(b::List.take 1 r == [45,62]) with
   | true=>simpa[zg3,cC,eW,zfY,e1]using hO
   | false=>
    cases e2:(b::List.take 1 r == [60,61]) with
    | true=>simpa[zg3,cC,eW,zfY,e1,e2]using hO
    | false=>rw[e1,e2]at h2;simp only[Bool.false_or]at h2;simpa[zg3,cC,eW,zfY,e1,e2,h2]using hO
  | false=>have ho:=one h2;unfold zdD at h2;simp only[List.take_succ_cons]at h2;rw[Bool.or_eq_false_iff,Bool.or_eq_false_iff]at h2;simpa[zg3,cC,eW,zfY,h2.1.1,h2.1.2,h2.2]using ho
 ·have ho:=one (zrx hl);have:¬ ((2:Int)≤r.length+1):=by simp only[List.length_cons]at hl;omega
  simpa[zg3,this]using ho
theorem zIK (b:UInt8) (r:List UInt8) (H:zaa) (K:AV→zaa→Prop) (hK:K (.int .i64 (sgn (b::r))) H):ACalls tP zqA [.str (b::r)] H K:=by
 refine ACalls.out (zQJ λhs=>?_);have hO:=zc2 (K:=K) (H:=H) (r:=.int .i64 (sgn (b::r))) hs rfl rfl hK;have one:zdD (b::r)=false→ztN (.str (b::r)) (.str sgns) (.int .i64 0) H (Out H.length K):=by
  intro h2;rw[zzo b r h2]at hO;have am:sgns.length=13:=rfl;generalize sgns=ws at *;refine zQH (Inv:=λq t4 H'=>∃ i:Nat,i≤ws.length∧q=ws.length-i∧t4=.int .i64 i∧(ws.drop i).contains b=ws.contains b∧H'=H) ws.length ?_ ?_
  ·intro _;exact⟨0,by omega,by omega,rfl,by simp,rfl⟩
  ·rintro q t8 H' ⟨i,hi,rfl,rfl,ho,rfl⟩ hsc _ aM Kb au;by_cases ak:i<ws.length
   ·rw[List.drop_eq_getElem_cons ak,List.contains_cons]at ho;have e1:=zcC b ws[i];cases hz:(b == ws[i]) with
    | true=>rw[hz,Bool.true_or]at ho;rw[←ho]at hO;simpa[zmQ,ak,e1,hz]using hO
    | false=>rw[hz,Bool.false_or]at ho;simp[zmQ,ak,e1,hz];rw[zaw (by omega) (by omega)];refine au _ _ ⟨ws.length-(i+1),by omega,Back.here (Nat.le_refl _) hs ?_ ⟨_,rfl,i+1,by omega,rfl,by simp,ho,rfl⟩⟩;simp[zmR,AV.sc,AV.scV,AV.scA,AV.scB]
   ·obtain rfl:i=ws.length:=by omega
    rw[List.drop_length]at ho;rw[←ho]at hO;simpa[zmQ,ak]using hO
 by_cases hl:2≤(b::r).length
 ·have cC:(2:Int)≤r.length+1:=by simp only[List.length_cons]at hl;omega
  have eW:1≤r.length:=by simp only[List.length_cons]at hl;omega
  cases h2:zdD (b::r) with
  | true=>
   have h3:sgn (b::r)=2:=by simp[sgn,h2]
   rw[h3]at hO;unfold zdD at h2;simp only[List.take_succ_cons]at h2 hO;cases e1:(b::List.take 1 r == [45,62]) with
   | true=>simpa[zgY,cC,eW,e1]using hO
   | false=>
    cases e2:(b::List.take 1 r == [60,61]) with
    | true=>simpa[zgY,cC,eW,e1,e2]using hO
    | false=>rw[e1,e2]at h2;simp only[Bool.false_or]at h2;simpa[zgY,cC,eW,e1,e2,h2]using hO
  | false=>have ho:=one h2;unfold sgns at ho;unfold zdD at h2;simp only[List.take_succ_cons]at h2;rw[Bool.or_eq_false_iff,Bool.or_eq_false_iff]at h2;simpa[zgY,cC,eW,h2.1.1,h2.1.2,h2.2]using ho
 ·have ho:=one (zrx hl);unfold sgns at ho;have:¬ ((2:Int)≤r.length+1):=by simp only[List.length_cons]at hl;omega
  simpa[zgY,this]using ho

def Tk.cs (t:Tk):List AV:=[.int .i64 t.kind,.str t.text,.int .i64 t.pos]
def zkA (kw:List UInt8→Bool) (b:UInt8) (r:List UInt8) (i:Nat):AV:=
 match tok kw b r with
 | .error e=>.tup [.agg [.int .i64 0,.str [],.int .i64 0],.int .i64 e]
 | .ok (k,n)=>.tup [.agg (Tk.cs ⟨k,(b::r).take n,i⟩),.int .i64 0]
theorem zkJ {p:UInt8→Bool} (b:UInt8) (r:List UInt8):(b::r).take ((r.takeWhile p).length+1)=b::r.takeWhile p:=by
 rw[List.take_succ_cons];congr 1;induction r with
 | nil=>simp
 | cons c r ih=>by_cases h:p c=true <;> simp[h,ih]
theorem zHf:zel tP zhU=true:=by kernel_rfl
theorem zHg:zel tP zfA=true:=by kernel_rfl
theorem zyF {H J:zaa} {K:AV→zaa→Prop} {k p e:Int} {t:List UInt8} (hs:HSc H) (h:K (.tup [.agg [.int .i64 k,.str t,.int .i64 p],.int .i64 e]) H) :
  Out H.length K (.tup [.agg [.int .i64 k,.str t,.int .i64 p],.int .i64 e]) (H++J):=Out.tup hs h ⟨zaY rfl rfl,zaY rfl rfl,trivial⟩
def zng (t4 t6:AV) (H:zaa) (K:AV→zaa→Prop):Prop:=
 zaf 1 t6 λt69=>
 zae false 1 t69 H λt70=>
 ACalls tP zhV [t70] H λt71 H=>
 aUn .not t71 λt72=>
 zag t72
 (zaq [(.int .i64 0),(.str []),(.int .i64 0)] [(0,1),(1,1),(2,1)] [] λt73=>
 zao 3 t4 t73 H λH=>
 zae true 3 t4 H λr0=>
 zaF [r0,(.int .i64 9)] (K · H))
 (zg2 t4 t6 H K)
theorem zIC (s:List UInt8) (hl:s.length≤1000000) (i:Nat) (hi:i<s.length) (H:zaa) (K:AV→zaa→Prop) (hK:K (zkA (kwF kwds) s[i] (s.drop (i+1)) i) H):ACalls tP zqK [.str s,.int .i64 i] H K:=by
 refine ACalls.out (zSI λhs=>?_);have bF:=List.drop_eq_getElem_cons hi;have fk:(s.drop i).length≤1000000:=by simp;omega
 generalize hb:s[i]=b at *;generalize hr:s.drop (i+1)=r at *;have km:s[i]?.getD 0=b:=by simp[hi,hb]
 have post:∀ (k:Int) (n:Nat),tok (kwF kwds) b r=.ok (k,n)→∀ t,(b::r).take n=t→zg2 (.ptr H.length 0) (.ptr (H.length+1) 0) (H++[.cells [.int .i64 0,.str [],.int .i64 0],.cells [.int .i64 k,.str t,.int .i64 i]]) (Out H.length K):=by intro k n ht t l4;subst l4;simp[zkA,ht,Tk.cs]at hK;simp[zg2,zDl,AV.known,AV.isV];exact zyF hs hK
 have bad:∀ e:Int,tok (kwF kwds) b r=.error e→∀ J,Out H.length K (.tup [.agg [.int .i64 0,.str [],.int .i64 0],.int .i64 e]) (H++J):=by intro e ht J;simp[zkA,ht]at hK;exact zyF hs hK
 have da:=Nat.le_of_lt hi;by_cases cy:(zb3 b || bUp b)=true
 ·have jW:bIn b=true:=by simp[bIn,cy]
  simp[zum,hi,hb,da,zaq,zaI,AV.known];refine zpX b _ _ ?_;have hc:zb3 b=true∨(zb3 b=false∧bUp b=true):=by cases hL:zb3 b <;> simp[hL]at cy ⊢;exact cy
  have bM:=λk=>post k ((r.takeWhile bIn).length+1);simp only[tok,cy,if_true,zkJ]at bM;rcases hc with hL | ⟨hL,hU⟩
  case' inl=>simp[hL]
  case' inr=>simp[hL];refine zkQ b _ _ ?_;simp[hU]
  all_goals
   rw[bF];refine zyU bIn zhU zHf zKb (b::r) (by rw[←bF];exact fk) _ _ ?_;simp[jW,AV.known];by_cases hn:(r.takeWhile bIn).length+1>24
   ·have bT:(24:Int)<(r.takeWhile bIn).length+1:=by omega
    have:=bad 9 (by simp only[tok,cy,if_true];rw[if_pos hn]);simp[bT,AV.known,AV.isV];exact this _
   ·have bT:¬ (24:Int)<(r.takeWhile bIn).length+1:=by omega
    simp[bT];refine zkQ b _ _ ?_;rw[if_neg hn]at bM;cases hU:bUp b with
    | true=>simp[AV.known,zg1];exact bM 2 (by simp[hU]) _ rfl
    | false=>
     simp[AV.known];refine zHd _ _ _ ?_;cases ko:kwF kwds (b::r.takeWhile bIn) with
     | true=>simp[AV.known,zg1];exact bM 4 (by simp[hU,ko]) _ rfl
     | false=>simp[AV.known,zg1];exact bM 1 (by simp[hU,ko]) _ rfl
 ·have hL:zb3 b=false:=by simp at cy;exact cy.1
  have hU:bUp b=false:=by simp at cy;exact cy.2
  simp[zum,hi,hb,zaq,zaI,AV.known];refine zpX b _ _ ?_;simp[hL];refine zkQ b _ _ ?_;simp[hU];refine zpy b _ _ ?_;cases hD:za2 b with
  | true=>
   simp[da,AV.known];rw[bF];refine zyU za2 zfA zHg zpy (b::r) (by rw[←bF];exact fk) _ _ ?_;have e1:((b.toNat:Int) == 48)=(b == 48):=zcC b 48;have bk:tok (kwF kwds) b r=if (b == 48 && decide ((r.takeWhile za2).length+1>1))=true then .error 2 else if zch (b::r.takeWhile za2) 0=true then .ok (3,(r.takeWhile za2).length+1) else .error 9:=by simp only[tok,cy,hD,if_true,zkJ];rfl
   have fL:∀ J,ACalls tP zhV [.str (b::r.takeWhile za2)] (H++J) λt H'=>t=.bool (zch (b::r.takeWhile za2) 0)∧H'=H++J:=by
    intro J;refine zIW _ ?_ ?_ _ _ ⟨rfl,rfl⟩
    ·intro c hc;rcases List.mem_cons.1 hc with rfl | hc
     ·exact hD
     ·exact List.all_eq_true.1 (List.all_takeWhile) c hc
    ·have h1:(r.takeWhile za2).length≤r.length:=(List.takeWhile_sublist _).length_le;rw[bF]at fk;simp at fk ⊢;omega
   simp[hD,AV.known,e1];have bM:=post 3 ((r.takeWhile za2).length+1);rw[zkJ]at bM;rw[bk]at bM bad;have last:∀ J,(¬ (b == 48 && decide ((r.takeWhile za2).length+1>1))=true)→J=[.cells [.int .i64 0,.str [],.int .i64 0],.cells [.int .i64 3,.str (b::r.takeWhile za2),.int .i64 i]]→zng (.ptr H.length 0) (.ptr (H.length+1) 0) (H++J) (Out H.length K):=by
    rintro J aB rfl;rw[if_neg aB]at bM bad;simp[zng];refine (fL _).mono ?_;rintro _ _ ⟨rfl,rfl⟩;cases hv:zch (b::r.takeWhile za2) 0 with
    | true=>simp;exact bM (by simp[hv]) _ rfl
    | false=>simp[AV.known,zaq,zaI,AV.isV];exact bad 9 (by simp[hv]) _
   cases hz:(b == 48) with
   | true=>
    simp[hz];by_cases hn:1<(r.takeWhile za2).length+1
    ·have bT:(1:Int)<(r.takeWhile za2).length+1:=by omega
     have hd:decide ((r.takeWhile za2).length+1>1)=true:=decide_eq_true hn;have:=bad 2 (by rw[hz,hd];rfl);simp[bT,AV.known,AV.isV];exact this _
    ·have bT:¬ (1:Int)<(r.takeWhile za2).length+1:=by omega
     have hd:decide ((r.takeWhile za2).length+1>1)=false:=decide_eq_false hn;have:=last _ (by rw[hz,hd];decide) rfl;simp[zng,zaq,zaI]at this;simp[bT];exact this
   | false=>have:=last _ (by simp[hz]) rfl;simp[zng,zaq,zaI]at this;simp[hz];exact this
  | false=>
   simp[da,AV.known];rw[bF];refine zIL b r _ _ ?_;simp[AV.known];have bk:tok (kwF kwds) b r=if sgn (b::r)=0 then .error 2 else .ok (5,sgn (b::r)):=by simp only[tok,cy,hD];rfl
   by_cases hz:sgn (b::r)=0
   ·have:=bad 2 (by rw[bk,if_pos hz]);simp[hz,AV.isV];exact this _
   ·have:=post 5 (sgn (b::r)) (by rw[bk,if_neg hz]) _ rfl;have he:(List.take (sgn (b::r)) (b::r)).isEmpty=false:=by
     cases h:sgn (b::r) with
     | zero=>exact absurd h hz
     | succ n=>simp
    simp[he];exact this
def cat (l:List Tk):Except (Nat × Int) (List Tk)→Except (Nat × Int) (List Tk)
 | .error e=>.error e
 | .ok m=>.ok (l++m)
theorem zw3 (l m:List Tk) (r:Except (Nat × Int) (List Tk)):cat l (cat m r)=cat (l++m) r:=by cases r <;> simp[cat]
@[simp] theorem ya7 (r:Except (Nat × Int) (List Tk)):cat [] r=r:=by cases r <;> rfl
def zey (r:List UInt8):List UInt8:=r.dropWhile (· != 10)
def zez (r:List UInt8):Nat:=(r.takeWhile (· != 10)).length
section
variable (kw:List UInt8→Bool)
theorem zrQ (p:Nat):zbG kw [] p=.ok [⟨6,[],p⟩]:=by unfold zbG;rfl
theorem zzX {b:UInt8} (h:zdu b=true) (r:List UInt8) (p:Nat):zbG kw (b::r) p=zbG kw r (p+1):=by
 conv=>lhs;unfold zbG
 simp[h]
theorem zzZ {b:UInt8} (h0:zdu b=false) (h:(b == 35)=true) (r:List UInt8) (p:Nat):zbG kw (b::r) p=zbG kw (zey r) (p+1+zez r):=by
 conv=>lhs;unfold zbG
 simp only[h0,h,Bool.false_eq_true,if_false,if_true];rfl
theorem zzY {b:UInt8} (h0:zdu b=false) (h:(b == 35)=false) {r:List UInt8} {p:Nat} {e:Int} (ht:tok kw b r=.error e):zbG kw (b::r) p=.error (p,e):=by
 conv=>lhs;unfold zbG
 simp only[h0,h,Bool.false_eq_true,if_false,ht]
theorem zz0 {b:UInt8} (h0:zdu b=false) (h:(b == 35)=false) {r:List UInt8} {p:Nat} {k:Int} {n:Nat} (ht:tok kw b r=.ok (k,n)) :
  zbG kw (b::r) p=cat [⟨k,(b::r).take n,p⟩] (zbG kw ((b::r).drop n) (p+n)):=by
 conv=>lhs;unfold zbG
 have hn:=zrP ht;obtain⟨m,rfl⟩:∃ m,n=m+1:=⟨n-1,by omega⟩;simp only[h0,h,Bool.false_eq_true,if_false,ht,Nat.add_sub_cancel,List.drop_succ_cons];cases zbG kw (r.drop m) (p+(m+1)) <;> rfl
end
theorem zkC {b:UInt8} (h:(b == 10)=false) (r:List UInt8):zey (b::r)=zey r∧zez (b::r)=1+zez r:=by
 have hb:b≠10:=by simpa using h
 constructor
 ·simp[zey,hb]
 ·simp[zez,hb];omega
theorem zzq {b:UInt8} (h:(b == 10)=true) (r:List UInt8):zey (b::r)=b::r∧zez (b::r)=0:=by
 have hb:b=10:=by simpa using h
 constructor
 ·simp[zey,hb]
 ·simp[zez,hb]
theorem skipC_nil:zey []=[]∧zez []=0:=⟨rfl,rfl⟩
theorem zrO {kw:List UInt8→Bool} {b:UInt8} {r:List UInt8} {k:Int} {n:Nat} (h:tok kw b r=.ok (k,n)):n≤(b::r).length:=by
 have tw:∀ p:UInt8→Bool,(r.takeWhile p).length≤r.length:=λp=>(List.takeWhile_sublist _).length_le;unfold tok at h;split at h
 ·simp only at h;split at h <;> simp at h;have:=tw bIn;simp;omega
 ·split at h
  ·simp only at h;split at h
   ·simp at h
   ·split at h <;> simp at h;have:=tw za2;simp;omega
  ·simp only at h;split at h <;> simp at h
   obtain⟨_,rfl⟩:=h;unfold sgn;split
   ·rename_i h2;by_cases hl:2≤(b::r).length
    ·exact hl
    ·rw[zrx hl]at h2;cases h2
   ·split
    ·simp
    ·split <;> simp
theorem zJV {kw:List UInt8→Bool} {b:UInt8} {r:List UInt8} {e:Int} (h:tok kw b r=.error e):e=2∨e=9:=by
 unfold tok at h;split at h
 ·simp only at h;split at h <;> simp at h;omega
 ·split at h
  ·simp only at h;split at h
   ·simp at h;omega
   ·split at h <;> simp at h;omega
  ·simp only at h;split at h <;> simp at h;omega
def ze3 (s:List UInt8):AV:=
 if s.length>16384 then .tup [.sl [] .none,.int .i64 0,.int .i64 9] else
 match zbG (kwF kwds) s 0 with
 | .error (p,e)=>.tup [.sl [] .none,.int .i64 p,.int .i64 e]
 | .ok l=>.tup [.sl (l.map Tk.cs) .none,.int .i64 0,.int .i64 0]
theorem two {H:zaa} {x y:AB}:H++[x,y]=(H++[x])++[y]:=by simp
theorem zyE {H J:zaa} {K:AV→zaa→Prop} {p e:Int} (hs:HSc H) (hK:K (.tup [.sl [] .none,.int .i64 p,.int .i64 e]) H):Out H.length K (.tup [.snil,.int .i64 p,.int .i64 e]) (H++J):=
 Out.tup hs hK ⟨zdE,zaY rfl rfl,zaY rfl rfl,trivial⟩
theorem zJy (s:List UInt8) (H:zaa) (K:AV→zaa→Prop) (hK:K (ze3 s) H):ACalls tP zqG [.str s] H K:=by
 refine ACalls.out (zSl λhs=>?_);by_cases hl:s.length>16384
 ·have cC:(16384:Int)<s.length:=by omega
  simp[zue,cC,AV.isV];unfold ze3 at hK;rw[if_pos hl]at hK;exact Out.tup0 hs hK ⟨zdE,zaY rfl rfl,zaY rfl rfl,trivial⟩
 have cC:¬ (16384:Int)<s.length:=by omega
 unfold ze3 at hK;rw[if_neg hl]at hK;simp[zue,cC];have aI:∀ n,HSc (H++[.perm zeR 3 n]):=λn=>hs.append rfl;unfold znd;refine ALoop.own 5 zeR 3 rfl ?_;show znd (.str s) (.sl [] (.own H.length)) (.int .i64 0) (H++[.perm zeR 3 0]) (Out H.length K);refine zSi (Inv:=λq t5 t6 H'=>∃ (i:Nat) (l:List Tk),i≤s.length∧l.length≤i∧q=s.length-i∧t6=.int .i64 i∧t5=.sl (l.map Tk.cs) (.own H.length)∧H'=H++[.perm zeR 3 l.length]∧cat l (zbG (kwF kwds) (s.drop i) i)=zbG (kwF kwds) s 0) s.length ?_ ?_
 ·intro _;exact⟨0,[],by omega,by simp,by omega,rfl,rfl,rfl,by simp⟩
 ·rintro q t5 t6 H' ⟨i,l,hi,bm,rfl,rfl,rfl,rfl,ho⟩ hsc am aM Kb au;have done:cat l (.ok [⟨6,[],s.length⟩])=zbG (kwF kwds) s 0→znc (.str s) (.sl (l.map Tk.cs) (.own H.length)) (H++[.perm zeR 3 l.length]) (Out H.length K):=by intro ho;rw[←ho]at hK;simp[znc,zDd,zaq,zaI,zau,zaQ,plain,AV.pd,zav,zaM,zaJ,AV.isV];refine⟨by omega,?_⟩;simp[cat,Tk.cs]at hK;exact Out.tup hs hK ⟨slV,zaY rfl rfl,zaY rfl rfl,trivial⟩
  by_cases ak:i<s.length
  ·have bF:=List.drop_eq_getElem_cons ak;simp[zuf,ak];refine zGa _ _ _ ?_;have e35:((s[i].toNat:Int) == 35)=(s[i] == 35):=zcC s[i] 35;cases cQ:zdu s[i] with
   | true=>rw[bF,zzX _ cQ]at ho;simp[zg0];rw[zaw (by omega) (by omega)];refine au _ _ ⟨s.length-(i+1),by omega,Back.here (by simp) (aI _) ?_ ⟨_,_,rfl,i+1,l,by omega,by omega,rfl,by simp,rfl,rfl,ho⟩⟩;simp[zgZ,AV.sc,AV.scV,AV.scA,AV.scB]
   | false=>
    simp[e35];cases aU:(s[i] == 35) with
    | true=>
     simp;rw[bF,zzZ _ cQ aU]at ho;have eX:(s[i] == 10)=false:=by rw[beq_iff_eq]at aU;rw[aU];rfl
     obtain⟨c1,c2⟩:=zkC eX (s.drop (i+1));rw[Nat.add_assoc,←c1,←c2,←bF]at ho;refine zSj (Inv:=λq t6 H'=>∃ (j:Nat),i≤j∧j≤s.length∧q=s.length-j∧t6=.int .i64 j∧H'=H++[.perm zeR 3 l.length]∧cat l (zbG (kwF kwds) (zey (s.drop j)) (j+zez (s.drop j)))=zbG (kwF kwds) s 0) (s.length-i) ?_ ?_
     ·intro _;exact⟨i,by omega,by omega,by omega,rfl,rfl,ho⟩
     ·rintro q t6 H' ⟨j,l5,hj,rfl,rfl,rfl,ho⟩ hsc am aM Kb9 gc;by_cases cR:j<s.length
      ·have eC:=List.drop_eq_getElem_cons cR;have e10:((s[j].toNat:Int) == 10)=(s[j] == 10):=zcC s[j] 10;simp[zug,cR,e10];cases hz:(s[j] == 10) with
       | true=>
        obtain⟨d1,d2⟩:=zzq hz (s.drop (j+1));rw[eC,d1,d2,←eC,Nat.add_zero]at ho;have hij':i≠j:=by rintro rfl;rw[eX]at hz;cases hz
        simp[zg0];refine au _ _ ⟨s.length-j,by omega,Back.here (by simp) (aI _) ?_ ⟨_,_,rfl,j,l,by omega,by omega,rfl,by simp,rfl,rfl,ho⟩⟩;simp[zgZ,AV.sc,AV.scV,AV.scA,AV.scB]
       | false=>obtain⟨d1,d2⟩:=zkC hz (s.drop (j+1));rw[eC,d1,d2,←Nat.add_assoc]at ho;simp;rw[zaw (by omega) (by omega)];refine gc _ _ ⟨s.length-(j+1),by omega,Back.here (by simp) (aI _) ?_ ⟨_,rfl,j+1,by omega,by omega,rfl,by simp,rfl,ho⟩⟩;simp[znb,AV.sc,AV.scV,AV.scA,AV.scB]
      ·obtain rfl:j=s.length:=by omega
       simp[zug];rw[List.drop_length,skipC_nil.1,skipC_nil.2,Nat.add_zero,zrQ]at ho;exact done ho
    | false=>
     simp;refine zIC s (by omega) i ak _ _ ?_;unfold zkA;cases ht:tok (kwF kwds) s[i] (s.drop (i+1)) with
     | error e=>
      rw[bF,zzY _ cQ aU ht]at ho;have he:(e != 0)=true:=by rcases zJV ht with rfl | rfl <;> rfl
      rw[←ho]at hK;simp[AV.known,AV.isV,he];exact zyE hs hK
     | ok kn=>
      obtain⟨k,n⟩:=kn;rw[bF,zz0 _ cQ aU ht,zw3,←bF]at ho;have hn:=zrO ht;rw[←bF]at hn;simp at hn;have fm:=zrP ht;simp[Tk.cs,AV.known,zau,zaQ,plain,AV.pd,zav,zaM,zaJ,zg0];refine⟨by omega,?_⟩;rw[show min n (s.length-i)=n by omega,zaw (by omega) (by omega),two];refine au _ _ ⟨s.length-(i+n),by omega,Back.same (by simp) (aI _) ?_ ⟨_,_,rfl,i+n,l++[⟨k,(s.drop i).take n,i⟩],by omega,by simp;omega,rfl,by simp,by simp[Tk.cs],by simp,?_⟩⟩
      ·simp[zgZ,AV.sc,AV.scV,AV.scA,AV.scB]
      ·rw[List.drop_drop]at ho;exact ho
  ·obtain rfl:i=s.length:=by omega
   rw[List.drop_length,zrQ]at ho;simpa[zuf]using done ho
theorem zkK (s:List UInt8) (i n:Nat):List.drop i (List.take (i+n) s)=List.take n (List.drop i s):=by rw[List.drop_take];congr 1;omega
def zgT (t0 t5 t6 t7 t8:AV) (H:zaa) (K:AV→zaa→Prop) (Kb5:List AV→zaa→Prop):Prop:=
 zac .gtr false t8 (.int .i64 24) λt118=>
 zag t118
 (zaF [.snil,t6,(.int .i64 9)] (K · H))
 (ACalls tP zgr [t7] H λt121 H=>
 zag t121
 (ze6 t0 t5 t6 t8 (.int .i64 2) H K Kb5)
 (zac .add false t6 t8 λt126=>
 zaN 0 0 t0 (some t6) (some t126) λt127=>
 ACalls tP zjL [t127] H λt128 H=>
 zag t128
 (ze6 t0 t5 t6 t8 (.int .i64 4) H K Kb5)
 (ze6 t0 t5 t6 t8 (.int .i64 1) H K Kb5)))
section
variable (s:List UInt8) (hl:¬ s.length>16384) (i:Nat) (ak:i<s.length) (H:zaa) (l:List Tk) (bm:l.length≤i) (aI:∀ n,HSc (H++[.perm zbx 3 n])) (K:AV→zaa→Prop) (Kb:List AV→zaa→Prop)
include hl ak bm aI
theorem zKc (cy:(zb3 s[i] || bUp s[i])=true)
  (app:∀ (k:Int) (n:Nat),tok (kwF kwds) s[i] (s.drop (i+1))=.ok (k,n)→∀ t,(s.drop i).take n=t→ziA (.str s) (.sl (l.map Tk.cs++[[.int .i64 k,.str t,.int .i64 i]]) (.own H.length)) (.int .i64 i) (.int .i64 n) (H++[.perm zbx 3 (l.length+1)]) (Out H.length K) Kb)
  (bad:∀ e:Int,tok (kwF kwds) s[i] (s.drop (i+1))=.error e→Out H.length K (.tup [.snil,.int .i64 i,.int .i64 e]) (H++[.perm zbx 3 l.length])) :
  zsU (.str s) (.sl (l.map Tk.cs) (.own H.length)) (.int .i64 i) (.int .u8 s[i].toNat) (.int .i64 1) (H++[.perm zbx 3 l.length]) (Out H.length K) Kb:=by
 refine zNw (Inv:=λq t8 H'=>∃ (j:Nat),i+j≤s.length∧0<j∧q=s.length-j∧t8=.int .i64 j∧H'=H++[.perm zbx 3 l.length]∧j+((s.drop (i+j)).takeWhile bIn).length=((s.drop (i+1)).takeWhile bIn).length+1) (s.length-1) ?_ ?_
 ·intro _;exact⟨1,by omega,by omega,by omega,rfl,rfl,by omega⟩
 ·rintro q t8 H' ⟨j,l5,hj0,rfl,rfl,rfl,hn⟩ hsc am aM Kb18 gd;have w1:IntKind.i64.wrap ((i:Int)+j)=i+j:=zaw (by omega) (by omega);have w2:IntKind.i64.wrap ((j:Int)+1)=j+1:=zaw (by omega) (by omega);have fin:((s.drop (i+j)).takeWhile bIn).length=0→zgT (.str s) (.sl (l.map Tk.cs) (.own H.length)) (.int .i64 i) (.int .u8 s[i].toNat) (.int .i64 j) (H++[.perm zbx 3 l.length]) (Out H.length K) Kb:=by
   intro h0;rw[h0]at hn;have bk:tok (kwF kwds) s[i] (s.drop (i+1))=if j>24 then .error 9 else .ok (if bUp s[i]=true then 2 else if kwF kwds ((s.drop i).take j)=true then 4 else 1,j):=by rw[List.drop_eq_getElem_cons ak];simp only[tok,cy,if_true,←hn,Nat.add_zero]
   by_cases h24:j>24
   ·have ja:(24:Int)<j:=by omega
    rw[if_pos h24]at bk;simp[zgT,ja,AV.isV];exact bad 9 bk
   ·have ja:¬ (24:Int)<j:=by omega
    rw[if_neg h24]at bk;simp[zgT,ja];refine zkP _ _ _ ?_;have fin2:∀ k,k=(if bUp s[i]=true then 2 else if kwF kwds ((s.drop i).take j)=true then 4 else 1:Int)→ze6 (.str s) (.sl (l.map Tk.cs) (.own H.length)) (.int .i64 i) (.int .i64 j) (.int .i64 k) (H++[.perm zbx 3 l.length]) (Out H.length K) Kb:=by intro k hk;rw[←hk]at bk;have:=app k j bk _ rfl;simp[ze6,w1,w2,zaq,zaI,zau,zaQ,plain,AV.pd,zav,zaM,zaJ,ze7];refine⟨by omega,by omega,by omega,?_⟩;rw[show ((i:Int)+j).toNat=i+j by omega,zkK];exact this
    cases hU:bUp s[i] with
    | true=>simp;exact fin2 2 (by simp[hU])
    | false=>
     simp[w1,w2];refine⟨by omega,by omega,?_⟩;rw[show ((i:Int)+j).toNat=i+j by omega,zkK];refine zHe _ _ _ ?_;cases ko:kwF kwds ((s.drop i).take j) with
     | true=>simp;exact fin2 4 (by simp[hU,ko])
     | false=>simp;exact fin2 1 (by simp[hU,ko])
  by_cases cR:i+j<s.length
  ·have e95:((s[i+j].toNat:Int) == 95)=(s[i+j] == 95):=zcC s[i+j] 95;have bN:(i+j:Int)<s.length:=by omega
   rw[List.drop_eq_getElem_cons cR,List.takeWhile_cons]at hn fin;have key:bIn s[i+j]=true→Kb18 (ziz (.str s) (.sl (l.map Tk.cs) (.own H.length)) (.int .i64 i) (.int .u8 s[i].toNat) (.int .i64 (j+1))) (H++[.perm zbx 3 l.length]):=by intro jb;rw[jb]at hn;simp at hn;refine gd _ _ ⟨s.length-(j+1),by omega,Back.here (by simp) (aI _) ?_ ⟨_,rfl,j+1,by omega,by omega,rfl,by simp,rfl,by rw[←Nat.add_assoc];omega⟩⟩;simp[ziz,AV.sc,AV.scV,AV.scA,AV.scB]
   have no:bIn s[i+j]=false→zgT (.str s) (.sl (l.map Tk.cs) (.own H.length)) (.int .i64 i) (.int .u8 s[i].toNat) (.int .i64 j) (H++[.perm zbx 3 l.length]) (Out H.length K) Kb:=by intro jb;rw[jb]at fin;exact fin (by simp)
   have aA:s[((i:Int)+j).toNat]?.getD 0=s[i+j]:=by rw[show ((i:Int)+j).toNat=i+j by omega];simp[cR]
   unfold bIn at key no;simp[zsR,w1,w2,bN,aA];refine⟨by omega,?_⟩;refine zxY _ _ _ ?_;cases hL:zb3 s[i+j] with
   | true=>simpa using key (by simp[hL])
   | false=>
    simp[w1,w2,bN,aA];refine⟨by omega,zkP _ _ _ ?_⟩;cases hU:bUp s[i+j] with
    | true=>simpa using key (by simp[hU])
    | false=>
     simp[w1,w2,bN,aA];refine⟨by omega,zpx _ _ _ ?_⟩;cases hD:za2 s[i+j] with
     | true=>simpa using key (by simp[hD])
     | false=>
      simp[w1,w2,bN,aA,e95];refine⟨by omega,?_⟩;cases h95:(s[i+j] == 95) with
      | true=>simpa using key (by simp[h95])
      | false=>simpa[zgT,w1]using no (by simp[hL,hU,hD,h95])
  ·have bN:¬ (i+j:Int)<s.length:=by omega
   have:s.drop (i+j)=[]:=List.drop_eq_nil_of_le (by omega);rw[this]at fin;have:=fin rfl;simp[zsR,w1,w2,bN];simpa[zgT,w1]using this
end
def zlT (t0 t5 t6 t8:AV) (H:zaa) (K:AV→zaa→Prop) (Kb5:List AV→zaa→Prop):Prop:=
 zac .add false t6 t8 λt172=>
 zaN 0 0 t0 (some t6) (some t172) λt173=>
 ACalls tP zgs [t173] H λt174 H=>
 zaC t174 0 λt175=>
 zaC t174 1 λt176=>
 aUn .not t176 λt178=>
 zag t178
 (zaF [.snil,t6,(.int .i64 9)] (K · H))
 (zac .add false t6 t8 λt185=>
 zaN 0 0 t0 (some t6) (some t185) λt186=>
 zaq [(.int .i64 0),(.str []),(.int .i64 0)] [(0,1),(1,1),(2,1)] [(0,(.int .i64 3)),(1,t186),(2,t6)] λt188=>
 zau 3 [(.int .i64 0),(.str []),(.int .i64 0)] 1 [(0,t188)] λt189=>
 zav zbx 3 32 t5 t189 H λt190 H=>
 ze7 t0 t190 t6 t8 H K Kb5)
def zgU (t0 t5 t6 t7 t8:AV) (H:zaa) (K:AV→zaa→Prop) (Kb5:List AV→zaa→Prop):Prop:=
 zac .gtr false t8 (.int .i64 1) λt161=>
 zad t161 true H (λK'=>K' t7 H) λt163 H=>
 zad t161 true H (λK'=>zac .eql false t163 (.int .u8 48) (K' · H)) λt164 H=>
 zam t161 t164 (.bool false) λt165=>
 zag t165
 (zaF [.snil,t6,(.int .i64 2)] (K · H))
 (zac .add false t6 t8 λt172=>
 zaN 0 0 t0 (some t6) (some t172) λt173=>
 ACalls tP zgs [t173] H λt174 H=>
 zaC t174 0 λt175=>
 zaC t174 1 λt176=>
 aUn .not t176 λt178=>
 zag t178
 (zaF [.snil,t6,(.int .i64 9)] (K · H))
 (zac .add false t6 t8 λt185=>
 zaN 0 0 t0 (some t6) (some t185) λt186=>
 zaq [(.int .i64 0),(.str []),(.int .i64 0)] [(0,1),(1,1),(2,1)] [(0,(.int .i64 3)),(1,t186),(2,t6)] λt188=>
 zau 3 [(.int .i64 0),(.str []),(.int .i64 0)] 1 [(0,t188)] λt189=>
 zav zbx 3 32 t5 t189 H λt190 H=>
 ze7 t0 t190 t6 t8 H K Kb5))
section
variable (s:List UInt8) (hl:¬ s.length>16384) (i:Nat) (ak:i<s.length) (H:zaa) (l:List Tk) (bm:l.length≤i) (aI:∀ n,HSc (H++[.perm zbx 3 n])) (K:AV→zaa→Prop) (Kb:List AV→zaa→Prop)
include hl ak bm aI
theorem zHF (cy:¬ (zb3 s[i] || bUp s[i])=true) (hD:za2 s[i]=true)
  (app:∀ (k:Int) (n:Nat),tok (kwF kwds) s[i] (s.drop (i+1))=.ok (k,n)→∀ t,(s.drop i).take n=t→ziA (.str s) (.sl (l.map Tk.cs++[[.int .i64 k,.str t,.int .i64 i]]) (.own H.length)) (.int .i64 i) (.int .i64 n) (H++[.perm zbx 3 (l.length+1)]) (Out H.length K) Kb)
  (bad:∀ e:Int,tok (kwF kwds) s[i] (s.drop (i+1))=.error e→Out H.length K (.tup [.snil,.int .i64 i,.int .i64 e]) (H++[.perm zbx 3 l.length])) :
  zsV (.str s) (.sl (l.map Tk.cs) (.own H.length)) (.int .i64 i) (.int .u8 s[i].toNat) (.int .i64 1) (H++[.perm zbx 3 l.length]) (Out H.length K) Kb:=by
 refine zNx (Inv:=λq t8 H'=>∃ (j:Nat),i+j≤s.length∧0<j∧q=s.length-j∧t8=.int .i64 j∧H'=H++[.perm zbx 3 l.length]∧j+((s.drop (i+j)).takeWhile za2).length=((s.drop (i+1)).takeWhile za2).length+1) (s.length-1) ?_ ?_
 ·intro _;exact⟨1,by omega,by omega,by omega,rfl,rfl,by omega⟩
 ·rintro q t8 H' ⟨j,l5,hj0,rfl,rfl,rfl,hn⟩ hsc am aM Kb18 gd;have w1:IntKind.i64.wrap ((i:Int)+j)=i+j:=zaw (by omega) (by omega);have w2:IntKind.i64.wrap ((j:Int)+1)=j+1:=zaw (by omega) (by omega);have e48:((s[i].toNat:Int) == 48)=(s[i] == 48):=zcC s[i] 48;have fin:((s.drop (i+j)).takeWhile za2).length=0→zgU (.str s) (.sl (l.map Tk.cs) (.own H.length)) (.int .i64 i) (.int .u8 s[i].toNat) (.int .i64 j) (H++[.perm zbx 3 l.length]) (Out H.length K) Kb:=by
   intro h0;rw[h0]at hn;have iE:(s.drop i).take j=s[i]::(s.drop (i+1)).takeWhile za2:=by rw[List.drop_eq_getElem_cons ak,show j=((s.drop (i+1)).takeWhile za2).length+1 by omega,zkJ]
   have bk:tok (kwF kwds) s[i] (s.drop (i+1))=if (s[i] == 48 && decide (j>1))=true then .error 2 else if zch ((s.drop i).take j) 0=true then .ok (3,j) else .error 9:=by rw[List.drop_eq_getElem_cons ak];simp only[tok,cy,hD,if_true,←hn,Nat.add_zero];rfl
   have eD:∀ (K:AV→zaa→Prop) (H:zaa),(∀ n,K (.tup [.int .i64 n,.bool (zch ((s.drop i).take j) 0)]) H)→ACalls tP zgs [.str ((s.drop i).take j)] H K:=by
    intro K H hK;refine zJ4 _ ?_ (by simp;omega) _ _ hK;intro c hc;rw[iE]at hc;rcases List.mem_cons.1 hc with rfl | hc
    ·exact hD
    ·exact List.all_eq_true.1 (List.all_takeWhile) c hc
   have rest:¬ (s[i] == 48 && decide (j>1))=true→zlT (.str s) (.sl (l.map Tk.cs) (.own H.length)) (.int .i64 i) (.int .i64 j) (H++[.perm zbx 3 l.length]) (Out H.length K) Kb:=by
    intro aB;rw[if_neg aB]at bk;simp[zlT,w1];refine⟨by omega,by omega,?_⟩;rw[show ((i:Int)+j).toNat=i+j by omega,zkK];refine eD _ _ λn=>?_;cases hv:zch ((s.drop i).take j) 0 with
    | false=>rw[hv]at bk;simp[AV.isV];exact bad 9 bk
    | true=>rw[hv]at bk;have:=app 3 j bk _ rfl;simp[zaq,zaI,zau,zaQ,plain,AV.pd,zav,zaM,zaJ,ze7];refine⟨by omega,by omega,by omega,?_⟩;exact this
   by_cases h1:j>1
   ·have cu:(1:Int)<j:=by omega
    have hd:decide (j>1)=true:=decide_eq_true h1;rw[hd]at rest bk;cases hz:(s[i] == 48) with
    | true=>rw[hz]at bk;simp[zgU,cu,e48,hz,AV.isV];exact bad 2 bk
    | false=>have:=rest (by rw[hz];decide);simp[zgU,cu,e48,hz];simpa[zlT]using this
   ·have cu:¬ (1:Int)<j:=by omega
    have:=rest (by rw[decide_eq_false h1];simp);simp[zgU,cu];simpa[zlT]using this
  by_cases cR:i+j<s.length
  ·have bN:(i+j:Int)<s.length:=by omega
   rw[List.drop_eq_getElem_cons cR,List.takeWhile_cons]at hn fin;have aA:s[((i:Int)+j).toNat]?.getD 0=s[i+j]:=by rw[show ((i:Int)+j).toNat=i+j by omega];simp[cR]
   simp[zsS,w1,w2,bN,aA];refine⟨by omega,?_⟩;refine zpx _ _ _ ?_;cases hb:za2 s[i+j] with
   | true=>rw[hb]at hn;simp at hn;simp[w1,w2];refine gd _ _ ⟨s.length-(j+1),by omega,Back.here (by simp) (aI _) ?_ ⟨_,rfl,j+1,by omega,by omega,rfl,by simp,rfl,by rw[←Nat.add_assoc];omega⟩⟩;simp[zlV,AV.sc,AV.scV,AV.scA,AV.scB]
   | false=>rw[hb]at fin;have:=fin (by simp);simp[w1,w2];simpa[zgU,w1]using this
  ·have bN:¬ (i+j:Int)<s.length:=by omega
   have:s.drop (i+j)=[]:=List.drop_eq_nil_of_le (by omega);rw[this]at fin;have:=fin rfl;simp[zsS,w1,w2,bN];simpa[zgU,w1]using this
end
theorem zJz (s:List UInt8) (H:zaa) (K:AV→zaa→Prop) (hK:K (ze3 s) H):ACalls tP zqn [.str s] H K:=by
 refine ACalls.out (zNC λhs=>?_);by_cases hl:s.length>16384
 ·have cC:(16384:Int)<s.length:=by omega
  simp[zsP,cC,AV.isV];unfold ze3 at hK;rw[if_pos hl]at hK;exact Out.tup0 hs hK ⟨zdE,zaY rfl rfl,zaY rfl rfl,trivial⟩
 have cC:¬ (16384:Int)<s.length:=by omega
 unfold ze3 at hK;rw[if_neg hl]at hK;simp[zsP,cC];have aI:∀ n,HSc (H++[.perm zbx 3 n]):=λn=>hs.append rfl;unfold zlW;refine ALoop.own 5 zbx 3 rfl ?_;show zlW (.str s) (.sl [] (.own H.length)) (.int .i64 0) (H++[.perm zbx 3 0]) (Out H.length K);refine zNy (Inv:=λq t5 t6 H'=>∃ (i:Nat) (l:List Tk),i≤s.length∧l.length≤i∧q=s.length-i∧t6=.int .i64 i∧t5=.sl (l.map Tk.cs) (.own H.length)∧H'=H++[.perm zbx 3 l.length]∧cat l (zbG (kwF kwds) (s.drop i) i)=zbG (kwF kwds) s 0) s.length ?_ ?_
 ·intro _;exact⟨0,[],by omega,by simp,by omega,rfl,rfl,rfl,by simp⟩
 ·rintro q t5 t6 H' ⟨i,l,hi,bm,rfl,rfl,rfl,rfl,ho⟩ hsc am aM Kb au;by_cases ak:i<s.length
  ·have bF:=List.drop_eq_getElem_cons ak;have e9:((s[i].toNat:Int) == 9)=(s[i] == 9):=zcC s[i] 9;have e10:((s[i].toNat:Int) == 10)=(s[i] == 10):=zcC s[i] 10;have e13:((s[i].toNat:Int) == 13)=(s[i] == 13):=zcC s[i] 13;have e32:((s[i].toNat:Int) == 32)=(s[i] == 32):=zcC s[i] 32;have e35:((s[i].toNat:Int) == 35)=(s[i] == 35):=zcC s[i] 35;cases cQ:zdu s[i] with
   | true=>
    rw[bF,zzX _ cQ]at ho;have key:ze5 (.str s) (.sl (l.map Tk.cs) (.own H.length)) (.int .i64 (IntKind.i64.wrap (i+1))) (H++[.perm zbx 3 l.length]) (Out H.length K) Kb:=by simp[ze5];rw[zaw (by omega) (by omega)];refine au _ _ ⟨s.length-(i+1),by omega,Back.here (by simp) (aI _) ?_ ⟨_,_,rfl,i+1,l,by omega,by omega,rfl,by simp,rfl,rfl,ho⟩⟩;simp[zfR,AV.sc,AV.scV,AV.scA,AV.scB]
    unfold zdu at cQ;cases h9:(s[i] == 9) <;> cases eX:(s[i] == 10) <;> cases kZ:(s[i] == 13) <;> cases iF:(s[i] == 32) <;> simp[h9,eX,kZ,iF]at cQ <;> simpa[zlS,ak,e9,e10,e13,e32,h9,eX,kZ,iF]using key
   | false=>
    have jc:=cQ;unfold zdu at jc;simp only[Bool.or_eq_false_iff]at jc;obtain⟨⟨⟨h9,eX⟩,kZ⟩,iF⟩:=jc;have app:∀ (k:Int) (n:Nat),tok (kwF kwds) s[i] (s.drop (i+1))=.ok (k,n)→(s[i] == 35)=false→∀ t,(s.drop i).take n=t→ziA (.str s) (.sl (l.map Tk.cs++[[.int .i64 k,.str t,.int .i64 i]]) (.own H.length)) (.int .i64 i) (.int .i64 n) (H++[.perm zbx 3 (l.length+1)]) (Out H.length K) Kb:=by
     intro k n ht aU t l4;subst l4;rw[bF,zz0 _ cQ aU ht,zw3,←bF]at ho;have hn:=zrO ht;rw[←bF]at hn;simp at hn;have fm:=zrP ht;simp[ziA,ze5];rw[zaw (by omega) (by omega)];refine au _ _ ⟨s.length-(i+n),by omega,Back.here (by simp) (aI _) ?_ ⟨_,_,rfl,i+n,l++[⟨k,(s.drop i).take n,i⟩],by omega,by simp;omega,rfl,by simp,by simp[Tk.cs],by simp,?_⟩⟩
     ·simp[zfR,AV.sc,AV.scV,AV.scA,AV.scB]
     ·rw[List.drop_drop]at ho;exact ho
    have bad:∀ e:Int,tok (kwF kwds) s[i] (s.drop (i+1))=.error e→(s[i] == 35)=false→Out H.length K (.tup [.snil,.int .i64 i,.int .i64 e]) (H++[.perm zbx 3 l.length]):=by intro e ht aU;rw[bF,zzY _ cQ aU ht]at ho;rw[←ho]at hK;exact zyE hs hK
    simp[zlS,ak,e9,e10,e13,e32,e35,h9,eX,kZ,iF];cases aU:(s[i] == 35) with
    | true=>
     simp;rw[bF,zzZ _ cQ aU]at ho;obtain⟨c1,c2⟩:=zkC eX (s.drop (i+1));rw[Nat.add_assoc,←c1,←c2,←bF]at ho;refine zNv (Inv:=λq t6 H'=>∃ (j:Nat),i≤j∧j≤s.length∧q=s.length-j∧t6=.int .i64 j∧H'=H++[.perm zbx 3 l.length]∧cat l (zbG (kwF kwds) (zey (s.drop j)) (j+zez (s.drop j)))=zbG (kwF kwds) s 0) (s.length-i) ?_ ?_
     ·intro _;exact⟨i,by omega,by omega,by omega,rfl,rfl,ho⟩
     ·rintro q t6 H' ⟨j,l5,hj,rfl,rfl,rfl,ho⟩ hsc am aM Kb9 gc;by_cases cR:j<s.length
      ·have eC:=List.drop_eq_getElem_cons cR;have e10:((s[j].toNat:Int) != 10)=!(s[j] == 10):=by rw[←zcC s[j] 10];rfl
       simp[zsQ,cR,e10];cases hz:(s[j] == 10) with
       | true=>
        obtain⟨d1,d2⟩:=zzq hz (s.drop (j+1));rw[eC,d1,d2,←eC,Nat.add_zero]at ho;have hij':i≠j:=by rintro rfl;rw[eX]at hz;cases hz
        simp[ze5];refine au _ _ ⟨s.length-j,by omega,Back.here (by simp) (aI _) ?_ ⟨_,_,rfl,j,l,by omega,by omega,rfl,by simp,rfl,rfl,ho⟩⟩;simp[zfR,AV.sc,AV.scV,AV.scA,AV.scB]
       | false=>obtain⟨d1,d2⟩:=zkC hz (s.drop (j+1));rw[eC,d1,d2,←Nat.add_assoc]at ho;simp;rw[zaw (by omega) (by omega)];refine gc _ _ ⟨s.length-(j+1),by omega,Back.here (by simp) (aI _) ?_ ⟨_,rfl,j+1,by omega,by omega,rfl,by simp,rfl,ho⟩⟩;simp[zlU,AV.sc,AV.scV,AV.scA,AV.scB]
      ·obtain rfl:j=s.length:=by omega
       simp[zsQ,ze5];rw[List.drop_length,skipC_nil.1,skipC_nil.2,Nat.add_zero]at ho;refine au _ _ ⟨0,by omega,Back.here (by simp) (aI _) ?_ ⟨_,_,rfl,s.length,l,by omega,by omega,by omega,by simp,rfl,rfl,by rw[List.drop_length];exact ho⟩⟩;simp[zfR,AV.sc,AV.scV,AV.scA,AV.scB]
    | false=>
     replace app:=λk n h=>app k n h aU
     replace bad:=λe h=>bad e h aU
     simp;refine zxY _ _ _ ?_;by_cases cy:(zb3 s[i] || bUp s[i])=true
     ·have hc:zb3 s[i]=true∨(zb3 s[i]=false∧bUp s[i]=true):=by cases hL:zb3 s[i] <;> simp[hL]at cy ⊢;exact cy
      rcases hc with hL | ⟨hL,hU⟩;case' inl=>simp[hL]
      case' inr=>simp[hL];refine zkP _ _ _ ?_;simp[hU]
      all_goals exact zKc s hl i ak H l bm aI K Kb cy app bad
     ·have hL:zb3 s[i]=false:=by simp at cy;exact cy.1
      have hU:bUp s[i]=false:=by simp at cy;exact cy.2
      simp[hL];refine zkP _ _ _ ?_;simp[hU];refine zpx _ _ _ ?_;cases hD:za2 s[i] with
      | true=>simp;exact zHF s hl i ak H l bm aI K Kb cy hD app bad
      | false=>
       simp;refine⟨by omega,?_⟩;have bk:tok (kwF kwds) s[i] (s.drop (i+1))=if sgn (s.drop i)=0 then .error 2 else .ok (5,sgn (s.drop i)):=by simp only[tok,cy,hD,bF];rfl
       rw[bF];refine zIK _ _ _ _ ?_;rw[←bF];by_cases hz:sgn (s.drop i)=0
       ·simp[hz,AV.isV];exact bad 2 (by rw[bk,if_pos hz])
       ·have g7:((sgn (s.drop i):Int) == 0)=false:=by simpa using hz
        have ht:=bk;rw[if_neg hz]at ht;have hn:=zrO ht;rw[←bF]at hn;simp at hn;have:=app 5 (sgn (s.drop i)) ht _ rfl;simp[g7];rw[zaw (by omega) (by omega)];simp[zaq,zaI,zau,zaQ,plain,AV.pd,zav,zaM,zaJ,ze7];refine⟨by omega,by omega,by omega,?_⟩;rw[show ((i:Int)+(sgn (s.drop i):Int)).toNat=i+sgn (s.drop i) by omega,zkK];exact this
  ·obtain rfl:i=s.length:=by omega
   rw[List.drop_length,zrQ]at ho;rw[←ho]at hK;simp[zlS,zaq,zaI,zau,zaQ,plain,AV.pd,zav,zaM,zaJ,AV.isV];refine⟨by omega,?_⟩;simp[cat,Tk.cs]at hK;exact Out.tup hs hK ⟨slV,zaY rfl rfl,zaY rfl rfl,trivial⟩
section
variable (t0 t3 t4 t5 t6 t7 t93 t94 t95:AV) (H:zaa) (K:Kt) (Kb2 Kb5 Kb12 Kb18:Lt)
def zed:Nat→List Bool | 5=>rl false [0,1,2,3,115] | 12=>rl false [0,1,2,5,113] | 18=>rl false [0,1,2,5,85,3,25] | _=>[]
noncomputable def zuX:Code:=Tryz.f48.body.getD .skip
noncomputable def zUJ:List ResultVar:=Tryz.f48.results.toList
def znP:List AV:=t0::ux 2 (t3::t4::t5::ux 115 [])
def zD0:List Bool:=zed 5
noncomputable def zuZ:Code:=zar [1,1,1,0,1,0,0] zuX
def zDV:AExit→List AV→zaa→Prop:=zas tP zed [1,1,1,0,1,0] zuX (zaz tP zUJ K)
def znR:Prop:=ALoop tP zuZ (zDV K) (znP t0 t3 t4 t5) H
def znN:List AV:=t0::ux 2 (t3::t4::t5::t6::t7::ux 113 [])
def zDZ:List Bool:=zed 12
noncomputable def zuY:Code:=zar [1,0,0,1,1,1,1,0,0] zuZ
def zDU:AExit→List AV→zaa→Prop:=zas tP zed [1,0,0,1,1,1,1,0] zuZ (zbL zD0 Kb5 (zDV K))
def zDX:Prop:=ALoop tP zuY (zDU K Kb5) (znN t0 t3 t4 t5 t6 t7) H
def znO:List AV:=t0::ux 2 (t3::t4::t5::t6::t7::ux 85 (t93::t94::t95::ux 25 []))
def zUH:List Bool:=zed 18
noncomputable def zUD:Code:=zar [1,0,0,1,1,1,0,0] zuY
def zUC:AExit→List AV→zaa→Prop:=zas tP zed [1,0,0,1,1,1,0] zuY (zbL zDZ Kb12 (zDU K Kb5))
def zDY:Prop:=ALoop tP zUD (zUC K Kb5 Kb12) (znO t0 t3 t4 t5 t6 t7 t93 t94 t95) H
def zDW (t0 t3 t4 t5 t6 t7 t93 t94 t95:AV) (H:zaa) (K:Kt) (Kb5:Lt) (Kb12:Lt) (Kb18:Lt):Prop:=zac .add false t95 (.int .i64 1) λt112=>Kb18 (znO t0 t3 t4 t5 t6 t7 t93 t94 t112) H
def znQ:Prop:=zDW t0 t3 t4 t5 t6 t7 t93 t94 t95 H K Kb5 Kb12 Kb18
def zuW:Prop:=zac .lss false t95 t94 λt96=>zag t96 (zak 3 t93 t95 λt97=>zae true 3 t97 H λt98=>zay [(.int .i64 0),(.int .i64 0),.snil] H λt9 H=>zao 3 t9 t98 H λH=>zae true 3 t9 H λt99=>zaf 1 t6 λt101=>zae false 1 t101 H λt102=>ACalls tP zke [t99,t5,t102] H λt103 H=>zag t103 (znQ t0 t3 t4 t5 t6 t7 t93 t94 t95 H K Kb5 Kb12 Kb18) (zab H (λK'=>K' t0 H) λt104=>zab H (λK'=>K' t5 H) λt105=>zab H (λK'=>zaN 1 3 t104 none (some t105) (K' · H)) λt106=>zab H (λK'=>zaj true 3 t9 H (K' · H)) λt107=>zab H (λK'=>zaf 1 t6 (K' · H)) λt108=>zab H (λK'=>zaj false 1 t108 H (K' · H)) λt109=>zaA H (λH K'=>ACalls tP zj2 [t106,t107,t109] H K') λt110=>zab H (λK'=>aUn .not t110 (K' · H)) λt111=>zag t111 (K (.bool false) H) (znQ t0 t3 t4 t5 t6 t7 t93 t94 t95 H K Kb5 Kb12 Kb18))) (zac .add false t7 (.int .i64 1) λt60=>Kb12 (znN t0 t3 t4 t5 t6 t60) H)
def zuV:Prop:=zaf 2 t6 λt55=>zae false 1 t55 H λt56=>zah 1 t56 λt57=>zac .lss false t7 t57 λt58=>zag t58 (zaf 2 t6 λt61=>zae false 1 t61 H λt62=>zak 2 t62 t7 λt64=>zaf 0 t64 λt65=>zae false 1 t65 H λt66=>ACalls tP zkd [t66] H λt67 H=>aUn .not t67 λt68=>zad t68 false H (λK'=>zaf 2 t6 (K' · H)) λt70 H=>zad t68 false H (λK'=>zae false 1 t70 H (K' · H)) λt71 H=>zad t68 false H (λK'=>K' t7 H) λt72 H=>zad t68 false H (λK'=>zak 2 t71 t72 (K' · H)) λt73 H=>zad t68 false H (λK'=>zaf 1 t73 (K' · H)) λt74 H=>zad t68 false H (λK'=>zae false 1 t74 H (K' · H)) λt75 H=>zad t68 false H (λK'=>zah 1 t75 (K' · H)) λt76 H=>zad t68 false H (λK'=>zac .gtr false t76 (.int .i64 6) (K' · H)) λt77 H=>zam t68 (.bool true) t77 λt78=>zag t78 (K (.bool false) H) (zaf 2 t6 λt80=>zae false 1 t80 H λt81=>zak 2 t81 t7 λt83=>zaf 0 t83 λt84=>zae false 1 t84 H λt85=>zau 1 [(.str [])] 1 [(0,t85)] λt86=>zav zb9 1 16 t4 t86 H λt87 H=>zaf 2 t6 λt88=>zae false 1 t88 H λt89=>zak 2 t89 t7 λt91=>zaf 1 t91 λt92=>zae false 1 t92 H λt93=>zah 1 t93 λt94=>zDY t0 t3 t87 t5 t6 t7 t93 t94 (.int .i64 0) H K Kb5 Kb12)) (zac .add false t5 (.int .i64 1) λt18=>Kb5 (znP t0 t3 t4 t18) H)
def zf5:Prop:=zah 1 t0 λt15=>zac .lss false t5 t15 λt16=>zag t16 (zak 3 t0 t5 λt21=>zae true 3 t21 H λt22=>zay [(.str []),(.int .i64 0),.snil] H λt6 H=>zao 3 t6 t22 H λH=>zaf 1 t6 λt23=>zae false 1 t23 H λt24=>zac .lss false t24 (.int .i64 0) λt25=>zad t25 false H (λK'=>zaf 1 t6 (K' · H)) λt27 H=>zad t25 false H (λK'=>zae false 1 t27 H (K' · H)) λt28 H=>zad t25 false H (λK'=>zac .gtr false t28 (.int .i64 6) (K' · H)) λt29 H=>zam t25 (.bool true) t29 λt30=>zad t30 false H (λK'=>zaf 2 t6 (K' · H)) λt32 H=>zad t30 false H (λK'=>zae false 1 t32 H (K' · H)) λt33 H=>zad t30 false H (λK'=>zah 1 t33 (K' · H)) λt34 H=>zad t30 false H (λK'=>zac .lss false t34 (.int .i64 1) (K' · H)) λt35 H=>zam t30 (.bool true) t35 λt36=>zad t36 false H (λK'=>zaf 2 t6 (K' · H)) λt38 H=>zad t36 false H (λK'=>zae false 1 t38 H (K' · H)) λt39 H=>zad t36 false H (λK'=>zah 1 t39 (K' · H)) λt40 H=>zad t36 false H (λK'=>zac .gtr false t40 (.int .i64 8) (K' · H)) λt41 H=>zam t36 (.bool true) t41 λt42=>zad t42 false H (λK'=>zaf 0 t6 (K' · H)) λt44 H=>zad t42 false H (λK'=>zae false 1 t44 H (K' · H)) λt45 H=>zad t42 false H (λK'=>ACalls tP zkd [t45] H K') λt46 H=>zad t42 false H (λK'=>aUn .not t46 (K' · H)) λt47 H=>zam t42 (.bool true) t47 λt48=>zag t48 (K (.bool false) H) (zaf 0 t6 λt50=>zae false 1 t50 H λt51=>zau 1 [(.str [])] 1 [(0,t51)] λt52=>zav zb9 1 16 t3 t52 H λt53 H=>zDX t0 t53 t4 t5 t6 (.int .i64 0) H K Kb5)) (ACalls tP zh2 [t3] H λt114 H=>aUn .not t114 λt115=>zad t115 true H (λK'=>K' t4 H) λt117 H=>zad t115 true H (λK'=>ACalls tP zh2 [t117] H K') λt118 H=>zad t115 true H (λK'=>aUn .not t118 (K' · H)) λt119 H=>zam t115 t119 (.bool false) λt120=>K t120 H)
def zuU:Prop:=zah 1 t0 λt11=>zac .gtr false t11 (.int .i64 12) λt12=>zag t12 (K (.bool false) H) (znR t0 .snil .snil (.int .i64 0) H K)
def zf9:Nat→List Bool | 2=>rl false [0,1,2,1,21] | 5=>rl false [0,1,2,2,20] | _=>[]
noncomputable def zvR:Code:=Tryz.f94.body.getD .skip
noncomputable def zXV:List ResultVar:=Tryz.f94.results.toList
def zoI:List AV:=t0::ux 2 (t3::ux 21 [])
def zFc:List Bool:=zf9 2
noncomputable def zvS:Code:=zar [1,0,1,0,0] zvR
def zE9:AExit→List AV→zaa→Prop:=zas tP zf9 [1,0,1,0] zvR (zaz tP zXV K)
def zFa:Prop:=ALoop tP zvS (zE9 K) (zoI t0 t3) H
def zoJ:List AV:=t0::ux 2 (t3::t4::ux 20 [])
def zXT:List Bool:=zf9 5
noncomputable def zXQ:Code:=zar [1,0,0,1,0,0] zvS
def zXP:AExit→List AV→zaa→Prop:=zas tP zf9 [1,0,0,1,0] zvS (zbL zFc Kb2 (zE9 K))
def zFb:Prop:=ALoop tP zXQ (zXP K Kb2) (zoJ t0 t3 t4) H
def zvQ:Prop:=zac .lss false t4 t3 λt13=>zag t13 (zab H (λK'=>K' t0 H) λt16=>zab H (λK'=>K' t3 H) λt17=>zab H (λK'=>zak 1 t16 t17 (K' · H)) λt18=>zab H (λK'=>zaj false 1 t18 H (K' · H)) λt19=>zab H (λK'=>K' t0 H) λt20=>zab H (λK'=>K' t4 H) λt21=>zab H (λK'=>zak 1 t20 t21 (K' · H)) λt22=>zab H (λK'=>zaj false 1 t22 H (K' · H)) λt23=>zab H (λK'=>zac .eql false t19 t23 (K' · H)) λt24=>zag t24 (K (.bool true) H) (zac .add false t4 (.int .i64 1) λt15=>Kb5 (zoJ t0 t3 t15) H)) (zac .add false t3 (.int .i64 1) λt10=>Kb2 (zoI t0 t10) H)
def zvP:Prop:=zah 1 t0 λt7=>zac .lss false t3 t7 λt8=>zag t8 (zFb t0 t3 (.int .i64 0) H K Kb2) (K (.bool false) H)
def zE8:Prop:=zFa t0 (.int .i64 0) H K
variable {t0 t3 t4 t5 t6 t7 t93 t94 t95} {H} {K} {Kb2 Kb5 Kb12 Kb18}
theorem zUF (Inv:Nat→AV→zaa→Prop) (n:Nat) (h0:HSc H→Inv n t95 H)
  (ac:Rd1 (λt95=>znO t0 t3 t4 t5 t6 t7 t93 t94 t95) (λt95=>λH Kb18=>zuW t0 t3 t4 t5 t6 t7 t93 t94 t95 H K Kb5 Kb12 Kb18) H Inv):zDY t0 t3 t4 t5 t6 t7 t93 t94 t95 H K Kb5 Kb12:=
 lp1 (M:=zed) zUH t95 (by kernel_rfl) Inv n h0 ac
theorem zUE (Inv:Nat→AV→AV→zaa→Prop) (n:Nat) (h0:HSc H→Inv n t4 t7 H)
  (ac:Rd2 (λt4=>λt7=>znN t0 t3 t4 t5 t6 t7) (λt4=>λt7=>λH Kb12=>zuV t0 t3 t4 t5 t6 t7 H K Kb5 Kb12) H Inv):zDX t0 t3 t4 t5 t6 t7 H K Kb5:=
 lp2 (M:=zed) zDZ t4 t7 (by kernel_rfl) Inv n h0 ac
theorem zUG (Inv:Nat→AV→AV→AV→zaa→Prop) (n:Nat) (h0:HSc H→Inv n t3 t4 t5 H)
  (ac:Rd3 (λt3=>λt4=>λt5=>znP t0 t3 t4 t5) (λt3=>λt4=>λt5=>λH Kb5=>zf5 t0 t3 t4 t5 H K Kb5) H Inv):znR t0 t3 t4 t5 H K:=
 lp3 (M:=zed) zD0 t3 t4 t5 (by kernel_rfl) Inv n h0 ac
theorem zUI (h:HSc H→zuU t0 H K):ACalls tP zqT [t0] H K:=
 acb zed Tryz.func48 zuX (by kernel_rfl) (by kernel_rfl) h
theorem zXS (Inv:Nat→AV→zaa→Prop) (n:Nat) (h0:HSc H→Inv n t4 H)
  (ac:Rd1 (λt4=>zoJ t0 t3 t4) (λt4=>λH Kb5=>zvQ t0 t3 t4 H K Kb2 Kb5) H Inv):zFb t0 t3 t4 H K Kb2:=
 lp1 (M:=zf9) zXT t4 (by kernel_rfl) Inv n h0 ac
theorem zXR (Inv:Nat→AV→zaa→Prop) (n:Nat) (h0:HSc H→Inv n t3 H)
  (ac:Rd1 (λt3=>zoI t0 t3) (λt3=>λH Kb2=>zvP t0 t3 H K Kb2) H Inv):zFa t0 t3 H K:=
 lp1 (M:=zf9) zFc t3 (by kernel_rfl) Inv n h0 ac
theorem zXU (h:HSc H→zE8 t0 H K):ACalls tP zh2 [t0] H K:=
 acb zf9 Tryz.func94 zvR (by kernel_rfl) (by kernel_rfl) h
end
theorem zdo {k:AV→Prop} (a b:AV) (vs:List AV):zaC (.tup (a::b::vs)) 1 k=k b:=propext Iff.rfl
theorem zdp {k:AV→Prop} (a b c:AV) (vs:List AV):zaC (.tup (a::b::c::vs)) 2 k=k c:=propext Iff.rfl
def zfI (s:List UInt8):List Tk × Int × Int:=
 if s.length>16384 then ([],0,9) else
 match zbG (kwF kwds) s 0 with
 | .error (p,e)=>([],p,e)
 | .ok l=>(l,0,0)
theorem zzv (s:List UInt8):ze3 s=.tup [.sl ((zfI s).1.map Tk.cs) .none,.int .i64 (zfI s).2.1,.int .i64 (zfI s).2.2]:=by
 unfold ze3 zfI;split
 ·rfl
 ·split <;> (rename_i h;simp[h])
def zcc (s:List UInt8) (x:List Tk × Int × Int):Bool:=x.2.2 == 0 && match x.1 with
 | [a,_]=>a.kind == 2 && a.text == s
 | _=>false
def zda (s:List UInt8):Bool:=zcc s (zfI s)
theorem zCV (s:List UInt8) (H:zaa) (K:AV→zaa→Prop) (hK:K (.bool (zda s)) H):ACalls tP zjP [.str s] H K:=by
 refine ACalls.out (zRf λhs=>?_);have hO:Out H.length K (.bool (zda s)) H:=Out.bool (J:=[]) (by simp) (Nat.le_refl _) hs hK;simp only[zCU];refine zJy s _ _ ?_;rw[zzv];rw[zda]at hO;generalize zfI s=x at hO ⊢;obtain⟨l,p,e⟩:=x;clear hK;cases h0:e == 0 with
 | false=>rw[show zcc s (l,p,e)=false by simp[zcc,h0]]at hO;simp[zdo,zdp,h0];exact hO
 | true=>
 match l with
 | []=>rw[show zcc s ([],p,e)=false by simp[zcc]]at hO;simp[zdo,zdp,h0];exact hO
 | [x]=>rw[show zcc s ([x],p,e)=false by simp[zcc]]at hO;simp[zdo,zdp,h0];exact hO
 | [a,x]=>
  rw[show zcc s ([a,x],p,e)=(a.kind == 2 && a.text == s) by simp[zcc,h0]]at hO;cases hk:a.kind == 2 with
  | false=>rw[hk]at hO;simp[zdo,zdp,h0,Tk.cs,hk];exact hO
  | true=>rw[hk]at hO;simp[zdo,zdp,h0,Tk.cs,hk];exact hO
 | a::b::c::r=>
  rw[show zcc s (a::b::c::r,p,e)=false by simp[zcc]]at hO;have:¬ ((r.length:Int)+1+1+1=2):=by omega
  have h2:((r.length:Int)+1+1+1 == 2)=false:=by simpa using this
  simp[zdo,zdp,h0,h2];exact hO
theorem zE5 (s:List UInt8) (H:zaa) (K:AV→zaa→Prop) (hK:K (.bool (zda s)) H):ACalls tP zkd [.str s] H K:=by
 refine ACalls.out (zXI λhs=>?_);have hO:Out H.length K (.bool (zda s)) H:=Out.bool (J:=[]) (by simp) (Nat.le_refl _) hs hK;simp only[zE4];refine zJz s _ _ ?_;rw[zzv];rw[zda]at hO;generalize zfI s=x at hO ⊢;obtain⟨l,p,e⟩:=x;clear hK;cases h0:e == 0 with
 | false=>rw[show zcc s (l,p,e)=false by simp[zcc,h0]]at hO;simp[zdo,zdp,h0];exact hO
 | true=>
 match l with
 | []=>rw[show zcc s ([],p,e)=false by simp[zcc]]at hO;simp[zdo,zdp,h0];exact hO
 | [x]=>rw[show zcc s ([x],p,e)=false by simp[zcc]]at hO;simp[zdo,zdp,h0];exact hO
 | [a,x]=>
  rw[show zcc s ([a,x],p,e)=(a.kind == 2 && a.text == s) by simp[zcc,h0]]at hO;cases hk:a.kind == 2 with
  | false=>rw[hk]at hO;simp[zdo,zdp,h0,Tk.cs,hk];exact hO
  | true=>rw[hk]at hO;simp[zdo,zdp,h0,Tk.cs,hk];exact hO
 | a::b::c::r=>
  rw[show zcc s (a::b::c::r,p,e)=false by simp[zcc]]at hO;have:¬ ((r.length:Int)+1+1+1=2):=by omega
  have h2:((r.length:Int)+1+1+1 == 2)=false:=by simpa using this
  simp[zdo,zdp,h0,h2];exact hO
def zcm (l:List (List UInt8)):Bool:=!decide l.Nodup
def strs (l:List (List UInt8)):List (List AV):=l.map λs=>[.str s]
@[simp] theorem yb8 (l:List (List UInt8)):(strs l).length=l.length:=by simp[strs]
theorem zJG {l:List (List UInt8)} {i:Nat} (h:i<(strs l).length):(strs l)[i]=[.str (l[i]'(by simpa using h))]:=by simp[strs]
theorem zIk {l:List (List UInt8)} {i j:Nat} (hi:i<l.length) (hj:j<i) (h:l[i]=l[j]):zcm l=true:=by simp only[zcm,Bool.not_eq_true',decide_eq_false_iff_not];intro hn;exact (List.pairwise_iff_getElem.mp hn) j i (by omega) hi hj h.symm
theorem zXW (l:List (List UInt8)) (hl:l.length≤1000000) (H:zaa) (K:AV→zaa→Prop) (hK:K (.bool (zcm l)) H):ACalls tP zh2 [.sl (strs l) .none] H K:=by
 refine ACalls.out (zXU λhs=>?_);have hO:Out H.length K (.bool (zcm l)) H:=Out.bool (J:=[]) (by simp) (Nat.le_refl _) hs hK;simp[zE8];refine zXR (Inv:=λq t3 H'=>∃ i:Nat,i≤l.length∧q=l.length-i∧t3=.int .i64 i∧(∀ a b (ha:a<i) (hb:b<a) (h':a<l.length),l[a]≠l[b])∧H=H') l.length ?_ ?_
 ·intro _;exact⟨0,by omega,by omega,rfl,by omega,rfl⟩
 ·rintro q t3 H' ⟨i,hi,rfl,rfl,aB,rfl⟩ hsc am aM Kb au;by_cases ak:i<l.length
  ·simp[zvP,ak];refine zXS (Inv:=λq t4 H'=>∃ j:Nat,j≤i∧q=i-j∧t4=.int .i64 j∧(∀ b (hb:b<j) (km:b<l.length),l[i]≠l[b])∧H=H') i ?_ ?_
   ·intro _;exact⟨0,by omega,by omega,rfl,by omega,rfl⟩
   ·rintro q t4 H' ⟨j,hj,rfl,rfl,l6,rfl⟩ i8 bL i9 Kb1 eB;by_cases aQ:j<i
    ·simp[zvQ,aQ,ak,show j<l.length by omega,zJG];cases he:l[i] == l[j] with
     | true=>rw[zIk ak aQ (by simpa using he)]at hO;simpa using hO
     | false=>
      simp;rw[zaw (by omega) (by omega)];refine eB _ _ ⟨i-(j+1),by omega,Back.at (J:=[]) (H2:=H) (by simp) (Nat.le_refl _) hs ?_ ⟨_,rfl,j+1,by omega,rfl,by simp,?_,rfl⟩⟩
      ·simp[zoJ,AV.sc,AV.scV,AV.scA,AV.scB]
      ·intro b hb km;by_cases hbj:b=j
       ·subst hbj;simpa using he
       ·exact l6 b (by omega) km
    ·obtain rfl:j=i:=by omega
     simp[zvQ];rw[zaw (by omega) (by omega)];refine au _ _ ⟨l.length-(j+1),by omega,Back.at (J:=[]) (H2:=H) (by simp) (Nat.le_refl _) hs ?_ ⟨_,rfl,j+1,by omega,rfl,by simp,?_,rfl⟩⟩
     ·simp[zoI,AV.sc,AV.scV,AV.scA,AV.scB]
     ·intro a b ha hb h';by_cases haj:a=j
      ·subst haj;exact l6 b hb (by omega)
      ·exact aB a b (by omega) hb h'
  ·obtain rfl:i=l.length:=by omega
   have:zcm l=false:=by simp only[zcm,Bool.not_eq_false',decide_eq_true_eq];refine List.pairwise_iff_getElem.mpr λa b ha hb bb he=>?_;exact aB b a hb bb hb he.symm
   rw[this]at hO;simp[zvP];exact hO
section
variable (t0 t1 t2 t3 t4 t5 t8 t14 t15 t27 t28 t29 t76 t77 t78:AV) (H:zaa) (K:Kt) (Kb5 Kb6 Kb13:Lt)
def zfS:Nat→List Bool | 5=>rl false [0,1,2,2,9,2,89] | 13=>rl false [0,1,2,3,8,2,60,3,26] | _=>[]
noncomputable def ztd:Code:=Tryz.f159.body.getD .skip
noncomputable def zOz:List ResultVar:=Tryz.f159.results.toList
def zml:List AV:=t0::ux 2 (t3::t4::ux 9 (t14::t15::ux 89 []))
def zBM:List Bool:=zfS 5
noncomputable def zte:Code:=zar [1,1,1,0,1,0,0] ztd
def zBJ:AExit→List AV→zaa→Prop:=zas tP zfS [1,1,1,0,1,0] ztd (zaz tP zOz K)
def zBL:Prop:=ALoop tP zte (zBJ K) (zml t0 t3 t4 t14 t15) H
def zmk:List AV:=t0::ux 2 (t3::t4::t5::ux 8 (t14::t15::ux 60 (t76::t77::t78::ux 26 [])))
def zOx:List Bool:=zfS 13
noncomputable def zOu:Code:=zar [1,1,0,0,1,1,1,1,1,0,0] zte
def zOt:AExit→List AV→zaa→Prop:=zas tP zfS [1,1,0,0,1,1,1,1,1,0] zte (zbL zBM Kb5 (zBJ K))
def zBK:Prop:=ALoop tP zOu (zOt K Kb5) (zmk t0 t3 t4 t5 t14 t15 t76 t77 t78) H
def ztb:Prop:=zac .lss false t78 t77 λt79=>zag t79 (zak 2 t76 t78 λt81=>zae true 2 t81 H λt82=>zay [(.str []),.snil] H λt7 H=>zao 2 t7 t82 H λH=>zaf 0 t7 λt83=>zae false 1 t83 H λt84=>ACalls tP zjP [t84] H λt85 H=>aUn .not t85 λt86=>zad t86 false H (λK'=>K' t4 H) λt88 H=>zad t86 false H (λK'=>zaf 0 t7 (K' · H)) λt89 H=>zad t86 false H (λK'=>zae false 1 t89 H (K' · H)) λt90 H=>zad t86 false H (λK'=>zdK (.bool false) false t88 t90 H (K' · H)) λt91 H=>zam t86 (.bool true) t91 λt92=>zad t92 false H (λK'=>K' t0 H) λt94 H=>zad t92 false H (λK'=>K' t5 H) λt95 H=>zad t92 false H (λK'=>K' t78 H) λt96 H=>zad t92 false H (λK'=>ACalls tP zqC [t94,t95,t96] H K') λt97 H=>zad t92 false H (λK'=>aUn .not t97 (K' · H)) λt98 H=>zam t92 (.bool true) t98 λt99=>zag t99 (K (.bool false) H) (zaf 0 t7 λt101=>zae false 1 t101 H λt102=>zcW t4 t102 (.bool true) H λH=>zac .add false t78 (.int .i64 1) λt103=>Kb13 (zmk t0 t3 t4 t5 t14 t15 t76 t77 t103) H)) (zac .add false t15 (.int .i64 1) λt104=>Kb5 (zml t0 t3 t4 t14 t104) H)
def ztc:Prop:=zac .lss false t15 t14 λt16=>zag t16 (zak 3 t0 t15 λt20=>zaf 0 t20 λt21=>zae false 1 t21 H λt22=>ACalls tP zjP [t22] H λt23 H=>aUn .not t23 λt24=>zad t24 false H (λK'=>K' t3 H) λt26 H=>zad t24 false H (λK'=>K' t0 H) λt27 H=>zad t24 false H (λK'=>K' t15 H) λt28 H=>zad t24 false H (λK'=>zak 3 t27 t28 (K' · H)) λt29 H=>zad t24 false H (λK'=>zaf 0 t29 (K' · H)) λt30 H=>zad t24 false H (λK'=>zae false 1 t30 H (K' · H)) λt31 H=>zad t24 false H (λK'=>zdK (.bool false) false t26 t31 H (K' · H)) λt32 H=>zam t24 (.bool true) t32 λt33=>zad t33 false H (λK'=>K' t0 H) λt35 H=>zad t33 false H (λK'=>K' t15 H) λt36 H=>zad t33 false H (λK'=>zak 3 t35 t36 (K' · H)) λt37 H=>zad t33 false H (λK'=>zaf 1 t37 (K' · H)) λt38 H=>zad t33 false H (λK'=>zae false 1 t38 H (K' · H)) λt39 H=>zad t33 false H (λK'=>zac .lss false t39 (.int .i64 0) (K' · H)) λt40 H=>zam t33 (.bool true) t40 λt41=>zad t41 false H (λK'=>K' t0 H) λt43 H=>zad t41 false H (λK'=>K' t15 H) λt44 H=>zad t41 false H (λK'=>zak 3 t43 t44 (K' · H)) λt45 H=>zad t41 false H (λK'=>zaf 1 t45 (K' · H)) λt46 H=>zad t41 false H (λK'=>zae false 1 t46 H (K' · H)) λt47 H=>zad t41 false H (λK'=>zac .gtr false t47 (.int .i64 6) (K' · H)) λt48 H=>zam t41 (.bool true) t48 λt49=>zag t49 (K (.bool false) H) (zak 3 t0 t15 λt53=>zaf 0 t53 λt54=>zae false 1 t54 H λt55=>zcW t3 t55 (.bool true) H λH=>zak 3 t0 t15 λt58=>zaf 2 t58 λt59=>zae false 1 t59 H λt60=>zah 1 t60 λt61=>zac .lss false t61 (.int .i64 1) λt62=>zad t62 false H (λK'=>K' t0 H) λt64 H=>zad t62 false H (λK'=>K' t15 H) λt65 H=>zad t62 false H (λK'=>zak 3 t64 t65 (K' · H)) λt66 H=>zad t62 false H (λK'=>zaf 2 t66 (K' · H)) λt67 H=>zad t62 false H (λK'=>zae false 1 t67 H (K' · H)) λt68 H=>zad t62 false H (λK'=>zah 1 t68 (K' · H)) λt69 H=>zad t62 false H (λK'=>zac .gtr false t69 (.int .i64 8) (K' · H)) λt70 H=>zam t62 (.bool true) t70 λt71=>zag t71 (K (.bool false) H) (zak 3 t0 t15 λt74=>zaf 2 t74 λt75=>zae false 1 t75 H λt76=>zah 1 t76 λt77=>zBK t0 t3 t4 t15 t14 t15 t76 t77 (.int .i64 0) H K Kb5))) (K (.bool true) H)
def zta:Prop:=zah 1 t0 λt9=>zac .gtr false t9 (.int .i64 12) λt10=>zag t10 (K (.bool false) H) (zdZ H λt11 H=>zdZ H λt12 H=>zah 1 t0 λt14=>zBL t0 t11 t12 t14 (.int .i64 0) H K)
def zmZ:Nat→List Bool | 6=>rl false [0,2,6,1,18,3,29] | _=>[]
noncomputable def ztZ:Code:=Tryz.f201.body.getD .skip
noncomputable def zRl:List ResultVar:=Tryz.f201.results.toList
def ziH:List AV:=t0::t1::ux 6 (t8::ux 18 (t27::t28::t29::ux 29 []))
def zRj:List Bool:=zmZ 6
noncomputable def zRh:Code:=zar [1,1,1,1,0,1,0,0] ztZ
def zRg:AExit→List AV→zaa→Prop:=zas tP zmZ [1,1,1,1,0,1,0] ztZ (zaz tP zRl K)
def zCX:Prop:=ALoop tP zRh (zRg K) (ziH t0 t1 t8 t27 t28 t29) H
def ztY:Prop:=zac .lss false t29 t28 λt30=>zag t30 (zak 3 t27 t29 λt32=>zae true 3 t32 H λt33=>zay [(.int .i64 0),(.int .i64 0),.snil] H λt10 H=>zao 3 t10 t33 H λH=>zab H (λK'=>K' t0 H) λt34=>zab H (λK'=>K' t1 H) λt35=>zab H (λK'=>zac .add false t35 (.int .i64 1) (K' · H)) λt36=>zab H (λK'=>zaN 1 3 t34 none (some t36) (K' · H)) λt37=>zab H (λK'=>zaj true 3 t10 H (K' · H)) λt38=>zab H (λK'=>K' t0 H) λt39=>zab H (λK'=>K' t1 H) λt40=>zab H (λK'=>zak 3 t39 t40 (K' · H)) λt41=>zab H (λK'=>zaf 1 t41 (K' · H)) λt42=>zab H (λK'=>zaj false 1 t42 H (K' · H)) λt43=>zaA H (λH K'=>ACalls tP zhM [t37,t38,t43] H K') λt44=>zab H (λK'=>aUn .not t44 (K' · H)) λt45=>zab H (λK'=>K' t45 H) λt46=>zad t46 false H (λK'=>zab H (λK''=>K'' t8 H) (K' · H)) λt47 H=>zad t46 false H (λK'=>zab H (λK''=>K'' t29 H) (K' · H)) λt48 H=>zad t46 false H (λK'=>zab H (λK''=>zak 1 t47 t48 (K'' · H)) (K' · H)) λt49 H=>zad t46 false H (λK'=>zab H (λK''=>zaj false 1 t49 H (K'' · H)) (K' · H)) λt50 H=>zad t46 false H (λK'=>zab H (λK''=>aUn .not t50 (K'' · H)) (K' · H)) λt51 H=>zad t46 false H (λK'=>zab H (λK''=>K'' t51 H) (K' · H)) λt52 H=>zad t52 true H (λK'=>zab H (λK''=>zaj true 3 t10 H (K'' · H)) (K' · H)) λt53 H=>zad t52 true H (λK'=>zab H (λK''=>K'' t1 H) (K' · H)) λt54 H=>zad t52 true H (λK'=>zaA H (λH K''=>ACalls tP zjV [t53,t54] H K'') (K' · H)) λt55 H=>zad t46 false H (λK'=>zab H (λK''=>zam t52 t55 (.bool false) (K'' · H)) (K' · H)) λt56 H=>zab H (λK'=>zam t46 (.bool true) t56 (K' · H)) λt57=>zag t57 (K (.bool false) H) (zac .add false t29 (.int .i64 1) λt58=>Kb6 (ziH t0 t1 t8 t27 t28 t58) H)) (K (.bool true) H)
def zCW:Prop:=zak 3 t0 t1 λt13=>zaf 2 t13 λt14=>zae false 1 t14 H λt15=>zak 2 t15 t2 λt17=>zaf 1 t17 λt18=>zae false 1 t18 H λt19=>zah 1 t19 λt21=>zac .gtr false t21 (.int .i64 6) λt22=>zag t22 (K (.bool false) H) (ACalls tP zfx [t0,t1,t2] H λt26 H=>zah 1 t19 λt28=>zCX t0 t1 t26 t19 t28 (.int .i64 0) H K)
variable {t0 t1 t2 t3 t4 t5 t8 t14 t15 t27 t28 t29 t76 t77 t78} {H} {K} {Kb5 Kb6 Kb13}
theorem zOv (Inv:Nat→AV→zaa→Prop) (n:Nat) (h0:HSc H→Inv n t78 H)
  (ac:Rd1 (λt78=>zmk t0 t3 t4 t5 t14 t15 t76 t77 t78) (λt78=>λH Kb13=>ztb t0 t3 t4 t5 t14 t15 t76 t77 t78 H K Kb5 Kb13) H Inv):zBK t0 t3 t4 t5 t14 t15 t76 t77 t78 H K Kb5:=
 lp1 (M:=zfS) zOx t78 (by kernel_rfl) Inv n h0 ac
theorem zOw (Inv:Nat→AV→zaa→Prop) (n:Nat) (h0:HSc H→Inv n t15 H)
  (ac:Rd1 (λt15=>zml t0 t3 t4 t14 t15) (λt15=>λH Kb5=>ztc t0 t3 t4 t14 t15 H K Kb5) H Inv):zBL t0 t3 t4 t14 t15 H K:=
 lp1 (M:=zfS) zBM t15 (by kernel_rfl) Inv n h0 ac
theorem zOy (h:HSc H→zta t0 H K):ACalls tP zqr [t0] H K:=
 acb zfS Tryz.func159 ztd (by kernel_rfl) (by kernel_rfl) h
theorem zRi (Inv:Nat→AV→zaa→Prop) (n:Nat) (h0:HSc H→Inv n t29 H)
  (ac:Rd1 (λt29=>ziH t0 t1 t8 t27 t28 t29) (λt29=>λH Kb6=>ztY t0 t1 t8 t27 t28 t29 H K Kb6) H Inv):zCX t0 t1 t8 t27 t28 t29 H K:=
 lp1 (M:=zmZ) zRj t29 (by kernel_rfl) Inv n h0 ac
theorem zRk (h:HSc H→zCW t0 t1 t2 H K):ACalls tP zqC [t0,t1,t2] H K:=
 acb zmZ Tryz.func201 ztZ (by kernel_rfl) (by kernel_rfl) h
end
def zd0 (aa:List Dat) (d:Nat) (vars:Int) (t:VT):Bool:=zaV (aa.take (d+1)) vars t && (zb4 d vars t || !zcu d t)
theorem zRm (aa:List Dat) (d:Nat) (c:Nat) (hd:d<aa.length) (hc:c<(aa[d]).cons.length) (hl:aa.length≤1000000) (bP:(aa[d]).cons.length≤1000000) (dX:((aa[d]).cons[c]).args.length≤1000000)
  (hb:∀ x∈((aa[d]).cons[c]).args,x.nodes≤1000000) (H:zaa) (K:AV→zaa→Prop)
  (hK:K (.bool (decide (((aa[d]).cons[c]).args.length≤6) && ((aa[d]).cons[c]).args.all (zd0 aa d (aa[d]).vars))) H) :
  ACalls tP zqC [.sl (aa.map Dat.cs) .none,.int .i64 d,.int .i64 c] H K:=by
 refine ACalls.out (zRk λhs=>?_);have e1:(aa.map Dat.cs)[d]?=some (aa[d]).cs:=by simp[hd]
 have e2:((aa[d]).cons.map Con.cs)[c]?=some ((aa[d]).cons[c]).cs:=by simp[hc]
 have eE:=ztB aa d c hd hc hl bP dX hb;generalize hD:aa[d]=D at *;generalize hA:D.cons[c]=C at *;have hO:∀ J,Out H.length K (.bool (decide (C.args.length≤6) && C.args.all (zd0 aa d D.vars))) (H++J):=λJ=>Out.bool rfl (Nat.le_refl _) hs hK;simp[zCW,e1,e2,Dat.cs,Con.cs,hd,hD,hc,hA];by_cases h6:C.args.length≤6
 ·have dI:¬ (6:Int)<C.args.length:=by omega
  have jd:¬ 6<C.args.length:=by omega
  simp[dI,jd];refine eE _ _ ?_;simp[h6]at hO;refine zRi (Inv:=λq t29 H'=>∃ i:Nat,i≤C.args.length∧q=C.args.length-i∧t29=.int .i64 i∧(C.args.drop i).all (zd0 aa d D.vars)=C.args.all (zd0 aa d D.vars)∧H=H') C.args.length ?_ ?_
  ·intro _;exact⟨0,by omega,by omega,rfl,by simp,rfl⟩
  ·rintro q t29 H' ⟨i,hi,rfl,rfl,ho,rfl⟩ hsc am aM Kb au;by_cases ak:i<C.args.length
   ·rw[List.drop_eq_getElem_cons ak,List.all_cons]at ho;have gb:=hb _ (List.getElem_mem ak);obtain⟨x1,x2,x3,aC,bC,bg,bz⟩:=zbs C.args[i];simp[ztY,ak,aC,e1,hd,hD,Dat.cs];refine⟨⟨bC,bg,bz⟩,?_⟩;rw[zaw (by omega) (by omega),show ((d:Int)+1).toNat=d+1 by omega,←List.map_take];refine⟨by omega,by omega,?_⟩;rw[←aC];refine zaB (.bool (zaV (aa.take (d+1)) D.vars C.args[i])) (λJ=>zA3 (aa.take (d+1)) D.vars _ (by omega) _ _ ⟨rfl,rfl⟩) ?_;have hao:zd0 aa d D.vars C.args[i]=(zaV (aa.take (d+1)) D.vars C.args[i] && (zb4 d D.vars C.args[i] || !zcu d C.args[i])):=rfl;rw[hao]at ho;cases hv:zaV (aa.take (d+1)) D.vars C.args[i] with
    | false=>rw[hv]at ho;simp only[Bool.false_and]at ho;rw[←ho]at hO;simp;exact hO _
    | true=>
    rw[hv]at ho;cases k0:zb4 d D.vars C.args[i] with
    | true=>rw[k0]at ho;simp[ak,k0];rw[zaw (by omega) (by omega)];refine au _ _ ⟨C.args.length-(i+1),by omega,Back.same (by simp) hs ?_ ⟨_,rfl,i+1,by omega,rfl,by simp,by simpa using ho,rfl⟩⟩;simp[ziH,AV.sc,AV.scV,AV.scA,AV.scB]
    | false=>
     rw[k0]at ho;simp[ak,k0];refine zaB (.bool (zcu d C.args[i])) (λJ=>zSq d _ _ (Nat.le_refl _) (by omega) _ _ ⟨rfl,rfl⟩) ?_;cases hm:zcu d C.args[i] with
     | true=>rw[hm]at ho;simp only[Bool.not_true,Bool.or_false,Bool.and_false,Bool.false_and]at ho;rw[←ho]at hO;simp;exact hO _
     | false=>rw[hm]at ho;simp;rw[zaw (by omega) (by omega)];refine au _ _ ⟨C.args.length-(i+1),by omega,Back.same (by simp) hs ?_ ⟨_,rfl,i+1,by omega,rfl,by simp,by simpa using ho,rfl⟩⟩;simp[ziH,AV.sc,AV.scV,AV.scA,AV.scB]
   ·obtain rfl:i=C.args.length:=by omega
    rw[List.drop_length,List.all_nil]at ho;rw[←ho]at hO;simp[ztY];simpa using hO []
 ·have dI:(6:Int)<C.args.length:=by omega
  have jd:6<C.args.length:=by omega
  simp[dI,jd];simp[h6]at hO;simpa using hO []
def zb5 (l:List (List UInt8)):List (List UInt8 × AV):=l.map λs=>(s,.bool true)
theorem zfH (s:List UInt8):∀ l:List (List UInt8),(zbO (zb5 l) s).getD (.bool false)=.bool (decide (s∈l))
 | []=>by simp[zb5,zbO]
 | a::l=>by
  have:=zfH s l;cases h:a == s with
  | true=>
   have h':a=s:=by simpa using h
   simp[zb5,zbO,h,h']
  | false=>
   have h':a≠s:=by simpa using h
   have h'':s≠a:=λe=>h' e.symm;simp only[zb5,List.map_cons,zbO,h]at this ⊢;rw[this];simp[h'']
theorem zrv (s:List UInt8):∀ l:List (List UInt8),s ∉ l→zcH (zb5 l) s (.bool true)=zb5 (l++[s])
 | [],_=>rfl
 | a::l,h=>by
  have h1:(a == s)=false:=by simp at h;simpa using λe=>h.1 e.symm
  have:=zrv s l (by simp at h;exact h.2);simp only[zb5,List.map_cons,zcH,h1,List.cons_append]at this ⊢;rw[this]
theorem zIE (m:Nat) (l:List (List UInt8)):(AB.map (zb5 l)).sc m=true:=by simp[AB.sc,zb5,AV.scV]
def zbB (aa:List Dat):List (List UInt8):=aa.map Dat.name
def zaT (aa:List Dat):List (List UInt8):=aa.flatMap λD=>D.cons.map Con.name
def zdv (aa:List Dat) (d:Nat) (vars:Int) (c:Con):Bool:=zda c.name && (decide (c.args.length≤6) && c.args.all (zd0 aa d vars))
def zcO (aa:List Dat) (d:Nat) (D:Dat):Bool:=zda D.name && decide (0≤D.vars) && decide (D.vars≤6) && decide (1≤D.cons.length) && decide (D.cons.length≤8) && D.cons.all (zdv aa d D.vars)
def zcZ (aa:List Dat):List Dat→Nat→Bool
 | [],_=>true
 | D::l,d=>zcO aa d D && zcZ aa l (d+1)
def zbq (aa:List Dat):Bool:=decide (aa.length≤12) && zcZ aa aa 0 && !zcm (zbB aa) && !zcm (zaT aa)
theorem zy1 {A R:List (List UInt8)} {s:List UInt8} (h:s∈A):zcm (A++s::R)=true:=by simp only[zcm,Bool.not_eq_true',decide_eq_false_iff_not,List.nodup_append];rintro⟨_,_,h3⟩;exact h3 s h s (by simp) rfl
theorem zrm {l:List (List UInt8)} (h:l.Nodup):zcm l=false:=by simp[zcm,h]
theorem zyt {A:List (List UInt8)} {s:List UInt8} (h:A.Nodup) (hs:s ∉ A):(A++[s]).Nodup:=by rw[List.nodup_append];refine⟨h,by simp,?_⟩;intro a ha b hb;simp at hb;subst hb;exact λe=>hs (e ▸ ha)
def zg5 (aa:List Dat):Prop:=∀ D∈aa,D.cons.length≤1000000∧∀ c∈D.cons,c.args.length≤1000000∧∀ x∈c.args,x.nodes≤1000000
theorem zOA (aa:List Dat) (hB:zg5 aa) (hl:aa.length≤1000000) (H:zaa) (K:AV→zaa→Prop) (hK:K (.bool (zbq aa)) H):ACalls tP zqr [.sl (aa.map Dat.cs) .none] H K:=by
 refine ACalls.out (zOy λhs=>?_);have hO:∀ J,Out H.length K (.bool (zbq aa)) (H++J):=λJ=>Out.bool rfl (Nat.le_refl _) hs hK;by_cases l7:aa.length≤12
 ·have eF:¬ (12:Int)<aa.length:=by omega
  have gf:¬ 12<aa.length:=by omega
  have iG:zcZ aa aa 0=false→∀ J,Out H.length K (.bool false) (H++J):=λh J=>by have:=hO J;rwa [show zbq aa=false by simp[zbq,h]]at this
  have hD1:zcm (zbB aa)=true→∀ J,Out H.length K (.bool false) (H++J):=λh J=>by have:=hO J;rwa [show zbq aa=false by simp[zbq,h]]at this
  have hD2:zcm (zaT aa)=true→∀ J,Out H.length K (.bool false) (H++J):=λh J=>by have:=hO J;rwa [show zbq aa=false by simp[zbq,h]]at this
  simp[zta,eF,gf];refine zOw (Inv:=λq t15 H'=>∃ i:Nat,i≤aa.length∧q=aa.length-i∧t15=.int .i64 i∧zcZ aa (aa.drop i) i=zcZ aa aa 0∧(zbB (aa.take i)).Nodup∧(zaT (aa.take i)).Nodup∧H'=H++[.map (zb5 (zbB (aa.take i))),.map (zb5 (zaT (aa.take i)))]) aa.length ?_ ?_
  ·intro _;exact⟨0,by omega,by omega,rfl,by simp,by simp[zbB],by simp[zaT],by simp[zbB,zaT,zb5]⟩
  ·rintro q t15 H' ⟨i,hi,rfl,rfl,ho,l8,cp,rfl⟩ hsc am aM Kb au;by_cases ak:i<aa.length
   ·have e1:(aa.map Dat.cs)[i]?=some (aa[i]).cs:=by simp[ak]
    obtain⟨k9,kp⟩:=hB _ (List.getElem_mem ak);have bo:=λc hc=>zRm aa i c ak hc hl k9 (kp _ (List.getElem_mem hc)).1 (kp _ (List.getElem_mem hc)).2;rw[List.drop_eq_getElem_cons ak,zcZ]at ho;have bk:aa.take (i+1)=aa.take i++[aa[i]]:=by rw[List.take_append_getElem ak]
    have a8:aa=aa.take i++aa[i]::aa.drop (i+1):=by rw[List.getElem_cons_drop,List.take_append_drop]
    generalize hD:aa[i]=D at *;have bA:zcO aa i D=false→zcZ aa aa 0=false:=λh=>by rw[←ho,h,Bool.false_and]
    have dt:∀ J,zcO aa i D=false→Out H.length K (.bool false) (H++[.map (zb5 (zbB (aa.take i))),.map (zb5 (zaT (aa.take i)))]++J):=λJ h=>by rw[List.append_assoc];exact iG (bA h) _
    simp[ztc,ak,e1,hD,Dat.cs];refine zCV _ _ _ ?_;cases hu:zda D.name with
    | false=>simp;exact iG (bA (by simp[zcO,hu])) _
    | true=>
    by_cases bf:D.name∈zbB (aa.take i)
    ·simp[ak,e1,hD,Dat.cs,zfH,bf];refine hD1 ?_ _;rw[a8];simp only[zbB,List.map_append,List.map_cons];exact zy1 bf
    by_cases dF:D.vars<0
    ·simp[ak,e1,hD,Dat.cs,zfH,bf,dF];exact iG (bA (by simp[zcO,show ¬ 0≤D.vars by omega])) _
    by_cases je:6<D.vars
    ·simp[ak,e1,hD,Dat.cs,zfH,bf,dF,je];exact iG (bA (by simp[zcO,show ¬ D.vars≤6 by omega])) _
    simp[ak,e1,hD,Dat.cs,zfH,bf,dF,je,zrv _ _ bf];by_cases bG:D.cons.length<1
    ·have bQ:(D.cons.length:Int)<1:=by omega
     simp[bQ];exact iG (bA (by simp[zcO,show ¬ 1≤D.cons.length by omega])) _
    have bQ:¬ (D.cons.length:Int)<1:=by omega
    by_cases l9:8<D.cons.length
    ·have eG:(8:Int)<D.cons.length:=by omega
     simp[ak,e1,hD,Dat.cs,bQ,eG,l9];exact iG (bA (by simp[zcO,show ¬ D.cons.length≤8 by omega])) _
    have eG:¬ (8:Int)<D.cons.length:=by omega
    have hdat:zcO aa i D=D.cons.all (zdv aa i D.vars):=by simp[zcO,hu,show 0≤D.vars by omega,show D.vars≤6 by omega,show 1≤D.cons.length by omega,show D.cons.length≤8 by omega]
    simp[ak,e1,hD,Dat.cs,bQ,eG,l9];have hdn':(zbB (aa.take (i+1))).Nodup:=by rw[bk];simp only[zbB,List.map_append,List.map_cons,List.map_nil];exact zyt l8 bf
    have hde:zbB (aa.take i)++[D.name]=zbB (aa.take (i+1)):=by rw[bk];simp[zbB]
    rw[hde];refine zOv (Inv:=λq t78 H'=>∃ j:Nat,j≤D.cons.length∧q=D.cons.length-j∧t78=.int .i64 j∧(D.cons.drop j).all (zdv aa i D.vars)=D.cons.all (zdv aa i D.vars)∧(zaT (aa.take i)++(D.cons.take j).map Con.name).Nodup∧H'=H++[.map (zb5 (zbB (aa.take (i+1)))),.map (zb5 (zaT (aa.take i)++(D.cons.take j).map Con.name))]) D.cons.length ?_ ?_
    ·intro _;exact⟨0,by omega,by omega,rfl,by simp,by simpa using cp,by simp⟩
    ·rintro q t78 H' ⟨j,hj,rfl,rfl,gI,jM,rfl⟩ i8 bL i9 Kb1 eB;have hscH:∀ A B,HSc (H++[.map (zb5 A),.map (zb5 B)]):=λA B=>hs.append (by simp[zIE]);by_cases aQ:j<D.cons.length
     ·have e2:(D.cons.map Con.cs)[j]?=some (D.cons[j]).cs:=by simp[aQ]
      have hargs':=bo j aQ;rw[List.drop_eq_getElem_cons aQ,List.all_cons]at gI;have htj:zaT (aa.take i)++(D.cons.take (j+1)).map Con.name=(zaT (aa.take i)++(D.cons.take j).map Con.name)++[(D.cons[j]).name]:=by rw[←List.take_append_getElem aQ,List.map_append,List.append_assoc];rfl
      have aN:zaT aa=(zaT (aa.take i)++(D.cons.take j).map Con.name)++(D.cons[j]).name::((D.cons.drop (j+1)).map Con.name++zaT (aa.drop (i+1))):=by
       have h1:D.cons.map Con.name=(D.cons.take j).map Con.name++(D.cons[j]).name::(D.cons.drop (j+1)).map Con.name:=by rw[←List.map_cons (f:=Con.name),List.getElem_cons_drop,←List.map_append,List.take_append_drop]
       conv=>lhs;rw[a8]
       simp only[zaT,List.flatMap_append,List.flatMap_cons,List.append_assoc,h1,List.cons_append]
      generalize hC:D.cons[j]=C at *;have hbad':zdv aa i D.vars C=false→zcZ aa aa 0=false:=λh=>bA (by rw[hdat,←gI,h,Bool.false_and]);generalize hA:zaT (aa.take i)++(D.cons.take j).map Con.name=A at *;simp only[ztb];simp[aQ,hC,Con.cs,Nat.add_assoc];refine zCV _ _ _ ?_;cases ma:zda C.name with
      | false=>simp;exact iG (hbad' (by simp[zdv,ma])) _
      | true=>
      by_cases kq:C.name∈A
      ·simp[zfH,kq];exact hD2 (by rw[aN];exact zy1 kq) _
      ·simp[zfH,kq];refine hargs' _ _ ?_;have mc:zdv aa i D.vars C=(decide (C.args.length≤6) && C.args.all (zd0 aa i D.vars)):=by simp[zdv,ma]
       rw[←mc];cases c6:zdv aa i D.vars C with
       | false=>simp;exact iG (hbad' c6) _
       | true=>
        rw[c6,Bool.true_and]at gI;simp[zrv _ _ kq];rw[zaw (by omega) (by omega)];refine eB _ _ ⟨D.cons.length-(j+1),by omega,Back.at (J:=[.cells [.str C.name,.sl (VT.css C.args) .none]]) (H2:=H++[.map (zb5 (zbB (aa.take (i+1)))),.map (zb5 (A++[C.name]))]) (by simp) (by simp) (hscH _ _) ?_ ⟨_,rfl,j+1,by omega,rfl,by simp,gI,?_,?_⟩⟩
        ·simp[zmk,AV.sc,AV.scV,AV.scA,AV.scB]
        ·rw[htj];exact zyt jM kq
        ·rw[htj]
     ·obtain rfl:j=D.cons.length:=by omega
      rw[List.drop_length,List.all_nil]at gI;rw[List.take_length]at *;simp[ztb];rw[zaw (by omega) (by omega)];have mc:zaT (aa.take i)++D.cons.map Con.name=zaT (aa.take (i+1)):=by rw[bk];simp[zaT]
      rw[mc]at jM ⊢;refine au _ _ ⟨aa.length-(i+1),by omega,Back.at (J:=[]) (by simp) (by simp) (hscH _ _) ?_ ⟨_,rfl,i+1,by omega,rfl,by simp,?_,hdn',jM,rfl⟩⟩
      ·simp[zml,AV.sc,AV.scV,AV.scA,AV.scB]
      ·rw[←ho,hdat,←gI,Bool.true_and]
   ·obtain rfl:i=aa.length:=by omega
    rw[List.drop_length,zcZ]at ho;rw[List.take_length]at *;simp[ztc];have:=hO [.map (zb5 (zbB aa)),.map (zb5 (zaT aa))];rwa [show zbq aa=true by simp[zbq,l7,←ho,zrm l8,zrm cp]]at this
 ·have eF:(12:Int)<aa.length:=by omega
  have gf:12<aa.length:=by omega
  rw[show zbq aa=false by simp[zbq,l7]]at hO;simp[zta,eF,gf];simpa using hO []
def zv7 (c:Con):Prop:=c.name.length≤40∧c.args.length≤8∧∀ t∈c.args,t.nodes≤20
def zoW (d:Dat):Prop:=d.name.length≤40∧d.cons.length≤10∧∀ c∈d.cons,zv7 c
def zbv (ds:List Dat):Prop:=ds.length≤14∧∀ d∈ds,zoW d
theorem zhE {α:Type} {l:List α} {i:Nat} (h:i<l.length) {p:α→Prop} (h1:∀ x∈l.take i,p x) (h2:p l[i]):∀ x∈l.take (i+1),p x:=by
 rw[List.take_succ_eq_append_getElem h];intro x hx;rcases List.mem_append.1 hx with hx | hx
 ·exact h1 x hx
 ·simp at hx;subst hx;exact h2
theorem zx0 {α:Type} {cs:α→List AV} {l:List α} {i:Nat} (h:i<l.length):(l.map cs)[i]?.getD []=cs l[i]:=by simp[h]
theorem vt3 (v:VT):∃ a b c,v.cs=[a,b,c]∧a.known=true∧b.known=true∧c.known=true:=by obtain⟨k,n,ks⟩:=v;exact⟨_,_,_,rfl,rfl,rfl,rfl⟩
theorem zTw (ds:List Dat) (H:zaa) (K:AV→zaa→Prop) (am:ds.length≤9223372036854775807) (hK:∀ b,(b=true→zbv ds)→K (.bool b) H):ACalls tP zqN [.sl (ds.map Dat.cs) .none] H K:=by
 refine ACalls.out (zTu λhs=>?_);have hF:∀ J,Out H.length K (.bool false) (H++J):=λJ=>Out.bool rfl (Nat.le_refl _) hs (hK false λh=>by cases h);have hF0:Out H.length K (.bool false) H:=by simpa using hF []
 by_cases h14:ds.length>14
 ·have:(14:Int)<ds.length:=by omega
  simp[zur,this];exact hF0
 have:¬ (14:Int)<ds.length:=by omega
 simp[zur,this];refine zTr (Inv:=λq t15 H'=>∃ i:Nat,i≤ds.length∧q=ds.length-i∧t15=.int .i64 i∧(∀ d∈ds.take i,zoW d)∧H=H') ds.length ?_ ?_
 ·intro _;exact⟨0,by omega,by omega,rfl,by simp,rfl⟩
 ·rintro q t15 H' ⟨i,hi,rfl,rfl,ha,rfl⟩ hsc hl aM Kb4 hKb4;by_cases be:i<ds.length
  ·have ba:(ds.map Dat.cs)[i]?.getD []=[.str ds[i].name,.int .i64 ds[i].vars,.sl (ds[i].cons.map Con.cs) .none]:=zx0 be;have next:zoW ds[i]→∀ J,Kb4 (ziK (.sl (ds.map Dat.cs) .none) (.int .i64 ds.length) (.int .i64 (i+1))) (H++J):=by intro hd J;refine hKb4 _ _ ⟨ds.length-(i+1),by omega,Back.same (Nat.le_refl _) hs ?_ ⟨_,rfl,i+1,by omega,rfl,by simp,zhE be ha hd,rfl⟩⟩;simp[ziK,AV.sc,AV.scV,AV.scA,AV.scB]
   generalize c9:ds[i]=d at *;simp[zut,be,ba,AV.known,c9,Dat.cs];by_cases hn:d.name.length>40
   ·have:(40:Int)<d.name.length:=by omega
    simp[this];exact hF _
   have bT:¬ (40:Int)<d.name.length:=by omega
   by_cases hc:d.cons.length>10
   ·have:(10:Int)<d.cons.length:=by omega
    simp[bT,this];exact hF _
   have jF:¬ (10:Int)<d.cons.length:=by omega
   simp[bT,jF];refine zTs (Inv:=λq t32 H'=>∃ j:Nat,j≤d.cons.length∧q=d.cons.length-j∧t32=.int .i64 j∧(∀ c∈d.cons.take j,zv7 c)∧H'=H++[.cells [.str d.name,.int .i64 d.vars,.sl (d.cons.map Con.cs) .none]]) d.cons.length ?_ ?_
   ·intro _;exact⟨0,by omega,by omega,rfl,by simp,rfl⟩
   ·rintro q t32 H' ⟨j,hj,rfl,rfl,hb,rfl⟩ hsc9 hl9 eH Kb9 gc;by_cases aQ:j<d.cons.length
    ·have ba:(d.cons.map Con.cs)[j]?.getD []=[.str d.cons[j].name,.sl (VT.css d.cons[j].args) .none]:=zx0 aQ;generalize ci:d.cons[j]=c at *;simp[zuu,aQ,ba,AV.known,ci,Con.cs];by_cases hn:c.name.length>40
     ·have:(40:Int)<c.name.length:=by omega
      simp[this];exact hF _
     have bT:¬ (40:Int)<c.name.length:=by omega
     by_cases hc:c.args.length>8
     ·have:(8:Int)<c.args.length:=by omega
      simp[bT,this];exact hF _
     have jF:¬ (8:Int)<c.args.length:=by omega
     simp[bT,jF];refine zTq (Inv:=λq t49 H'=>∃ (k:Nat) (l:Int),k≤c.args.length∧q=c.args.length-k∧t49=.int .i64 k∧-1≤l∧l≤20∧(∀ t∈c.args.take k,t.nodes≤20)∧H'=H++[.cells [.str d.name,.int .i64 d.vars,.sl (d.cons.map Con.cs) .none],.cells [.str c.name,.sl (VT.css c.args) .none],.cells [.int .i64 l]]) c.args.length ?_ ?_
     ·intro _;exact⟨0,20,by omega,by omega,rfl,by omega,by omega,by simp,rfl⟩
     ·rintro q t49 H' ⟨k,l,hk,rfl,rfl,dc,dG,jf,rfl⟩ hsc15 hl15 hsF15 Kb15 hKb15;by_cases dP:k<c.args.length
      ·obtain⟨x,y,z,hv,hx,hy,hz⟩:=vt3 c.args[k];simp[zus,dP,hv,hx,hy,hz];rw[←hv];refine zEr _ _ (Nat.le_refl _) l (by omega) dc _ (H.length+2) (by simp) _ ?_ ?_
       ·intro aS;simp;rw[zaw (by omega) (by omega)];refine hKb15 _ _ ⟨c.args.length-(k+1),by omega,Back.at (J:=[_]) (H2:=H++[.cells [.str d.name,.int .i64 d.vars,.sl (d.cons.map Con.cs) .none],.cells [.str c.name,.sl (VT.css c.args) .none],.cells [.int .i64 (l-c.args[k].nodes)]]) (by simp;rfl) (by simp) (hs.append rfl) ?_ ⟨_,rfl,k+1,l-c.args[k].nodes,by omega,rfl,by simp,by omega,by omega,zhE dP jf (by omega),rfl⟩⟩;simp[znm,AV.sc,AV.scV,AV.scA,AV.scB]
       ·intro aS l';simp;exact hF _
      ·obtain rfl:k=c.args.length:=by omega
       rw[List.take_length]at jf;simp[zus];rw[zaw (by omega) (by omega)];refine gc _ _ ⟨d.cons.length-(j+1),by omega,Back.at (J:=[_,_]) (H2:=H++[.cells [.str d.name,.int .i64 d.vars,.sl (d.cons.map Con.cs) .none]]) (by simp;exact⟨rfl,rfl⟩) (by simp) (hs.append rfl) ?_ ⟨_,rfl,j+1,by omega,rfl,by simp,zhE aQ hb (by rw[ci];exact⟨by omega,by omega,jf⟩),rfl⟩⟩;simp[znn,AV.sc,AV.scV,AV.scA,AV.scB]
    ·obtain rfl:j=d.cons.length:=by omega
     rw[List.take_length]at hb;simp[zuu];rw[zaw (by omega) (by omega)];exact next ⟨by omega,by omega,hb⟩ _
  ·obtain rfl:i=ds.length:=by omega
   rw[List.take_length]at ha;simp[zut];exact Out.bool (J:=[]) (by simp) (Nat.le_refl _) hs (hK true λ_=>⟨by omega,ha⟩)
def zex (aa:List Dat) (d:Nat) (vars:Int) (t:VT):Bool:=zb4 d vars t || zaV (aa.take d) vars t
structure RCon (aa:List Dat) (d:Nat) (vars:Int) (c:Con):Prop where
 up:zda c.name=true
 len:c.args.length≤6
 args:∀ x∈c.args,zex aa d vars x=true
structure RDat (aa:List Dat) (d:Nat) (D:Dat):Prop where
 v0:0≤D.vars
 v6:D.vars≤6
 c1:1≤D.cons.length
 c8:D.cons.length≤8
 up:zda D.name=true
 cons:∀ c∈D.cons,RCon aa d D.vars c
structure RData (aa:List Dat):Prop where
 len:aa.length≤12
 dats:∀ d (h:d<aa.length),RDat aa d aa[d]
 names:(zbB aa).Nodup
 cons:(zaT aa).Nodup
theorem zrL {α:Type} {l:List α} {i:Nat} (h:i<l.length):l.take (i+1)=l.take i++[l[i]]:=by rw[List.take_append_getElem h]
theorem zxa:∀ l:List Dat,(∀ D∈l,D.cons.length≤10)→(zaT l).length≤l.length*10
 | [],_=>by simp[zaT]
 | D::l,h=>by have h1:=zxa l (λD hD=>h D (by simp[hD]));have h2:=h D (by simp);rw[zaT]at h1 ⊢;rw[List.flatMap_cons,List.length_append,List.length_map,List.length_cons];omega
theorem zGI {aa:List Dat} {d:Nat} (h:d<aa.length):zbB (aa.take (d+1))=zbB (aa.take d)++[(aa[d]).name]:=by rw[zbB,zrL h,List.map_append];rfl
theorem zGm {aa:List Dat} {d:Nat} (h:d<aa.length):zaT (aa.take (d+1))=zaT (aa.take d)++(aa[d]).cons.map Con.name:=by rw[zaT,zrL h,List.flatMap_append];simp[zaT]
theorem zzC (l:List (List UInt8)) (s:List UInt8):strs (l++[s])=strs l++[[.str s]]:=by simp[strs]
theorem zwY {s:List UInt8} {k:AV→Prop}:zau 1 [.str []] 1 [(0,.str s)] k=k (.sl [[.str s]] .full):=propext Iff.rfl
theorem zy2 (l:List (List UInt8)) (hl:l.length≤1000000) {tok:Tok} (H:zaa) (K:AV→zaa→Prop) (hK:K (.bool (zcm l)) H):ACalls tP zh2 [.sl (strs l) tok] H K:=
 ACalls.wk (zXW l hl H K hK) ⟨.atom (.sl _ _),trivial⟩
theorem zGs {D:Dat} {i:Nat} (h:i<D.cons.length):(D.cons.map Con.cs)[i]?.getD []=[.str (D.cons[i]).name,.sl (VT.css (D.cons[i]).args) .none]:=by simp[h,Con.cs]
theorem zUK (aa:List Dat) (kS:zbv aa) (H:zaa) (K:AV→zaa→Prop) (hK:∀ b,(b=true↔RData aa)→K (.bool b) H):ACalls tP zqT [.sl (aa.map Dat.cs) .none] H K:=by
 refine ACalls.out (zUI λhs=>?_);obtain⟨kl,kd⟩:=kS;have hF:¬ RData aa→∀ J,Out H.length K (.bool false) (H++J):=λh J=>Out.bool rfl (Nat.le_refl _) hs (hK _ (by simp[h]));have hT:∀ b:Bool,(b=true↔RData aa)→∀ J,Out H.length K (.bool b) (H++J):=λb h J=>Out.bool rfl (Nat.le_refl _) hs (hK _ h);by_cases l7:aa.length>12
 ·have eF:(12:Int)<aa.length:=by omega
  simp[zuU,eF];have:=hF (λh=>by have:=h.len;omega) [];simpa using this
 have eF:¬ (12:Int)<aa.length:=by omega
 simp[zuU,eF];unfold znR;refine ALoop.own 3 zb9 1 rfl ?_;refine ALoop.own 4 zb9 1 rfl ?_;rw[List.append_assoc];have cp:∀ d,(zaT (aa.take d)).length≤140:=λd=>by have:=zxa (aa.take d) (λD hD=>(kd D (List.mem_of_mem_take hD)).2.1);rw[List.length_take]at this;have:min d aa.length*10≤14*10:=Nat.mul_le_mul_right _ (by omega);omega
 have dG:(H++[AB.perm zb9 1 0]).length=H.length+1:=by simp
 rw[dG];show znR (.sl (aa.map Dat.cs) .none) (.sl [] (.own H.length)) (.sl [] (.own (H.length+1))) (.int .i64 0) (H++[.perm zb9 1 0,.perm zb9 1 0]) (Out H.length K);have hsP:∀ m n,HSc (H++[.perm zb9 1 m,.perm zb9 1 n]):=λm n=>hs.append rfl;refine zUG (Inv:=λq t3 t4 t5 H'=>∃ d:Nat,d≤aa.length∧q=aa.length-d∧t5=.int .i64 d∧t3=.sl (strs (zbB (aa.take d))) (.own H.length)∧t4=.sl (strs (zaT (aa.take d))) (.own (H.length+1))∧(∀ j (h:j<aa.length),j<d→RDat aa j aa[j])∧H'=H++[.perm zb9 1 d,.perm zb9 1 (zaT (aa.take d)).length]) aa.length ?_ ?_
 ·intro _;exact⟨0,by omega,by omega,rfl,by simp[zbB,strs],by simp[zaT,strs],by omega,by simp[zaT]⟩
 ·rintro q t3 t4 t5 H' ⟨d,hd,rfl,rfl,rfl,rfl,az,rfl⟩ hsc am aM Kb au;by_cases ak:d<aa.length
  ·have bA:¬ RDat aa d aa[d]→∀ J,Out H.length K (.bool false) (H++J):=λh=>hF λhh=>h (hh.dats d ak);have hcd:=cp d;have eQ:=zGI ak;have aN:=zGm ak;obtain⟨kn,kc,kcc⟩:=kd _ (List.getElem_mem ak);have gO:(zbB (aa.take d)).length=d:=by simp[zbB];omega
   generalize hD:aa[d]=D at *;have cF:(aa.map Dat.cs)[d]?.getD []=[.str D.name,.int .i64 D.vars,.sl (D.cons.map Con.cs) .none]:=by simp[ak,hD,Dat.cs]
   by_cases dF:D.vars<0
   ·simp[zf5,ak,hD,Dat.cs,dF];exact bA (λh=>by have:=h.v0;omega) _
   by_cases je:6<D.vars
   ·simp[zf5,ak,hD,Dat.cs,dF,je];exact bA (λh=>by have:=h.v6;omega) _
   by_cases bG:D.cons.length<1
   ·have bQ:(D.cons.length:Int)<1:=by omega
    simp[zf5,ak,hD,Dat.cs,dF,je,bQ];exact bA (λh=>by have:=h.c1;omega) _
   have bQ:¬ (D.cons.length:Int)<1:=by omega
   by_cases l9:8<D.cons.length
   ·have eG:(8:Int)<D.cons.length:=by omega
    simp[zf5,ak,hD,Dat.cs,dF,je,bQ,eG];exact bA (λh=>by have:=h.c8;omega) _
   have eG:¬ (8:Int)<D.cons.length:=by omega
   simp[zf5,ak,hD,Dat.cs,dF,je,bQ,eG];refine zE5 _ _ _ ?_;cases hup:zda D.name with
   | false=>simp;exact bA (λh=>by have:=h.up;rw[hup]at this;cases this) _
   | true=>
   simp[zwY];simp[zav,zaM,zaJ,gO];refine⟨by omega,?_⟩;rw[←zzC,←eQ];refine zUE (Inv:=λq t4 t7 H'=>∃ k:Nat,k≤D.cons.length∧q=D.cons.length-k∧t7=.int .i64 k∧t4=.sl (strs (zaT (aa.take d)++(D.cons.map Con.name).take k)) (.own (H.length+1))∧(∀ c∈D.cons.take k,RCon aa d D.vars c)∧H'=H++[.perm zb9 1 (d+1),.perm zb9 1 ((zaT (aa.take d)).length+k),.cells [.str D.name,.int .i64 D.vars,.sl (D.cons.map Con.cs) .none]]) D.cons.length ?_ ?_
   ·intro _;exact⟨0,by omega,by omega,rfl,by simp,by simp,by simp⟩
   ·rintro q t4 t7 H' ⟨k,hk,rfl,rfl,rfl,jg,rfl⟩ i8 bL i9 Kb1 eB;have hlk:(zaT (aa.take d)++(D.cons.map Con.name).take k).length=(zaT (aa.take d)).length+k:=by simp;omega
    by_cases dP:k<D.cons.length
    ·have hkI:(k:Int)<D.cons.length:=by omega
     have hca:=zGs dP;have gg:¬ RCon aa d D.vars D.cons[k]→∀ J,Out H.length K (.bool false) (H++J):=λh=>bA λhh=>h (hh.cons _ (List.getElem_mem dP));have kT:zaT (aa.take d)++(D.cons.map Con.name).take (k+1)=(zaT (aa.take d)++(D.cons.map Con.name).take k)++[(D.cons[k]).name]:=by rw[zrL (by simpa using dP)];simp
     obtain⟨_,ka,kan⟩:=kcc _ (List.getElem_mem dP);generalize hC:D.cons[k]=C at *;simp[zuV,dP,hC,Con.cs];refine zE5 _ _ _ ?_;cases hupc:zda C.name with
     | false=>simp;exact gg (λh=>by have:=h.up;rw[hupc]at this;cases this) _
     | true=>
     by_cases lh:6<C.args.length
     ·have jh:(6:Int)<C.args.length:=by omega
      simp[dP,hC,Con.cs,jh];exact gg (λh=>by have:=h.len;omega) _
     have jh:¬ (6:Int)<C.args.length:=by omega
     simp[dP,hC,Con.cs,jh,zwY];generalize hA:zaT (aa.take d)++(D.cons.map Con.name).take k=A at *;have eI:A.length=(zaT (aa.take d)).length+k:=hlk;simp[zav,zaM,zaJ,eI,dP,hC,Con.cs];refine⟨by omega,?_⟩;rw[←zzC,←kT];refine zUF (Inv:=λq t95 H'=>∃ i:Nat,i≤C.args.length∧q=C.args.length-i∧t95=.int .i64 i∧(∀ x∈C.args.take i,zex aa d D.vars x=true)∧H'=H++[.perm zb9 1 (d+1),.perm zb9 1 ((zaT (aa.take d)).length+k+1),.cells [.str D.name,.int .i64 D.vars,.sl (D.cons.map Con.cs) .none]]) C.args.length ?_ ?_
     ·intro _;exact⟨0,by omega,by omega,rfl,by simp,rfl⟩
     ·rintro q t95 H' ⟨i,hi,rfl,rfl,hok3,rfl⟩ ck dY g9 Kb2 bB;by_cases be:i<C.args.length
      ·have hxn:=kan _ (List.getElem_mem be);have habad:zex aa d D.vars C.args[i]=false→∀ J,Out H.length K (.bool false) (H++J):=λh=>gg λhh=>by have:=hh.args _ (List.getElem_mem be);rw[h]at this;cases this
       obtain⟨x,y,z,aC,hx,hy,hz⟩:=vt3 C.args[i];have good:zex aa d D.vars C.args[i]=true→znQ (.sl (aa.map Dat.cs) .none) (.sl (strs (zbB (aa.take (d+1)))) (.own H.length)) (.sl (strs (zaT (aa.take d)++(D.cons.map Con.name).take (k+1))) (.own (H.length+1))) (.int .i64 d) (.ptr (H.length+2) 0) (.int .i64 k) (.sl (VT.css C.args) .none) (.int .i64 C.args.length) (.int .i64 i) (H++[.perm zb9 1 (d+1),.perm zb9 1 ((zaT (aa.take d)).length+k+1),.cells [.str D.name,.int .i64 D.vars,.sl (D.cons.map Con.cs) .none],.cells [x,y,z]]) (Out H.length K) Kb Kb1 Kb2:=λhg=>by simp[znQ,zDW];rw[zaw (by omega) (by omega)];refine bB _ _ ⟨C.args.length-(i+1),by omega,Back.at (J:=[_]) (H2:=H++[.perm zb9 1 (d+1),.perm zb9 1 ((zaT (aa.take d)).length+k+1),.cells [.str D.name,.int .i64 D.vars,.sl (D.cons.map Con.cs) .none]]) (by simp;rfl) (by simp) ck ?_ ⟨_,rfl,i+1,by omega,rfl,by simp,zhE be hok3 hg,rfl⟩⟩;simp[znO,AV.sc,AV.scV,AV.scA,AV.scB]
       simp[zuW,be,aC,hx,hy,hz];rw[←aC];refine zv6 _ _ _ (by omega) _ _ ?_;cases eY:zb4 d D.vars C.args[i] with
       | true=>rw[aC];simp;exact good (by simp[zex,eY])
       | false=>
        simp[aC];refine⟨⟨by omega,λa _=>rfl⟩,?_⟩;rw[←List.map_take,←aC];refine zaB (.bool (zaV (aa.take d) D.vars C.args[i])) (λJ=>zD2 (aa.take d) (by simp;omega) _ _ (by omega) _ _ ⟨rfl,rfl⟩) ?_;cases lk:zaV (aa.take d) D.vars C.args[i] with
        | false=>simp;exact habad (by simp[zex,eY,lk]) _
        | true=>rw[aC];simp;exact good (by simp[zex,lk])
      ·obtain rfl:i=C.args.length:=by omega
       rw[List.take_length]at *;simp[zuW];rw[zaw (by omega) (by omega)];refine eB _ _ ⟨D.cons.length-(k+1),by omega,Back.here (by simp) ck ?_ ⟨_,_,rfl,k+1,by omega,rfl,by simp,rfl,?_,by simp[Nat.add_assoc]⟩⟩
       ·simp[znN,AV.sc,AV.scV,AV.scA,AV.scB]
       ·exact zhE dP jg (by rw[hC];exact⟨hupc,by omega,hok3⟩)
    ·obtain rfl:k=D.cons.length:=by omega
     rw[List.take_length]at *;simp[zuV];rw[zaw (by omega) (by omega)];refine au _ _ ⟨aa.length-(d+1),by omega,Back.at (J:=[_]) (H2:=H++[.perm zb9 1 (d+1),.perm zb9 1 (zaT (aa.take (d+1))).length]) (by rw[aN];simp;rfl) (by simp) (hsP _ _) ?_ ⟨_,_,_,rfl,d+1,by omega,rfl,by simp,rfl,by rw[aN];exact congrArg (λl=>AV.sl (strs (zaT (aa.take d)++l)) (.own (H.length+1))) (List.take_of_length_le (Nat.le_of_eq (List.length_map _))),λj hj cY=>?_,rfl⟩⟩
     ·simp[znP,AV.sc,AV.scV,AV.scA,AV.scB]
     ·by_cases hjd:j=d
      ·subst hjd;rw[hD];exact⟨by omega,by omega,by omega,by omega,hup,jg⟩
      ·exact az j hj (by omega)
  ·obtain rfl:d=aa.length:=by omega
   rw[List.take_length]at *;have l8:(zbB aa).length=aa.length:=by simp[zbB]
   have hcn':=cp aa.length;rw[List.take_length]at hcn';simp[zf5];refine zy2 _ (by omega) _ _ ?_;cases hr:zcm (zbB aa) with
   | true=>simp;refine hT _ ?_ _;simp;intro h;have:=zrm h.names;rw[hr]at this;cases this
   | false=>simp;refine zy2 _ (by omega) _ _ ?_;refine hT _ ?_ _;simp only[zcm,Bool.not_eq_false',decide_eq_true_eq,Bool.not_not]at hr ⊢;exact⟨λh=>⟨by omega,λj hj=>az j hj hj,hr,h⟩,λh=>h.cons⟩
mutual
theorem zIA:∀ v w:VT,v.same w=true↔v=w
 | .mk k n ks,.mk k' n' ks'=>by have h:=zzf ks ks';simp only[VT.same,Bool.and_eq_true,beq_iff_eq,VT.mk.injEq,h,and_assoc]
theorem zzf:∀ v w:List VT,VT.sameL v w=true↔v=w
 | v::vs,w::ws=>by have h1:=zIA v w;have h2:=zzf vs ws;simp only[VT.sameL,Bool.and_eq_true,List.cons.injEq,h1,h2]
 | [],[]=>by simp[VT.sameL]
 | [],_::_=>by simp[VT.sameL]
 | _::_,[]=>by simp[VT.sameL]
end
theorem zkI {α:Type} (l:List α) (d n:Nat):(l.take d)[n]?=if n<d then l[n]? else none:=by
 by_cases h:n<d
 ·rw[if_pos h,List.getElem?_take_of_lt h]
 ·rw[if_neg h,List.getElem?_eq_none (by rw[List.length_take];omega)]
theorem zII {aa:List Dat} {d:Nat} {vars k n:Int} {len:Nat} (h:(k == 5 && n == (d:Int))=false):zbk (aa.take (d+1)) vars k n len=zbk (aa.take d) vars k n len:=by
 unfold zbk;by_cases h5:k=5
 ·subst h5;have hn:n≠d:=by simpa using h
  simp only[zkI];by_cases h0:0≤n
  ·have:(n.toNat<d+1)=(n.toNat<d):=by apply propext;omega
   simp[this]
  ·simp[h0]
 ·have:(k == 5)=false:=by simpa using h5
  simp[this]
mutual
theorem zz9 (aa:List Dat) (d:Nat) (vars:Int):∀ t:VT,zcu d t=false→za4 (aa.take (d+1)) vars t=za4 (aa.take d) vars t
 | .mk k n ks=>by intro h;simp only[zcu,Bool.or_eq_false_iff]at h;rw[za4,za4,zII h.1,zz6 aa d vars ks h.2]
theorem zz6 (aa:List Dat) (d:Nat) (vars:Int):∀ l:List VT,zeU d l=false→zbi (aa.take (d+1)) vars l=zbi (aa.take d) vars l
 | []=>λ_=>rfl
 | t::ts=>by intro h;simp only[zeU,Bool.or_eq_false_iff]at h;rw[zbi,zbi,zz9 aa d vars t h.1,zz6 aa d vars ts h.2]
end
mutual
theorem zx5 (aa:List Dat) (d:Nat) (vars:Int):∀ t:VT,za4 (aa.take d) vars t=true→zcu d t=false
 | .mk k n ks=>by
  intro h;rw[za4,Bool.and_eq_true]at h;rw[zcu,zx4 aa d vars ks h.2,Bool.or_false];by_cases h5:k=5
  ·subst h5;have h1:=h.1;simp[zbk,zkI]at h1;obtain⟨h0,h2⟩:=h1;by_cases hn:n=d
   ·subst hn;simp at h2
   ·simpa using hn
  ·have:(k == 5)=false:=by simpa using h5
   simp[this]
theorem zx4 (aa:List Dat) (d:Nat) (vars:Int):∀ l:List VT,zbi (aa.take d) vars l=true→zeU d l=false
 | []=>λ_=>rfl
 | t::ts=>by intro h;rw[zbi,Bool.and_eq_true]at h;rw[zeU,zx5 aa d vars t h.1,zx4 aa d vars ts h.2];rfl
end
theorem zzh (aa:List Dat) (vars:Int):∀ (l:List VT) (i:Nat),zcR l i=true→((i+l.length:Nat):Int)≤vars→zbi aa vars l=true∧VT.nodesL l=l.length
 | [],i,_,_=>⟨rfl,rfl⟩
 | .mk k n ks::l,i,h,hv=>by
  rw[zcR,Bool.and_eq_true]at h;obtain⟨h1,h2⟩:=h;simp only[zhw,Bool.and_eq_true,beq_iff_eq]at h1;obtain⟨⟨rfl,rfl⟩,h3⟩:=h1;have hk:ks=[]:=List.eq_nil_of_length_eq_zero h3;subst hk;obtain⟨h4,h5⟩:=zzh aa vars l (i+1) h2 (by simp at hv ⊢;omega);simp at hv;constructor
  ·simp[zbi,za4,zbk,h4];omega
  ·simp[VT.nodesL,VT.nodes,h5];omega
theorem zwI (aa:List Dat) (d:Nat) (hd:d<aa.length) (h0:0≤(aa[d]).vars) (h6:(aa[d]).vars≤6) (t:VT):zd0 aa d (aa[d]).vars t=zex aa d (aa[d]).vars t:=by
 unfold zd0 zex;cases hs:zb4 d (aa[d]).vars t with
 | true=>
  obtain⟨k,n,ks⟩:=t;simp only[zb4,Bool.and_eq_true,beq_iff_eq]at hs;obtain⟨⟨⟨rfl,rfl⟩,hl⟩,hs⟩:=hs;obtain⟨h1,h2⟩:=zzh (aa.take (d+1)) (aa[d]).vars ks 0 hs (by simp;omega);have lk:zaV (aa.take (d+1)) (aa[d]).vars (.mk 5 d ks)=true:=by simp[zaV,za4,h1,VT.nodes,h2,zbk,zkI,hd,hl];omega
  simp[lk]
 | false=>
  simp only[Bool.false_or];unfold zaV;cases hm:zcu d t with
  | false=>rw[zz9 aa d _ t hm];simp
  | true=>
   have:za4 (aa.take d) (aa[d]).vars t=false:=by
    cases h:za4 (aa.take d) (aa[d]).vars t with
    | false=>rfl
    | true=>rw[zx5 aa d _ t h]at hm;cases hm
   simp[this]
theorem zpw (aa:List Dat):∀ (l:List Dat) (d:Nat),zcZ aa l d=true↔∀ j (h:j<l.length),zcO aa (d+j) l[j]=true
 | [],d=>by simp[zcZ]
 | D::l,d=>by
  rw[zcZ,Bool.and_eq_true,zpw aa l (d+1)];constructor
  ·rintro⟨h1,h2⟩ j hj;cases j with
   | zero=>exact h1
   | succ j=>have:=h2 j (by simpa using hj);rw[show d+(j+1)=d+1+j by omega];simpa using this
  ·intro h;refine⟨h 0 (by simp),λj hj=>?_⟩;have:=h (j+1) (by simpa using hj);rw[show d+(j+1)=d+1+j by omega]at this;simpa using this
theorem zGy (aa:List Dat):zbq aa=true↔RData aa:=by
 unfold zbq;simp only[Bool.and_eq_true,decide_eq_true_eq,zpw,zcm,Bool.not_not,Nat.zero_add];constructor
 ·rintro⟨⟨⟨h1,h2⟩,h3⟩,h4⟩;refine⟨h1,λd hd=>?_,h3,h4⟩;have:=h2 d hd;simp only[zcO,Bool.and_eq_true,decide_eq_true_eq,List.all_eq_true]at this;obtain⟨⟨⟨⟨⟨q1,q2⟩,q3⟩,q4⟩,q5⟩,q6⟩:=this;refine⟨q2,q3,q4,q5,q1,λc hc=>?_⟩;have:=q6 c hc;simp only[zdv,Bool.and_eq_true,decide_eq_true_eq,List.all_eq_true]at this;exact⟨this.1,this.2.1,λx hx=>by rw[←zwI aa d hd q2 q3 x];exact this.2.2 x hx⟩
 ·rintro⟨h1,h2,h3,h4⟩;refine⟨⟨⟨h1,λd hd=>?_⟩,h3⟩,h4⟩;obtain⟨q2,q3,q4,q5,q1,q6⟩:=h2 d hd;simp only[zcO,Bool.and_eq_true,decide_eq_true_eq,List.all_eq_true];refine⟨⟨⟨⟨⟨q1,q2⟩,q3⟩,q4⟩,q5⟩,λc hc=>?_⟩;obtain⟨r1,r2,r3⟩:=q6 c hc;simp only[zdv,Bool.and_eq_true,decide_eq_true_eq,List.all_eq_true];exact⟨r1,r2,λx hx=>by rw[zwI aa d hd q2 q3 x];exact r3 x hx⟩
mutual
def zaU (aa:List Dat):VT→VT→Bool
 | .mk vk vn vks,.mk k n al=>
  if k=1 then vk == 3 && decide (-1099511627776≤vn) && decide (vn≤1099511627776) && vks.length == 0
  else if k=2 then vk == 2 && (vn == 0 || vn == 1) && vks.length == 0
  else if k=3 then vk == 1 && vn == 0 && vks.length == 0
  else if k=6 then vk == 4 && vn == 0 && zcG aa vks al
  else if k=5 then vk == 5 && decide (0≤vn) && decide (vn<8) && zfr aa vks (zbj aa (.mk k n al) vn)
  else if k=7 then vk == 6 && vn == 0 && decide (vks.length≤4096) && zdL aa vks (al.getD 0 (.mk 0 0 []))
  else if k=8 then vk == 7 && vn == 0 && zcG aa vks al
  else vk == 8 && decide (0≤vn) && decide (vn<64) && vks.length == 0
def zfr (aa:List Dat):List VT→Option (List VT)→Bool
 | _,none=>false
 | [],some ts=>ts.isEmpty
 | v::vs,some ts=>match ts with
  | []=>false
  | t::ts=>zaU aa v t && zcG aa vs ts
def zcG (aa:List Dat):List VT→List VT→Bool
 | [],ts=>ts.isEmpty
 | v::vs,ts=>match ts with
  | []=>false
  | t::ts=>zaU aa v t && zcG aa vs ts
def zdL (aa:List Dat):List VT→VT→Bool
 | [],_=>true
 | v::vs,t=>zaU aa v t && zdL aa vs t
end
theorem zG0 (aa:List Dat) (vs ts:List VT):zfr aa vs (some ts)=zcG aa vs ts:=by
 cases vs with
 | nil=>cases ts <;> rw[zfr,zcG]
 | cons v vs=>cases ts <;> simp only[zfr,zcG]
theorem zGZ (aa:List Dat) (vs:List VT):zfr aa vs none=false:=by cases vs <;> rw[zfr]
theorem zIJ {aa:List Dat} {m:Nat} {vars k n:Int} {len:Nat} (h:zbk (aa.take m) vars k n len=true) (h4:k≠4):zbk aa 0 k n len=true:=by
 unfold zbk at h ⊢;have i5:(k == 4)=false:=by simpa using h4
 rw[i5]at h ⊢;by_cases h5:k=5
 ·subst h5;simp only[zkI]at h;by_cases hm:n.toNat<m
  ·simpa[hm]using h
  ·simp[hm]at h
 ·have:(k == 5)=false:=by simpa using h5
  simpa[this]using h
theorem zzE (ks:List VT):∀ l:List VT,(zaR ks l).length=l.length
 | []=>rfl
 | t::ts=>by simp[zaR,zzE ks ts]
mutual
theorem zAa {aa:List Dat} {m:Nat} {vars:Int} {ks:List VT} (hk:∀ x∈ks,za4 aa 0 x=true) (hl:(ks.length:Int)=vars):∀ a:VT,za4 (aa.take m) vars a=true→za4 aa 0 (subst ks a)=true
 | .mk k n al=>by
  intro h;rw[za4,Bool.and_eq_true]at h;unfold subst;by_cases h4:k=4
  ·have h1:=h.1;subst h4;simp[zbk]at h1;rw[if_pos ⟨rfl,by omega,by omega⟩];have hn:n.toNat<ks.length:=by omega
   rw[List.getElem?_eq_getElem hn];exact hk _ (List.getElem_mem hn)
  ·rw[if_neg (λh=>h4 h.1),za4,Bool.and_eq_true,zzE];exact⟨zIJ h.1 h4,zz7 hk hl al h.2⟩
theorem zz7 {aa:List Dat} {m:Nat} {vars:Int} {ks:List VT} (hk:∀ x∈ks,za4 aa 0 x=true) (hl:(ks.length:Int)=vars):∀ l:List VT,zbi (aa.take m) vars l=true→zbi aa 0 (zaR ks l)=true
 | []=>by intro _;simp[zaR,zbi]
 | t::ts=>by intro h;rw[zbi,Bool.and_eq_true]at h;rw[zaR,zbi,Bool.and_eq_true];exact⟨zAa hk hl t h.1,zz7 hk hl ts h.2⟩
end
theorem zz5 {aa:List Dat} {vars:Int}:∀ {l:List VT},zbi aa vars l=true→∀ x∈l,za4 aa vars x=true
 | [],_=>by simp
 | t::ts,h=>by
  rw[zbi,Bool.and_eq_true]at h;intro x hx;rcases List.mem_cons.1 hx with rfl | hx
  ·exact h.1
  ·exact zz5 h.2 x hx
theorem zz8 {aa:List Dat} {vars:Int} {k n:Int} {ks:List VT} (h:za4 aa vars (.mk k n ks)=true):∀ x∈ks,za4 aa vars x=true:=by rw[za4,Bool.and_eq_true]at h;exact zz5 h.2
theorem zrR {aa:List Dat} {vars:Int} {k n:Int} {ks:List VT} (h:zaV aa vars (.mk k n ks)=true):∀ x∈ks,zaV aa vars x=true:=by rw[zaV,Bool.and_eq_true,decide_eq_true_eq]at h;intro x hx;rw[zaV,Bool.and_eq_true,decide_eq_true_eq];exact⟨Nat.le_trans (zhx x hx) h.1,zz8 h.2 x hx⟩
theorem zGr {aa:List Dat} (hD:zbq aa=true) {d c:Nat} (hd:d<aa.length) (hc:c<aa[d].cons.length):∀ x∈(aa[d].cons[c]).args,za4 (aa.take (d+1)) aa[d].vars x=true:=by simp only[zbq,Bool.and_eq_true,zpw,Nat.zero_add]at hD;have h1:=hD.1.1.2 d hd;simp only[zcO,Bool.and_eq_true]at h1;have h2:=List.all_eq_true.1 h1.2 _ (List.getElem_mem hc);simp only[zdv,Bool.and_eq_true]at h2;intro x hx;have h3:=List.all_eq_true.1 h2.2.2 x hx;simp only[zd0,zaV,Bool.and_eq_true]at h3;exact h3.1.2
theorem zho {aa:List Dat} {k n:Int} {ks:List VT} {c:Int} {l:List VT} (h:zbj aa (.mk k n ks) c=some l) :
  k=5∧0≤n∧0≤c∧∃ (hn:n.toNat<aa.length) (hc:c.toNat<(aa[n.toNat]).cons.length),(ks.length:Int)=(aa[n.toNat]).vars∧l=((aa[n.toNat]).cons[c.toNat]).args.map (subst ks)∧∀ x∈l,x.nodes≤200:=by
 rw[zdc]at h;split at h
 ·rename_i h5;split at h
  ·rename_i D hD;obtain⟨hn,rfl⟩:=List.getElem?_eq_some_iff.1 hD;split at h
   ·rename_i hv;split at h
    ·rename_i C hC;obtain⟨hc,rfl⟩:=List.getElem?_eq_some_iff.1 hC;split at h
     ·rename_i ha;simp only[Option.some.injEq]at h;subst h;exact⟨h5.1,h5.2.1,h5.2.2,hn,hc,hv,rfl,λx hx=>of_decide_eq_true (List.all_eq_true.1 ha x hx)⟩
     ·cases h
    ·cases h
   ·cases h
  ·cases h
 ·cases h
theorem zpC {aa:List Dat} (hD:zbq aa=true) {t:VT} (ht:za4 aa 0 t=true) {c:Int} {l:List VT} (h:zbj aa t c=some l):∀ x∈l,zaV aa 0 x=true:=by obtain⟨k,n,ks⟩:=t;obtain⟨rfl,h0,cH,hn,hc,hv,rfl,aD⟩:=zho h;intro x hx;rw[zaV,Bool.and_eq_true,decide_eq_true_eq];refine⟨aD x hx,?_⟩;obtain⟨a,ha,rfl⟩:=List.mem_map.1 hx;exact zAa (zz8 ht) hv a (zGr hD hn hc a ha)
theorem zzi {ks:List VT}:∀ (l:List VT) (i:Nat),zcR l i=true→i+l.length=ks.length→zaR ks l=ks.drop i
 | [],i,_,hl=>by simp at hl;subst hl;simp[zaR]
 | x::l,i,h,hl=>by
  rw[zcR,Bool.and_eq_true]at h;obtain⟨k,n,al⟩:=x;simp only[zhw,Bool.and_eq_true,beq_iff_eq]at h;obtain⟨⟨⟨rfl,rfl⟩,h3⟩,h4⟩:=h;simp at hl;have hi:i<ks.length:=by omega
  rw[List.drop_eq_getElem_cons hi,zaR,zzi l (i+1) h4 (by omega)];rw[subst,if_pos ⟨rfl,by omega,by omega⟩];simp[hi]
theorem zIF {ks:List VT} {d vars:Int} {a:VT} (h:zb4 d vars a=true) (hl:(ks.length:Int)=vars):subst ks a=.mk 5 d ks:=by obtain⟨k,n,al⟩:=a;simp only[zb4,Bool.and_eq_true,beq_iff_eq]at h;obtain⟨⟨⟨rfl,rfl⟩,h3⟩,h4⟩:=h;rw[subst,if_neg (λh=>by have:=h.1;omega)];have:=zzi (ks:=ks) al 0 h4 (by omega);rw[this,List.drop_zero]
def zcy (d:Nat) (D:Dat) (C:Con):List Bool:=C.args.map (zb4 d D.vars)
def zdT (aa:List Dat) (d:Nat):List (List Bool):=match aa[d]? with
 | some D=>D.cons.map (zcy d D)
 | none=>[]
mutual
def zfE (rs:List (List Bool)):VT→List VT
 | .mk k n ks=>.mk k n ks::zd4 rs ks (rs.getD n.toNat [])
def zd4 (rs:List (List Bool)):List VT→List Bool→List VT
 | [],_=>[]
 | v::vs,bs=>match bs with
  | []=>[]
  | b::bs=>(if b=true then zfE rs v else [])++zd4 rs vs bs
end
mutual
theorem zyT (rs:List (List Bool)):∀ v:VT,(zfE rs v).length≤v.nodes
 | .mk k n ks=>by have:=zyS rs ks (rs.getD n.toNat []);simp only[zfE,VT.nodes,List.length_cons];omega
theorem zyS (rs:List (List Bool)):∀ (vs:List VT) (bs:List Bool),(zd4 rs vs bs).length≤VT.nodesL vs
 | [],_=>by simp[zd4,VT.nodesL]
 | v::vs,[]=>by simp[zd4]
 | v::vs,b::bs=>by
  have h1:=zyT rs v;have h2:=zyS rs vs bs;simp only[zd4,VT.nodesL,List.length_append];split
  ·omega
  ·simp;omega
end
def pick:List VT→List Bool→List VT
 | x::l,b::bs=>if b then pick l bs else x::pick l bs
 | _,_=>[]
def za9 (aa:List Dat) (t:VT) (c:Int):Option (List VT):=(zbj aa t c).map λl=>pick l ((zdT aa t.num.toNat).getD c.toNat [])
mutual
def zcl (aa:List Dat):IT→VT→Int × Bool
 | .mk n ks,t=>
  if t.kind=6 then (if n=0 then (if t.kids.length=ks.length then zbZ aa ks t.kids 0 else (0,false)) else (0,false))
  else if t.kind=7 then (n,decide (0≤n) && decide (n≤6) && decide (ks.length=0))
  else if t.kind=5 then (if n=0 then zc1 aa ks t 0 else (0,false))
  else (0,decide (n=0) && decide (ks.length=0))
def zbZ (aa:List Dat):List IT→List VT→Int→Int × Bool
 | [],_,a=>(a,decide (a≤6))
 | v::vs,ts,a=>match ts with
  | t::ts=>if (zcl aa v t).2 then zbZ aa vs ts (a+(zcl aa v t).1) else (0,false)
  | []=>(0,false)
def zc1 (aa:List Dat):List IT→VT→Int→Int × Bool
 | [],_,a=>(a,true)
 | .mk c ks::es,t,a=>match za9 aa t c with
  | none=>(0,false)
  | some ps=>if ps.length=ks.length then
    (if (zbZ aa ks ps 0).2 && decide (a+(1+(zbZ aa ks ps 0).1)≤6) then zc1 aa es t (a+(1+(zbZ aa ks ps 0).1)) else (0,false))
   else (0,false)
end
mutual
def rdV (aa:List Dat):IT→VT→Int
 | .mk n ks,t=>
  if t.kind=6 then (if n=0 then (if t.kids.length=ks.length then rdA aa ks t.kids 0 else -1) else -1)
  else if t.kind=7 then (if 0≤n∧n≤6∧ks.length=0 then n else -1)
  else if t.kind=5 then (if n=0∧ks.length≤6 then rdE aa ks t 0 else -1)
  else (if n=0∧ks.length=0 then 0 else -1)
def rdA (aa:List Dat):List IT→List VT→Int→Int
 | [],_,a=>a
 | v::vs,ts,a=>match ts with
  | t::ts=>if rdV aa v t<0∨a+rdV aa v t>6 then -1 else rdA aa vs ts (a+rdV aa v t)
  | []=>-1
def rdE (aa:List Dat):List IT→VT→Int→Int
 | [],_,a=>a
 | .mk c ks::es,t,a=>if c<0∨8≤c then -1 else match za9 aa t c with
  | none=>-1
  | some ps=>if ps.length=ks.length then
    (if rdA aa ks ps 0<0∨a+1+rdA aa ks ps 0>6 then -1 else rdE aa es t (a+(1+rdA aa ks ps 0)))
   else -1
end
theorem zH3 {aa:List Dat} (h8:∀ D∈aa,D.cons.length≤8) {t:VT} {c:Int} {ps:List VT} (h:za9 aa t c=some ps):0≤c∧c<8:=by
 unfold za9 at h;cases hf:zbj aa t c with
 | none=>rw[hf]at h;cases h
 | some l=>obtain⟨_,k1,k2,hn,hc,_⟩:=zho hf;have:=h8 _ (List.getElem_mem hn);omega
def agr (m:Int × Bool) (r:Int):Prop:=(m.2=true→m.1=r∧0≤r∧r≤6)∧(m.2=false→r=-1)
theorem zei:agr (0,false) (-1):=⟨λh=>(by cases h),λ_=>rfl⟩
mutual
theorem zhb {aa:List Dat} (h8:∀ D∈aa,D.cons.length≤8):∀ (v:IT) (t:VT),agr (zcl aa v t) (rdV aa v t)
 | .mk n ks,t=>by
  have hA:=(zi9 h8 ks t.kids 0 (by omega)).1 (by omega);have hE:=zwD h8 ks t 0 (by omega) (by omega);unfold zcl rdV;split
  ·split
   ·split
    ·exact hA
    ·exact zei
   ·exact zei
  ·split
   ·refine⟨λh=>?_,λh=>?_⟩
    ·simp at h;rw[if_pos ⟨h.1.1,h.1.2,by simpa using h.2⟩];exact⟨rfl,h.1.1,h.1.2⟩
    ·rw[if_neg];rintro⟨h1,h2,h3⟩;simp[h1,h2,h3]at h
   ·split
    ·by_cases hn:n=0
     ·simp only[hn,if_true,true_and];by_cases hl:ks.length≤6
      ·rw[if_pos hl];exact hE.1
      ·rw[if_neg hl];refine⟨λh=>?_,λ_=>rfl⟩;have:=hE.2 h;omega
     ·simp only[hn,if_false,false_and];exact zei
    ·refine⟨λh=>?_,λh=>?_⟩
     ·simp at h;simp[h]
     ·rw[if_neg];rintro⟨h1,h2⟩;simp[h1,h2]at h
theorem zi9 {aa:List Dat} (h8:∀ D∈aa,D.cons.length≤8):∀ (vs:List IT) (ts:List VT) (a:Int),0≤a→(a≤6→agr (zbZ aa vs ts a) (rdA aa vs ts a))∧(6<a→(zbZ aa vs ts a).2=false)
 | [],ts,a,ha=>by simp only[zbZ,rdA];exact⟨λh=>⟨λ_=>⟨rfl,ha,h⟩,λh2=>by simp at h2;omega⟩,λh=>by simp;omega⟩
 | v::vs,ts,a,ha=>by
  match ts with
  | []=>simp only[zbZ,rdA];exact⟨λ_=>zei,λ_=>by trivial⟩
  | t::ts=>
   obtain⟨g1,g2⟩:=zhb h8 v t;simp only[zbZ,rdA];cases hb:(zcl aa v t).2 with
   | false=>rw[g2 hb];simp;exact λ_=>zei
   | true=>
    obtain⟨e1,e2,e3⟩:=g1 hb;rw[e1];have hn:=zi9 h8 vs ts (a+rdV aa v t) (by omega);simp only[if_true];refine⟨λh=>?_,λh=>hn.2 (by omega)⟩;by_cases h6:a+rdV aa v t>6
    ·rw[if_pos (.inr h6)];exact⟨λh=>(by rw[hn.2 (by omega)]at h;cases h),λ_=>rfl⟩
    ·rw[if_neg (by omega)];exact hn.1 (by omega)
theorem zwD {aa:List Dat} (h8:∀ D∈aa,D.cons.length≤8):∀ (es:List IT) (t:VT) (a:Int),0≤a→a≤6→agr (zc1 aa es t a) (rdE aa es t a)∧((zc1 aa es t a).2=true→a+es.length≤6)
 | [],t,a,h0,h6=>by simp only[zc1,rdE];exact⟨⟨λ_=>⟨rfl,h0,h6⟩,λh=>by cases h⟩,λ_=>by simpa using h6⟩
 | .mk c ks::es,t,a,h0,h6=>by
  simp only[zc1,rdE];cases hp:za9 aa t c with
  | none=>simp only[ite_self];exact⟨zei,λh=>by cases h⟩
  | some ps=>
   obtain⟨c0,c8⟩:=zH3 h8 hp;rw[if_neg (show ¬(c<0∨8≤c) by omega)];simp only;by_cases hl:ps.length=ks.length
   ·simp only[hl,if_true];obtain⟨g1,g2⟩:=(zi9 h8 ks ps 0 (by omega)).1 (by omega);cases hb:(zbZ aa ks ps 0).2 with
    | false=>rw[g2 hb];simp;exact zei
    | true=>
     obtain⟨e1,e2,e3⟩:=g1 hb;rw[e1];by_cases hh:a+(1+rdA aa ks ps 0)≤6
     ·have hn:=zwD h8 es t (a+(1+rdA aa ks ps 0)) (by omega) hh;rw[if_neg (show ¬(rdA aa ks ps 0<0∨a+1+rdA aa ks ps 0>6) by omega)];simp only[hh,decide_true,Bool.and_self,if_true];refine⟨hn.1,λh=>?_⟩;have:=hn.2 h;simp only[List.length_cons];omega
     ·rw[if_pos (show rdA aa ks ps 0<0∨a+1+rdA aa ks ps 0>6 by omega)];simp[hh];exact zei
   ·simp only[hl,if_false];exact⟨zei,λh=>by cases h⟩
end
def fill:List IT→List Nat→List IT→List IT
 | row,p::ps,x::xs=>fill (row.set p x) ps xs
 | row,_,_=>row
@[simp] theorem ybo (row xs:List IT):fill row [] xs=row:=by cases xs <;> rfl
@[simp] theorem zGN:∀ (row:List IT) (ps:List Nat) (xs:List IT),(fill row ps xs).length=row.length
 | row,p::ps,x::xs=>by rw[fill,zGN];simp
 | row,[],_=>by simp[fill]
 | row,_::_,[]=>by simp[fill]
mutual
theorem IT.same_eq:∀ v w:IT,IT.same v w=true→v=w
 | .mk n ks,.mk n' ks',h=>by simp only[IT.same,Bool.and_eq_true,beq_iff_eq]at h;rw[h.1,IT.sameL_eq ks ks' h.2]
theorem IT.sameL_eq:∀ v w:List IT,IT.sameL v w=true→v=w
 | [],[],_=>rfl
 | v::vs,w::ws,h=>by simp only[IT.sameL,Bool.and_eq_true]at h;rw[IT.same_eq v w h.1,IT.sameL_eq vs ws h.2]
 | [],_::_,h=>by simp[IT.sameL]at h
 | _::_,[],h=>by simp[IT.sameL]at h
end
section
variable {aa:List Dat}
theorem zie {h8:∀ D∈aa,D.cons.length≤8} (v:IT) (t:VT):-1≤rdV aa v t∧rdV aa v t≤6:=by
 obtain⟨h1,h2⟩:=zhb h8 v t;cases hb:(zcl aa v t).2 with
 | true=>have:=h1 hb;omega
 | false=>have:=h2 hb;omega
def ad (a r:Int):Int:=if r<0 then -1 else if a+r>6 then -1 else a+r
theorem zfi {a r:Int} (h:0≤r) (h2:a+r≤6):ad a r=a+r:=by unfold ad;rw[if_neg (by omega),if_neg (by omega)]
theorem zdb {a r:Int} (h:r<0∨a+r>6):ad a r=-1:=by
 unfold ad;by_cases h1:r<0
 ·rw[if_pos h1]
 ·rw[if_neg h1,if_pos (by omega)]
theorem zFP {a b r:Int} (hb:0≤b) (ha:0≤a):ad (a+b) r=ad a (ad b r):=by
 by_cases h1:r<0∨b+r>6
 ·rw[zdb (a:=b) h1,zdb (a:=a) (.inl (by omega)),zdb (by omega)]
 ·rw[zfi (a:=b) (by omega) (by omega)];by_cases h2:a+(b+r)>6
  ·rw[zdb (.inr h2),zdb (.inr (by omega))]
  ·rw[zfi (by omega) (by omega),zfi (by omega) (by omega),Int.add_assoc]
theorem zyX (v:IT) (vs:List IT) (t:VT) (ts:List VT) (a:Int):rdA aa (v::vs) (t::ts) a=if rdV aa v t<0∨a+rdV aa v t>6 then -1 else rdA aa vs ts (a+rdV aa v t):=by simp only[rdA]
theorem zew (c:Int) (ks es:List IT) (t:VT) (a:Int):rdE aa (.mk c ks::es) t a=if c<0∨8≤c then -1 else match za9 aa t c with
  | none=>-1
  | some ps=>if ps.length=ks.length then (if rdA aa ks ps 0<0∨a+1+rdA aa ks ps 0>6 then -1 else rdE aa es t (a+(1+rdA aa ks ps 0))) else -1:=by simp only[rdE] <;> rfl
theorem zku:∀ (es:List IT) (t:VT) (a:Int),0≤a→rdE aa es t a=-1∨a+es.length≤rdE aa es t a
 | [],_,a,h=>by simp[rdE]
 | .mk c ks::es,t,a,h=>by
  rw[zew];by_cases hc:c<0∨8≤c
  ·rw[if_pos hc];exact .inl rfl
  ·rw[if_neg hc];cases za9 aa t c with
   | none=>exact .inl rfl
   | some ps=>
    simp only;by_cases hl:ps.length=ks.length
    ·rw[if_pos hl];by_cases h0:rdA aa ks ps 0<0∨a+1+rdA aa ks ps 0>6
     ·rw[if_pos h0];exact .inl rfl
     ·rw[if_neg h0];rcases zku es t (a+(1+rdA aa ks ps 0)) (by omega) with h2 | h2
      ·exact .inl h2
      ·right;simp only[List.length_cons];omega
    ·rw[if_neg hl];exact .inl rfl
theorem zkt:∀ (es:List IT) (t:VT) (a:Int),0≤a→a≤6→rdE aa es t a=ad a (rdE aa es t 0)
 | [],_,a,h,h6=>by simp only[rdE];rw[zfi (by omega) (by omega),Int.add_zero]
 | .mk c ks::es,t,a,h,h6=>by
  rw[zew,zew];by_cases hc:c<0∨8≤c
  ·rw[if_pos hc,if_pos hc,zdb (.inl (by omega))]
  ·rw[if_neg hc,if_neg hc];cases za9 aa t c with
   | none=>exact (zdb (a:=a) (r:=-1) (.inl (by omega))).symm
   | some ps=>
    simp only;by_cases hl:ps.length=ks.length
    ·rw[if_pos hl,if_pos hl];by_cases h0:rdA aa ks ps 0<0∨0+1+rdA aa ks ps 0>6
     ·rw[if_pos h0,if_pos (by omega),zdb (.inl (by omega))]
     ·rw[if_neg h0,zkt es t (0+(1+rdA aa ks ps 0)) (by omega) (by omega),Int.zero_add];have g2:=zku (aa:=aa) es t 0 (by omega);by_cases h3:a+1+rdA aa ks ps 0>6
      ·rw[if_pos (Or.inr h3)];generalize rdE aa es t 0=r at *;by_cases h4:r<0∨(1+rdA aa ks ps 0)+r>6
       ·rw[zdb h4,zdb (.inl (by omega))]
       ·rw[zfi (a:=1+rdA aa ks ps 0) (by omega) (by omega),zdb (.inr (by omega))]
      ·rw[if_neg (by omega),zkt es t _ (by omega) (by omega),zFP (by omega) h]
    ·rw[if_neg hl,if_neg hl,zdb (.inl (by omega))]
theorem zrk (h8:∀ D∈aa,D.cons.length≤8):∀ (xs ys:List IT) (t:VT) (a:Int),0≤a→a≤6→rdE aa (xs++ys) t a=(if rdE aa xs t a<0 then -1 else rdE aa ys t (rdE aa xs t a))
 | [],ys,t,a,h,_=>by rw[List.nil_append,if_neg (by simp only[rdE];omega)];simp only[rdE]
 | .mk c ks::es,ys,t,a,h,h6=>by
  rw[List.cons_append,zew,zew];by_cases hc:c<0∨8≤c
  ·rw[if_pos hc];simp[hc]
  ·rw[if_neg hc];simp only[if_neg hc];cases za9 aa t c with
   | none=>simp
   | some ps=>
    simp only;by_cases hl:ps.length=ks.length
    ·simp only[if_pos hl];by_cases h0:rdA aa ks ps 0<0∨a+1+rdA aa ks ps 0>6
     ·simp only[if_pos h0];simp
     ·simp only[if_neg h0];exact zrk h8 es ys t _ (by omega) (by omega)
    ·simp only[if_neg hl];simp
end
section
open Go.RowKit
variable {P:Program}
end
section
variable (t0:AV) (H:zaa) (K:Kt)
def zMf:Nat→List Bool | 300001=>rl false [0,1] | _=>[]
noncomputable def zMg:Code:=Tryz.f130.body.getD .skip
def zsx:Prop:=zg8 true .eql t0 λt4=>zag t4 (K .snil H) (zau 2 [(.int .i64 0),.snil] 0 [] λt5=>zav zbf 2 32 t5 t0 H λt7 H=>K t7 H)
variable {t0} {H} {K}
theorem zMh (h:HSc H→zsx t0 H K):ACalls tP zqe [t0] H K:=
 acb zMf Tryz.func130 zMg (by kernel_rfl) (by kernel_rfl) h
end
def RowA (H:zaa) (a:AV) (n:Nat) (ds:List AV):Prop:=
 ds.length=n*2∧ds.all AV.known=true∧((∃ id,a=.ms id 0 n n∧H[id]?=some (.cells ds))∨(0<n∧∃ id e,a=.ov id n∧H[id]?=some (.vec e 2 n ds)))
theorem RowA.app {H J:zaa} {a:AV} {n:Nat} {ds:List AV} (h:RowA H a n ds):RowA (H++J) a n ds:=by
 obtain⟨h1,h2,h3⟩:=h;refine⟨h1,h2,?_⟩;rcases h3 with ⟨id,rfl,h⟩ | ⟨h0,id,e,rfl,h⟩
 ·exact .inl ⟨id,rfl,by rw[List.getElem?_append_left (List.getElem?_eq_some_iff.1 h).1];exact h⟩
 ·exact .inr ⟨h0,id,e,rfl,by rw[List.getElem?_append_left (List.getElem?_eq_some_iff.1 h).1];exact h⟩
section
variable (t0 t1 t2 t3 t6 t7 t8 t10 t11 t12 t13 t19 t20:AV) (H:zaa) (K:Kt) (Kb2 Kb3 Kb4:Lt)
def zll:Nat→List Bool | 3=>rl false [2,2,6,3,12] | _=>[]
noncomputable def zsm:Code:=Tryz.f116.body.getD .skip
noncomputable def zLA:List ResultVar:=Tryz.f116.results.toList
def zlm:List AV:=ux 2 (t2::t3::ux 6 (t10::t11::t12::ux 12 []))
def zLy:List Bool:=zll 3
noncomputable def zLw:Code:=zar [1,1,0,1,0,0] zsm
def zLv:AExit→List AV→zaa→Prop:=zas tP zll [1,1,0,1,0] zsm (zaz tP zLA K)
def zln:Prop:=ALoop tP zLw (zLv K) (zlm t2 t3 t10 t11 t12) H
def zsl:Prop:=zac .lss false t12 t11 λt13=>zag t13 (zak 2 t10 t12 λt14=>zae true 2 t14 H λt15=>zay [(.int .i64 0),.snil] H λt5 H=>zao 2 t5 t15 H λH=>zab H (λK'=>zaf 1 t3 (K' · H)) λt16=>zab H (λK'=>zaj false 1 t16 H (K' · H)) λt17=>zab H (λK'=>zaj true 2 t5 H (K' · H)) λt18=>zaA H (λH K'=>ACalls tP zhL [t18] H K') λt19=>zab H (λK'=>zau 2 [(.int .i64 0),.snil] 1 [(0,t19)] (K' · H)) λt20=>zav zbf 2 32 t17 t20 H λt21 H=>zab H (λK'=>zaf 1 t3 (K' · H)) λt22=>zao 1 t22 t21 H λH=>zac .add false t12 (.int .i64 1) λt23=>Kb3 (zlm t2 t3 t10 t11 t23) H) (zae true 2 t3 H λt24=>zao 2 t2 t24 H λH=>zae true 2 t2 H λr0=>K r0 H)
def zAT:Prop:=zat t0 H λt1 H=>zay [(.int .i64 0),.snil] H λt2 H=>zaf 0 t1 λt6=>zae false 1 t6 H λt7=>zaq [(.int .i64 0),.snil] [(0,1),(1,1)] [(0,t7)] λt8=>zay [(.int .i64 0),.snil] H λt3 H=>zao 2 t3 t8 H λH=>zaf 1 t1 λt9=>zae false 1 t9 H λt10=>zah 1 t10 λt11=>zln t2 t3 t10 t11 (.int .i64 0) H K
def zM0 (_:Nat):List Bool:=[]
noncomputable def zM1:Code:=Tryz.f139.body.getD .skip
def zBq:Prop:=ACalls tP zjJ [t0] H λt8 H=>ACalls tP zjJ [t1] H λt10 H=>zag t8 (zag t10 (K (.int .i64 0) H) (K (.int .i64 (-1)) H)) (zag t10 (K (.int .i64 1) H) (zac .lss false t0 t1 λt16=>zag t16 (K (.int .i64 (-1)) H) (zac .gtr false t0 t1 λt19=>zag t19 (K (.int .i64 1) H) (K (.int .i64 0) H))))
def zlJ:Nat→List Bool | 3=>rl false [3,1,2,3,9] | _=>[]
noncomputable def zsI:Code:=Tryz.f138.body.getD .skip
noncomputable def zMZ:List ResultVar:=Tryz.f138.results.toList
def zlL:List AV:=ux 3 (t3::ux 2 (t6::t7::t8::ux 9 []))
def zMX:List Bool:=zlJ 3
noncomputable def zMV:Code:=zar [1,1,0,1,0,0] zsI
def zMU:AExit→List AV→zaa→Prop:=zas tP zlJ [1,1,0,1,0] zsI (zaz tP zMZ K)
def zBp:Prop:=ALoop tP zMV (zMU K) (zlL t3 t6 t7 t8) H
def zlK:Prop:=zac .lss false t8 t7 λt9=>zag t9 (zak 1 t6 t8 λt10=>zae false 1 t10 H λt11=>zac .neq false t11 t3 λt14=>zag t14 (K t11 H) (zac .add false t8 (.int .i64 1) λt16=>Kb3 (zlL t3 t6 t7 t16) H)) (K t3 H)
def zBo:Prop:=zah 1 t0 λt7=>zBp (.int .i64 0) t0 t7 (.int .i64 0) H K
def zQh (_:Nat):List Bool:=[]
noncomputable def zQi:Code:=Tryz.f187.body.getD .skip
def zCB:Prop:=zac .neq false t0 t0 λt5=>K t5 H
def zWT (_:Nat):List Bool:=[]
noncomputable def zWU:Code:=Tryz.f86.body.getD .skip
def zEL:Prop:=zat t0 H λt2 H=>zat t1 H λt3 H=>zab H (λK'=>zaf 0 t2 (K' · H)) λt6=>zab H (λK'=>zaj false 1 t6 H (K' · H)) λt7=>zab H (λK'=>zaf 0 t3 (K' · H)) λt8=>zab H (λK'=>zaj false 1 t8 H (K' · H)) λt9=>zaA H (λH K'=>ACalls tP zjA [t7,t9] H K') λt10=>zab H (λK'=>zaf 1 t2 (K' · H)) λt11=>zab H (λK'=>zaj false 1 t11 H (K' · H)) λt12=>zab H (λK'=>zah 1 t12 (K' · H)) λt13=>zab H (λK'=>zaf 1 t3 (K' · H)) λt14=>zab H (λK'=>zaj false 1 t14 H (K' · H)) λt15=>zab H (λK'=>zah 1 t15 (K' · H)) λt16=>zaA H (λH K'=>ACalls tP zjA [t13,t16] H K') λt17=>zab H (λK'=>zau 1 [(.int .i64 0)] 2 [(0,t10),(1,t17)] (K' · H)) λt18=>zaA H (λH K'=>ACalls tP zqk [t18] H K') λt19=>zab H (λK'=>K' t19 H) λt5=>zac .neq false t5 (.int .i64 0) λt21=>zag t21 (K t5 H) (zaf 1 t2 λt23=>zae false 1 t23 H λt24=>zaf 1 t3 λt25=>zae false 1 t25 H λt26=>ACalls tP zql [t24,t26,(.fn zgv [])] H λt27 H=>K t27 H)
def zLs (_:Nat):List Bool:=[]
noncomputable def zLt:Code:=Tryz.f115.body.getD .skip
def zsk:Prop:=zat t0 H λt2 H=>zat t1 H λt3 H=>zaf 0 t2 λt5=>zae false 1 t5 H λt6=>zaf 0 t3 λt7=>zae false 1 t7 H λt8=>zac .neq false t6 t8 λt9=>zag t9 (zaf 0 t2 λt10=>zae false 1 t10 H λt11=>zaf 0 t3 λt12=>zae false 1 t12 H λt13=>zac .lss false t11 t13 λt14=>ACalls tP zjD [t14] H λt15 H=>K t15 H) (zaf 1 t2 λt16=>zae false 1 t16 H λt17=>zaf 1 t3 λt18=>zae false 1 t18 H λt19=>ACalls tP zqq [t17,t19] H λt20 H=>K t20 H)
def zmb:Nat→List Bool | 4=>rl false [0,2,17,2,15] | _=>[]
noncomputable def zs7:Code:=Tryz.f155.body.getD .skip
noncomputable def zOg:List ResultVar:=Tryz.f155.results.toList
def zmc:List AV:=t0::t1::ux 17 (t19::t20::ux 15 [])
def zOd:List Bool:=zmb 4
noncomputable def zOb:Code:=zar [1,1,0,1,0,0] zs7
def zOa:AExit→List AV→zaa→Prop:=zas tP zmb [1,1,0,1,0] zs7 (zaz tP zOg K)
def zBE:Prop:=ALoop tP zOb (zOa K) (zmc t0 t1 t19 t20) H
def zs6:Prop:=zac .lss false t20 t19 λt21=>zag t21 (zab H (λK'=>K' t0 H) λt23=>zab H (λK'=>K' t20 H) λt24=>zab H (λK'=>zak 2 t23 t24 (K' · H)) λt25=>zab H (λK'=>zaj true 2 t25 H (K' · H)) λt26=>zab H (λK'=>K' t1 H) λt27=>zab H (λK'=>K' t20 H) λt28=>zab H (λK'=>zak 2 t27 t28 (K' · H)) λt29=>zab H (λK'=>zaj true 2 t29 H (K' · H)) λt30=>zaA H (λH K'=>ACalls tP zgn [t26,t30] H K') λt31=>zab H (λK'=>K' t31 H) λt6=>zac .neq false t6 (.int .i64 0) λt33=>zag t33 (K t6 H) (zac .add false t20 (.int .i64 1) λt35=>Kb4 (zmc t0 t1 t19 t35) H)) (K (.int .i64 0) H)
def zs5:Prop:=zah 1 t0 λt8=>zah 1 t1 λt10=>zac .neq false t8 t10 λt11=>zag t11 (zah 1 t0 λt13=>zah 1 t1 λt15=>zac .lss false t13 t15 λt16=>ACalls tP zjD [t16] H λt17 H=>K t17 H) (zah 1 t0 λt19=>zBE t0 t1 t19 (.int .i64 0) H K)
def zN7 (_:Nat):List Bool:=[]
noncomputable def zN8:Code:=Tryz.f154.body.getD .skip
def zBD:Prop:=zag t0 (K (.int .i64 (-1)) H) (K (.int .i64 1) H)
def zlM:Nat→List Bool | 2=>rl false [0,3,8,3,25] | _=>[]
noncomputable def zsK:Code:=Tryz.f140.body.getD .skip
noncomputable def zM8:List ResultVar:=Tryz.f140.results.toList
def zlN:List AV:=t0::t1::t2::ux 8 (t11::t12::t13::ux 25 [])
def zM6:List Bool:=zlM 2
noncomputable def zM4:Code:=zar [1,0,1,0,0] zsK
def zM3:AExit→List AV→zaa→Prop:=zas tP zlM [1,0,1,0] zsK (zaz tP zM8 K)
def zBs:Prop:=ALoop tP zM4 (zM3 K) (zlN t0 t1 t2 t11 t12 t13) H
def zsJ:Prop:=zac .lss false t13 t12 λt14=>zag t14 (zak 2 t11 t13 λt16=>zae true 2 t16 H λt17=>zay [(.int .i64 0),.snil] H λt8 H=>zao 2 t8 t17 H λH=>zah 1 t1 λt20=>zac .geq false t13 t20 λt21=>zag t21 (K (.int .i64 1) H) (zak 2 t1 t13 λt24=>zae true 2 t24 H λt25=>zay [(.int .i64 0),.snil] H λt9 H=>zao 2 t9 t25 H λH=>zae true 2 t8 H λt27=>zae true 2 t9 H λt28=>aCallV tP t2 [t27,t28] H λt29 H=>zac .neq false t29 (.int .i64 0) λt31=>zag t31 (K t29 H) (zac .add false t13 (.int .i64 1) λt33=>Kb2 (zlN t0 t1 t2 t11 t12 t33) H))) (zah 1 t0 λt35=>zah 1 t1 λt37=>zac .lss false t35 t37 λt38=>zag t38 (K (.int .i64 (-1)) H) (K (.int .i64 0) H))
def zBr:Prop:=zah 1 t0 λt12=>zBs t0 t1 t2 t0 t12 (.int .i64 0) H K
variable {t0 t1 t2 t3 t6 t7 t8 t10 t11 t12 t13 t19 t20} {H} {K} {Kb2 Kb3 Kb4}
theorem zLx (Inv:Nat→AV→zaa→Prop) (n:Nat) (h0:HSc H→Inv n t12 H)
  (ac:Rd1 (λt12=>zlm t2 t3 t10 t11 t12) (λt12=>λH Kb3=>zsl t2 t3 t10 t11 t12 H K Kb3) H Inv):zln t2 t3 t10 t11 t12 H K:=
 lp1 (M:=zll) zLy t12 (by kernel_rfl) Inv n h0 ac
theorem zLz (h:HSc H→zAT t0 H K):ACalls tP zhL [t0] H K:=
 acb zll Tryz.func116 zsm (by kernel_rfl) (by kernel_rfl) h
theorem zM2 (h:HSc H→zBq t0 t1 H K):ACalls tP zjA [t0,t1] H K:=
 acb zM0 Tryz.func139 zM1 (by kernel_rfl) (by kernel_rfl) h
theorem zMW (Inv:Nat→AV→zaa→Prop) (n:Nat) (h0:HSc H→Inv n t8 H)
  (ac:Rd1 (λt8=>zlL t3 t6 t7 t8) (λt8=>λH Kb3=>zlK t3 t6 t7 t8 H K Kb3) H Inv):zBp t3 t6 t7 t8 H K:=
 lp1 (M:=zlJ) zMX t8 (by kernel_rfl) Inv n h0 ac
theorem zMY (h:HSc H→zBo t0 H K):ACalls tP zqk [t0] H K:=
 acb zlJ Tryz.func138 zsI (by kernel_rfl) (by kernel_rfl) h
theorem zQj (h:HSc H→zCB t0 H K):ACalls tP zjJ [t0] H K:=
 acb zQh Tryz.func187 zQi (by kernel_rfl) (by kernel_rfl) h
theorem zWV (h:HSc H→zEL t0 t1 H K):ACalls tP zgv [t0,t1] H K:=
 acb zWT Tryz.func86 zWU (by kernel_rfl) (by kernel_rfl) h
theorem zLu (h:HSc H→zsk t0 t1 H K):ACalls tP zgn [t0,t1] H K:=
 acb zLs Tryz.func115 zLt (by kernel_rfl) (by kernel_rfl) h
theorem zOc (Inv:Nat→AV→zaa→Prop) (n:Nat) (h0:HSc H→Inv n t20 H)
  (ac:Rd1 (λt20=>zmc t0 t1 t19 t20) (λt20=>λH Kb4=>zs6 t0 t1 t19 t20 H K Kb4) H Inv):zBE t0 t1 t19 t20 H K:=
 lp1 (M:=zmb) zOd t20 (by kernel_rfl) Inv n h0 ac
theorem zOe (h:HSc H→zs5 t0 t1 H K):ACalls tP zqq [t0,t1] H K:=
 acb zmb Tryz.func155 zs7 (by kernel_rfl) (by kernel_rfl) h
theorem zN9 (h:HSc H→zBD t0 H K):ACalls tP zjD [t0] H K:=
 acb zN7 Tryz.func154 zN8 (by kernel_rfl) (by kernel_rfl) h
theorem zM5 (Inv:Nat→AV→zaa→Prop) (n:Nat) (h0:HSc H→Inv n t13 H)
  (ac:Rd1 (λt13=>zlN t0 t1 t2 t11 t12 t13) (λt13=>λH Kb2=>zsJ t0 t1 t2 t11 t12 t13 H K Kb2) H Inv):zBs t0 t1 t2 t11 t12 t13 H K:=
 lp1 (M:=zlM) zM6 t13 (by kernel_rfl) Inv n h0 ac
theorem zM7 (h:HSc H→zBr t0 t1 t2 H K):ACalls tP zql [t0,t1,t2] H K:=
 acb zlM Tryz.func140 zsK (by kernel_rfl) (by kernel_rfl) h
end
theorem zck (v:IT):∃ a b,v.cs=[a,b]∧a.known=true∧b.known=true:=by obtain⟨n,ks⟩:=v;exact⟨_,_,rfl,rfl,rfl⟩
theorem zwX {v:IT} {k:AV→Prop}:zau 2 [.int .i64 0,.snil] 1 [(0,.agg v.cs)] k=k (.sl [v.cs] .full):=by cases v;exact propext Iff.rfl
theorem zxJ {l:List IT} {i:Nat} (h:i<l.length):IT.css (l.take (i+1))=IT.css (l.take i)++[(l[i]).cs]:=by rw[IT.css_map,IT.css_map,List.take_succ_eq_append_getElem h,List.map_append];rfl
theorem zLB:∀ (m:Nat) (v:IT),v.nodes≤m→v.nodes≤1000000→∀ (H:zaa) (K:Kt),K (.agg v.cs) H→ACalls tP zhL [.agg v.cs] H K:=by
 intro m;induction m with
 | zero=>intro v h;have:=v.nodes_pos;omega
 | succ m ih=>
  intro v hm hb H K hK;obtain⟨n,ks⟩:=v;have bm:=IT.len_le ks;have dU:(IT.mk n ks).nodes=IT.nodesL ks+1:=by simp[IT.nodes]
  refine ACalls.out (zLz λhs=>?_);simp[zAT,IT.cs,zaq,zaI,AV.known,Nat.add_assoc];unfold zln;refine ALoop.ownC (H.length+2) 1 zbf 2 (cs:=[.int .i64 n,.snil]) (by simp) rfl ?_;have aW:(H++[AB.cells [.int .i64 n,.sl (IT.css ks) .none],.cells [.int .i64 0,.snil],.cells [.int .i64 n,.snil]]).set (H.length+2) (.cells ([AV.int .i64 n,.snil].set 1 (.sl [] (.own (H++[AB.cells [.int .i64 n,.sl (IT.css ks) .none],.cells [.int .i64 0,.snil],.cells [.int .i64 n,.snil]]).length))))++[.perm zbf 2 0] =
    H++[.cells [.int .i64 n,.sl (IT.css ks) .none],.cells [.int .i64 0,.snil],.cells [.int .i64 n,.sl [] (.own (H.length+3))],.perm zbf 2 0]:=by simp[List.set_append_right]
  rw[aW];show zln (.ptr (H.length+1) 0) (.ptr (H.length+2) 0) (.sl (IT.css ks) .none) (.int .i64 ks.length) (.int .i64 0) _ (Out H.length K);have hsc:∀ i,HSc (H++[.cells [.int .i64 n,.sl (IT.css ks) .none],.cells [.int .i64 0,.snil],.cells [.int .i64 n,.sl (IT.css (ks.take i)) (.own (H.length+3))],.perm zbf 2 i]):=λi=>hs.append (by simp[AB.sc,AV.scA,AV.scB]);refine zLx (Inv:=λq t12 H'=>∃ i:Nat,i≤ks.length∧q=ks.length-i∧t12=.int .i64 i ∧
   H'=H++[.cells [.int .i64 n,.sl (IT.css ks) .none],.cells [.int .i64 0,.snil],.cells [.int .i64 n,.sl (IT.css (ks.take i)) (.own (H.length+3))],.perm zbf 2 i]) ks.length ?_ ?_
  ·intro _;exact⟨0,by omega,by omega,rfl,by simp[IT.css]⟩
  ·rintro q t12 H' ⟨i,hi,rfl,rfl,rfl⟩ aJ am aM Kb au;by_cases ak:i<ks.length
   ·obtain⟨x,y,aC,hx,hy⟩:=zck ks[i];have cI:=IT.kid_lt (n:=n) ak;simp[zsl,ak,aC,hx,hy];rw[←aC];refine zaB (.agg (ks[i]).cs) (λJ=>ih ks[i] (by omega) (by omega) _ _ ⟨rfl,rfl⟩) ?_;rw[zwX];simp[zav,zaM,zaJ,Nat.min_eq_left hi,AV.known,List.set_append_right];refine⟨⟨by omega,by omega⟩,?_⟩;rw[zaw (by omega) (by omega)];rw[←zxJ ak];refine au _ _ ⟨ks.length-(i+1),by omega,Back.at (J:=[.cells (ks[i]).cs]) (H2:=H++[.cells [.int .i64 n,.sl (IT.css ks) .none],.cells [.int .i64 0,.snil],.cells [.int .i64 n,.sl (IT.css (ks.take (i+1))) (.own (H.length+3))],.perm zbf 2 (i+1)]) (by simp) (by simp) (hsc _) ?_ ⟨_,rfl,i+1,by omega,rfl,by simp,rfl⟩⟩;simp[zlm,AV.sc,AV.scV,AV.scA,AV.scB]
   ·obtain rfl:i=ks.length:=by omega
    rw[List.take_length]at *;simp[zsl,AV.known,List.set_append_right];exact Out.at rfl (Nat.le_refl _) hs (WkV.agg (ds:=[.int .i64 n,.sl (IT.css ks) .none]) ⟨.refl _,.sl _ _,trivial⟩) rfl (by simp[AV.scV,AV.scA,AV.scB]) (by simpa[IT.cs]using hK)
mutual
def zdG:VT→IT
 | .mk k _ ks=>.mk 0 (if k=6 then zcK ks else [])
def zcK:List VT→List IT
 | []=>[]
 | t::ts=>zdG t::zcK ts
end
theorem zAu:∀ ts:List VT,zcK ts=ts.map zdG
 | []=>by simp[zcK]
 | t::ts=>by simp[zcK,zAu ts]
section
variable (t0 t1 t2 t4 t5 t7 t8 t53 t54 t55 t56 t57 t58:AV) (H:zaa) (K:Kt) (Kb5 Kb13 Kb15:Lt)
def zYm (_:Nat):List Bool:=[]
noncomputable def zYn:Code:=Tryz.f11.body.getD .skip
def zq9:Prop:=zat t0 H λt1 H=>zay [(.int .i64 0)] H λt3 H=>zao 1 t3 (.int .i64 40) H λH=>zae true 2 t1 H λt4=>ACalls tP zjZ [t4,t3] H λt5 H=>K t5 H
def zno:Nat→List Bool | 5=>rl false [1,2,2,1,24] | _=>[]
noncomputable def zuz:Code:=Tryz.f39.body.getD .skip
noncomputable def zTG:List ResultVar:=Tryz.f39.results.toList
def znp:List AV:=ux 1 (t1::t2::ux 2 (t5::ux 24 []))
def zTE:List Bool:=zno 5
noncomputable def zTC:Code:=zar [1,1,1,0,1,0,0] zuz
def zTB:AExit→List AV→zaa→Prop:=zas tP zno [1,1,1,0,1,0] zuz (zaz tP zTG K)
def zDH:Prop:=ALoop tP zTC (zTB K) (znp t1 t2 t5) H
def zuy:Prop:=zaf 1 t2 λt16=>zae false 1 t16 H λt17=>zah 1 t17 λt18=>zac .lss false t5 t18 λt19=>zag t19 (zaf 1 t2 λt22=>zae false 1 t22 H λt23=>zak 2 t23 t5 λt25=>zae true 2 t25 H λt26=>ACalls tP zjZ [t26,t1] H λt28 H=>aUn .not t28 λt29=>zag t29 (K (.bool false) H) (zac .add false t5 (.int .i64 1) λt21=>Kb5 (znp t1 t2 t21) H)) (K (.bool true) H)
def zDG:Prop:=zat t0 H λt2 H=>za7 t1 λt7=>zae false 1 t7 H λt8=>zac .sub false t8 (.int .i64 1) λt9=>za7 t1 λt10=>zao 1 t10 t9 H λH=>za7 t1 λt12=>zae false 1 t12 H λt13=>zac .lss false t13 (.int .i64 0) λt14=>zag t14 (K (.bool false) H) (zDH t1 t2 (.int .i64 0) H K)
def zTI (_:Nat):List Bool:=[]
noncomputable def zTJ:Code:=Tryz.f40.body.getD .skip
def zDI:Prop:=zat t1 H λt4 H=>zat t2 H λt5 H=>zae true 3 t4 H λt10=>ACalls tP zqX [t0,t10] H λt11 H=>aUn .not t11 λt12=>zag t12 (K (.int .i64 (-1)) H) (zae true 3 t4 H λt15=>zae true 2 t5 H λt16=>ACalls tP zj5 [t0,t15,t16] H λt17 H=>zaC t17 0 λt18=>zaC t17 1 λt19=>aUn .not t19 λt21=>zag t21 (K (.int .i64 (-1)) H) (K t18 H))
def zR1 (_:Nat):List Bool:=[]
noncomputable def zR2:Code:=Tryz.f23.body.getD .skip
def zC4:Prop:=zat t1 H λt4 H=>zat t2 H λt5 H=>zae true 3 t4 H λt8=>ACalls tP zqU [t0,t8] H λt9 H=>aUn .not t9 λt10=>zag t10 (K (.int .i64 (-1)) H) (zae true 3 t4 H λt12=>zae true 2 t5 H λt13=>ACalls tP zhY [t0,t12,t13] H λt14 H=>K t14 H)
def zVY (_:Nat):List Bool:=[]
noncomputable def zVZ:Code:=Tryz.f73.body.getD .skip
def zEs:Prop:=zat t1 H λt3 H=>zaq [.snil,.snil,.snil,.snil] [(0,1),(1,1),(2,1),(3,1)] [(0,t0)] λt6=>ACalls tP zqa [t6] H λt7 H=>zad t7 true H (λK'=>K' t0 H) λt9 H=>zad t7 true H (λK'=>zae true 3 t3 H (K' · H)) λt10 H=>zad t7 true H (λK'=>ACalls tP zhM [t9,t10,(.int .i64 0)] H K') λt11 H=>zam t7 t11 (.bool false) λt12=>K t12 H
def zod:Nat→List Bool | 13=>rl false [0,1,3,1,3,1,44,3,42] | _=>[]
noncomputable def zvk:Code:=Tryz.f74.body.getD .skip
noncomputable def zV7:List ResultVar:=Tryz.f74.results.toList
def zoe:List AV:=t0::ux 3 (t4::ux 3 (t8::ux 44 (t53::t54::t55::ux 42 [])))
def zV5:List Bool:=zod 13
noncomputable def zV3:Code:=zar [1,0,1,0,1,1,1,1,1,0,1,1,0,1,0,0] zvk
def zV2:AExit→List AV→zaa→Prop:=zas tP zod [1,0,1,0,1,1,1,1,1,0,1,1,0,1,0] zvk (zaz tP zV7 K)
def zEt:Prop:=ALoop tP zV3 (zV2 K) (zoe t0 t4 t8 t53 t54 t55) H
def zvj:Prop:=zac .lss false t55 t54 λt56=>zag t56 (zak 2 t53 t55 λt57=>zae true 2 t57 H λt58=>zay [(.int .i64 0),.snil] H λt10 H=>zao 2 t10 t58 H λH=>zae true 3 t4 H λt61=>zaf 0 t10 λt62=>zae false 1 t62 H λt63=>ACalls tP zqb [t0,t61,t63] H λt64 H=>zaC t64 0 λt65=>zaC t64 1 λt66=>aUn .not t66 λt68=>zag t68 (zaF [(.int .i64 0),(.bool false)] (K · H)) (zaf 1 t10 λt72=>zae false 1 t72 H λt73=>ACalls tP zjx [t0,t65,t73] H λt74 H=>zaC t74 0 λt75=>zaC t74 1 λt76=>zac .add false (.int .i64 1) t75 λt79=>zac .add false t8 t79 λt80=>aUn .not t76 λt82=>zad t82 false H (λK'=>K' t80 H) λt84 H=>zad t82 false H (λK'=>zac .gtr false t84 (.int .i64 6) (K' · H)) λt85 H=>zam t82 (.bool true) t85 λt86=>zag t86 (zaF [(.int .i64 0),(.bool false)] (K · H)) (zac .add false t55 (.int .i64 1) λt87=>Kb13 (zoe t0 t4 t80 t53 t54 t87) H))) (zaF [t8,(.bool true)] (K · H))
def zdI:Prop:=zat t1 H λt4 H=>zat t2 H λt5 H=>zaf 0 t4 λt14=>zae false 1 t14 H λt15=>zac .eql false t15 (.int .i64 6) λt17=>zag t17 (zaf 0 t5 λt18=>zae false 1 t18 H λt19=>zac .neq false t19 (.int .i64 0) λt20=>zag t20 (zaF [(.int .i64 0),(.bool false)] (K · H)) (zaf 2 t4 λt22=>zae false 1 t22 H λt23=>zaf 1 t5 λt24=>zae false 1 t24 H λt25=>ACalls tP zjx [t0,t23,t25] H λt26 H=>zaC t26 0 λt27=>zaC t26 1 λt28=>zaF [t27,t28] (K · H))) (zac .eql false t15 (.int .i64 7) λt30=>zag t30 (zab H (λK'=>zaf 0 t5 (K' · H)) λt31=>zab H (λK'=>zaj false 1 t31 H (K' · H)) λt32=>zab H (λK'=>zaf 0 t5 (K' · H)) λt33=>zab H (λK'=>zaj false 1 t33 H (K' · H)) λt34=>zab H (λK'=>zac .geq false t34 (.int .i64 0) (K' · H)) λt35=>zab H (λK'=>K' t35 H) λt36=>zad t36 true H (λK'=>zab H (λK''=>zaf 0 t5 (K'' · H)) (K' · H)) λt37 H=>zad t36 true H (λK'=>zab H (λK''=>zaj false 1 t37 H (K'' · H)) (K' · H)) λt38 H=>zad t36 true H (λK'=>zab H (λK''=>zac .leq false t38 (.int .i64 6) (K'' · H)) (K' · H)) λt39 H=>zab H (λK'=>zam t36 t39 (.bool false) (K' · H)) λt40=>zab H (λK'=>K' t40 H) λt41=>zad t41 true H (λK'=>zab H (λK''=>zaf 1 t5 (K'' · H)) (K' · H)) λt42 H=>zad t41 true H (λK'=>zab H (λK''=>zaj false 1 t42 H (K'' · H)) (K' · H)) λt43 H=>zad t41 true H (λK'=>zab H (λK''=>zah 1 t43 (K'' · H)) (K' · H)) λt44 H=>zad t41 true H (λK'=>zab H (λK''=>zac .eql false t44 (.int .i64 0) (K'' · H)) (K' · H)) λt45 H=>zab H (λK'=>zam t41 t45 (.bool false) (K' · H)) λt46=>zab H (λK'=>K' t32 H) λt6=>zab H (λK'=>K' t46 H) λt7=>zaF [t6,t7] (K · H)) (zac .eql false t15 (.int .i64 5) λt48=>zag t48 (zaf 0 t5 λt49=>zae false 1 t49 H λt50=>zac .neq false t50 (.int .i64 0) λt51=>zag t51 (zaF [(.int .i64 0),(.bool false)] (K · H)) (zaf 1 t5 λt52=>zae false 1 t52 H λt53=>zah 1 t53 λt54=>zEt t0 t4 (.int .i64 0) t53 t54 (.int .i64 0) H K)) (zab H (λK'=>zaf 0 t5 (K' · H)) λt89=>zab H (λK'=>zaj false 1 t89 H (K' · H)) λt90=>zab H (λK'=>zac .eql false t90 (.int .i64 0) (K' · H)) λt91=>zab H (λK'=>K' t91 H) λt92=>zad t92 true H (λK'=>zab H (λK''=>zaf 1 t5 (K'' · H)) (K' · H)) λt93 H=>zad t92 true H (λK'=>zab H (λK''=>zaj false 1 t93 H (K'' · H)) (K' · H)) λt94 H=>zad t92 true H (λK'=>zab H (λK''=>zah 1 t94 (K'' · H)) (K' · H)) λt95 H=>zad t92 true H (λK'=>zab H (λK''=>zac .eql false t95 (.int .i64 0) (K'' · H)) (K' · H)) λt96 H=>zab H (λK'=>zam t92 t96 (.bool false) (K' · H)) λt97=>zab H (λK'=>K' (.int .i64 0) H) λt6=>zab H (λK'=>K' t97 H) λt7=>zaF [t6,t7] (K · H))))
def zUU (_:Nat):List Bool:=[]
noncomputable def zUV:Code:=Tryz.f53.body.getD .skip
def zD3:Prop:=zat t1 H λt3 H=>ACalls tP zqT [t0] H λt6 H=>zad t6 true H (λK'=>K' t0 H) λt8 H=>zad t6 true H (λK'=>zae true 3 t3 H (K' · H)) λt9 H=>zad t6 true H (λK'=>ACalls tP zj2 [t8,t9,(.int .i64 0)] H K') λt10 H=>zam t6 t10 (.bool false) λt11=>K t11 H
def zn1:Nat→List Bool | 15=>rl false [0,1,3,1,2,1,48,3,50] | _=>[]
noncomputable def zu8:Code:=Tryz.f59.body.getD .skip
noncomputable def zVs:List ResultVar:=Tryz.f59.results.toList
def zn2:List AV:=t0::ux 3 (t4::ux 2 (t7::ux 48 (t56::t57::t58::ux 50 [])))
def zVq:List Bool:=zn1 15
noncomputable def zVo:Code:=zar [1,0,1,0,1,1,1,1,1,0,1,1,0,1,0,0] zu8
def zVn:AExit→List AV→zaa→Prop:=zas tP zn1 [1,0,1,0,1,1,1,1,1,0,1,1,0,1,0] zu8 (zaz tP zVs K)
def zEf:Prop:=ALoop tP zVo (zVn K) (zn2 t0 t4 t7 t56 t57 t58) H
def ziS:Prop:=zac .lss false t58 t57 λt59=>zag t59 (zak 2 t56 t58 λt60=>zae true 2 t60 H λt61=>zay [(.int .i64 0),.snil] H λt9 H=>zao 2 t9 t61 H λH=>zaf 0 t9 λt62=>zae false 1 t62 H λt63=>zac .lss false t63 (.int .i64 0) λt64=>zad t64 false H (λK'=>zaf 0 t9 (K' · H)) λt66 H=>zad t64 false H (λK'=>zae false 1 t66 H (K' · H)) λt67 H=>zad t64 false H (λK'=>zac .geq false t67 (.int .i64 8) (K' · H)) λt68 H=>zam t64 (.bool true) t68 λt69=>zag t69 (K (.int .i64 (-1)) H) (zae true 3 t4 H λt72=>zaf 0 t9 λt73=>zae false 1 t73 H λt74=>ACalls tP zjt [t0,t72,t74] H λt75 H=>zaC t75 0 λt76=>zaC t75 1 λt77=>aUn .not t77 λt79=>zag t79 (K (.int .i64 (-1)) H) (zaf 1 t9 λt82=>zae false 1 t82 H λt83=>ACalls tP zjw [t0,t76,t83] H λt84 H=>zac .lss false t84 (.int .i64 0) λt86=>zad t86 false H (λK'=>K' t7 H) λt88 H=>zad t86 false H (λK'=>zac .add false t88 (.int .i64 1) (K' · H)) λt89 H=>zad t86 false H (λK'=>K' t84 H) λt90 H=>zad t86 false H (λK'=>zac .add false t89 t90 (K' · H)) λt91 H=>zad t86 false H (λK'=>zac .gtr false t91 (.int .i64 6) (K' · H)) λt92 H=>zam t86 (.bool true) t92 λt93=>zag t93 (K (.int .i64 (-1)) H) (zac .add false (.int .i64 1) t84 λt96=>zac .add false t7 t96 λt97=>zac .add false t58 (.int .i64 1) λt98=>Kb15 (zn2 t0 t4 t97 t56 t57 t98) H)))) (K t7 H)
def zdl:Prop:=zat t1 H λt4 H=>zat t2 H λt5 H=>zaf 0 t4 λt13=>zae false 1 t13 H λt14=>zac .eql false t14 (.int .i64 6) λt16=>zag t16 (zaf 0 t5 λt17=>zae false 1 t17 H λt18=>zac .neq false t18 (.int .i64 0) λt19=>zag t19 (K (.int .i64 (-1)) H) (zaf 2 t4 λt21=>zae false 1 t21 H λt22=>zaf 1 t5 λt23=>zae false 1 t23 H λt24=>ACalls tP zjw [t0,t22,t24] H λt25 H=>K t25 H)) (zac .eql false t14 (.int .i64 7) λt27=>zag t27 (zaf 0 t5 λt28=>zae false 1 t28 H λt29=>zac .lss false t29 (.int .i64 0) λt30=>zad t30 false H (λK'=>zaf 0 t5 (K' · H)) λt32 H=>zad t30 false H (λK'=>zae false 1 t32 H (K' · H)) λt33 H=>zad t30 false H (λK'=>zac .gtr false t33 (.int .i64 6) (K' · H)) λt34 H=>zam t30 (.bool true) t34 λt35=>zad t35 false H (λK'=>zaf 1 t5 (K' · H)) λt37 H=>zad t35 false H (λK'=>zae false 1 t37 H (K' · H)) λt38 H=>zad t35 false H (λK'=>zah 1 t38 (K' · H)) λt39 H=>zad t35 false H (λK'=>zac .gtr false t39 (.int .i64 0) (K' · H)) λt40 H=>zam t35 (.bool true) t40 λt41=>zag t41 (K (.int .i64 (-1)) H) (zaf 0 t5 λt42=>zae false 1 t42 H λt43=>K t43 H)) (zac .eql false t14 (.int .i64 5) λt45=>zag t45 (zaf 0 t5 λt46=>zae false 1 t46 H λt47=>zac .neq false t47 (.int .i64 0) λt48=>zad t48 false H (λK'=>zaf 1 t5 (K' · H)) λt50 H=>zad t48 false H (λK'=>zae false 1 t50 H (K' · H)) λt51 H=>zad t48 false H (λK'=>zah 1 t51 (K' · H)) λt52 H=>zad t48 false H (λK'=>zac .gtr false t52 (.int .i64 6) (K' · H)) λt53 H=>zam t48 (.bool true) t53 λt54=>zag t54 (K (.int .i64 (-1)) H) (zaf 1 t5 λt55=>zae false 1 t55 H λt56=>zah 1 t56 λt57=>zEf t0 t4 (.int .i64 0) t56 t57 (.int .i64 0) H K)) (zaf 0 t5 λt100=>zae false 1 t100 H λt101=>zac .neq false t101 (.int .i64 0) λt102=>zad t102 false H (λK'=>zaf 1 t5 (K' · H)) λt104 H=>zad t102 false H (λK'=>zae false 1 t104 H (K' · H)) λt105 H=>zad t102 false H (λK'=>zah 1 t105 (K' · H)) λt106 H=>zad t102 false H (λK'=>zac .gtr false t106 (.int .i64 0) (K' · H)) λt107 H=>zam t102 (.bool true) t107 λt108=>zag t108 (K (.int .i64 (-1)) H) (K (.int .i64 0) H))))
variable {t0 t1 t2 t4 t5 t7 t8 t53 t54 t55 t56 t57 t58} {H} {K} {Kb5 Kb13 Kb15}
theorem zYo (h:HSc H→zq9 t0 H K):ACalls tP zkc [t0] H K:=
 acb zYm Tryz.func11 zYn (by kernel_rfl) (by kernel_rfl) h
theorem zTD (Inv:Nat→AV→zaa→Prop) (n:Nat) (h0:HSc H→Inv n t5 H)
  (ac:Rd1 (λt5=>znp t1 t2 t5) (λt5=>λH Kb5=>zuy t1 t2 t5 H K Kb5) H Inv):zDH t1 t2 t5 H K:=
 lp1 (M:=zno) zTE t5 (by kernel_rfl) Inv n h0 ac
theorem zTF (h:HSc H→zDG t0 t1 H K):ACalls tP zjZ [t0,t1] H K:=
 acb zno Tryz.func39 zuz (by kernel_rfl) (by kernel_rfl) h
theorem zTK (h:HSc H→zDI t0 t1 t2 H K):ACalls tP zhX [t0,t1,t2] H K:=
 acb zTI Tryz.func40 zTJ (by kernel_rfl) (by kernel_rfl) h
theorem zR3 (h:HSc H→zC4 t0 t1 t2 H K):ACalls tP zjS [t0,t1,t2] H K:=
 acb zR1 Tryz.func23 zR2 (by kernel_rfl) (by kernel_rfl) h
theorem zV0 (h:HSc H→zEs t0 t1 H K):ACalls tP zqX [t0,t1] H K:=
 acb zVY Tryz.func73 zVZ (by kernel_rfl) (by kernel_rfl) h
theorem zV4 (Inv:Nat→AV→AV→zaa→Prop) (n:Nat) (h0:HSc H→Inv n t8 t55 H)
  (ac:Rd2 (λt8=>λt55=>zoe t0 t4 t8 t53 t54 t55) (λt8=>λt55=>λH Kb13=>zvj t0 t4 t8 t53 t54 t55 H K Kb13) H Inv):zEt t0 t4 t8 t53 t54 t55 H K:=
 lp2 (M:=zod) zV5 t8 t55 (by kernel_rfl) Inv n h0 ac
theorem zV6 (h:HSc H→zdI t0 t1 t2 H K):ACalls tP zj5 [t0,t1,t2] H K:=
 acb zod Tryz.func74 zvk (by kernel_rfl) (by kernel_rfl) h
theorem zUW (h:HSc H→zD3 t0 t1 H K):ACalls tP zqU [t0,t1] H K:=
 acb zUU Tryz.func53 zUV (by kernel_rfl) (by kernel_rfl) h
theorem zVp (Inv:Nat→AV→AV→zaa→Prop) (n:Nat) (h0:HSc H→Inv n t7 t58 H)
  (ac:Rd2 (λt7=>λt58=>zn2 t0 t4 t7 t56 t57 t58) (λt7=>λt58=>λH Kb15=>ziS t0 t4 t7 t56 t57 t58 H K Kb15) H Inv):zEf t0 t4 t7 t56 t57 t58 H K:=
 lp2 (M:=zn1) zVq t7 t58 (by kernel_rfl) Inv n h0 ac
theorem zVr (h:HSc H→zdl t0 t1 t2 H K):ACalls tP zhY [t0,t1,t2] H K:=
 acb zn1 Tryz.func59 zu8 (by kernel_rfl) (by kernel_rfl) h
end
section
variable (t0 t1 t2 t7 t8 t10 t11 t12 t13 t16 t17 t18 t19 t20 t26 t27 t28 t29 t30 t33 t34 t35:AV) (H:zaa) (K:Kt) (Kb5 Kb6 Kb7:Lt)
def zlq:Nat→List Bool | 5=>rl false [0,1,1,1,5,1,9,3,23] | _=>[]
noncomputable def zsu:Code:=Tryz.f124.body.getD .skip
noncomputable def zL0:List ResultVar:=Tryz.f124.results.toList
def zlr:List AV:=t0::ux 1 (t2::ux 5 (t8::ux 9 (t18::t19::t20::ux 23 [])))
def zLY:List Bool:=zlq 5
noncomputable def zLW:Code:=zar [1,1,1,0,1,0,0] zsu
def zLV:AExit→List AV→zaa→Prop:=zas tP zlq [1,1,1,0,1,0] zsu (zaz tP zL0 K)
def zA4:Prop:=ALoop tP zLW (zLV K) (zlr t0 t2 t8 t18 t19 t20) H
def zst:Prop:=zac .lss false t20 t19 λt21=>zag t21 (zak 3 t18 t20 λt23=>zae true 3 t23 H λt24=>zay [(.int .i64 0),(.int .i64 0),.snil] H λt10 H=>zao 3 t10 t24 H λH=>zab H (λK'=>K' t0 H) λt26=>zab H (λK'=>zaj true 3 t10 H (K' · H)) λt27=>zab H (λK'=>K' t2 H) λt28=>zab H (λK'=>K' t20 H) λt29=>zab H (λK'=>zak 2 t28 t29 (K' · H)) λt30=>zab H (λK'=>zaj true 2 t30 H (K' · H)) λt31=>zaA H (λH K'=>ACalls tP zj5 [t26,t27,t31] H K') λt32=>zab H (λK'=>K' t32 H) λt25=>zab H (λK'=>zaC t25 0 (K' · H)) λt33=>zab H (λK'=>zaC t25 1 (K' · H)) λt34=>zab H (λK'=>K' t33 H) λt11=>zab H (λK'=>K' t34 H) λt12=>aUn .not t12 λt36=>zag t36 (zaF [(.int .i64 0),(.bool false)] (K · H)) (zac .add false t8 t11 λt39=>zac .add false t20 (.int .i64 1) λt40=>Kb5 (zlr t0 t2 t39 t18 t19 t40) H)) (zac .leq false t8 (.int .i64 6) λt43=>zaF [t8,t43] (K · H))
def zss:Prop:=zah 1 t1 λt14=>zah 1 t2 λt16=>zac .neq false t14 t16 λt17=>zag t17 (zaF [(.int .i64 0),(.bool false)] (K · H)) (zah 1 t1 λt19=>zA4 t0 t2 (.int .i64 0) t1 t19 (.int .i64 0) H K)
def zls:Nat→List Bool | 6=>rl false [8,1,1,1,15,3,15] | _=>[]
noncomputable def zsw:Code:=Tryz.f125.body.getD .skip
noncomputable def zL6:List ResultVar:=Tryz.f125.results.toList
def zlt:List AV:=ux 8 (t8::ux 1 (t10::ux 15 (t26::t27::t28::ux 15 [])))
def zL4:List Bool:=zls 6
noncomputable def zL2:Code:=zar [1,1,1,1,0,1,0,0] zsw
def zL1:AExit→List AV→zaa→Prop:=zas tP zls [1,1,1,1,0,1,0] zsw (zaz tP zL6 K)
def zlv:Prop:=ALoop tP zL2 (zL1 K) (zlt t8 t10 t26 t27 t28) H
def zA7 (t8 t10 t26 t27 t28:AV) (H:zaa) (K:Kt) (Kb6:Lt):Prop:=zac .add false t28 (.int .i64 1) λt42=>Kb6 (zlt t8 t10 t26 t27 t42) H
def zlu:Prop:=zA7 t8 t10 t26 t27 t28 H K Kb6
def zsv:Prop:=zac .lss false t28 t27 λt29=>zag t29 (zak 1 t26 t28 λt31=>zae false 1 t31 H λt32=>aUn .not t32 λt34=>zag t34 (zak 3 t8 t28 λt38=>zae true 3 t38 H λt39=>zau 3 [(.int .i64 0),(.int .i64 0),.snil] 1 [(0,t39)] λt40=>zav za1 3 40 t10 t40 H λt41 H=>zlu t8 t41 t26 t27 t28 H K Kb6) (zlu t8 t10 t26 t27 t28 H K Kb6)) (zaF [t10,(.bool true)] (K · H))
def zA6:Prop:=zat t1 H λt4 H=>zae true 3 t4 H λt15=>ACalls tP zjG [t0,t15,t2] H λt17 H=>zaC t17 0 λt18=>zaC t17 1 λt19=>aUn .not t19 λt21=>zag t21 (zaF [.snil,(.bool false)] (K · H)) (zaf 1 t4 λt23=>zae false 1 t23 H λt24=>ACalls tP zfx [t0,t24,t2] H λt26 H=>zah 1 t26 λt27=>zlv t18 .snil t26 t27 (.int .i64 0) H K)
def zkW:Nat→List Bool | 7=>rl false [8,1,4,1,19,3,12] | _=>[]
noncomputable def zr4:Code:=Tryz.f102.body.getD .skip
noncomputable def zKu:List ResultVar:=Tryz.f102.results.toList
def zkX:List AV:=ux 8 (t8::ux 4 (t13::ux 19 (t33::t34::t35::ux 12 [])))
def zKs:List Bool:=zkW 7
noncomputable def zKq:Code:=zar [1,1,1,1,1,0,1,0,0] zr4
def zKp:AExit→List AV→zaa→Prop:=zas tP zkW [1,1,1,1,1,0,1,0] zr4 (zaz tP zKu K)
def zkY:Prop:=ALoop tP zKq (zKp K) (zkX t8 t13 t33 t34 t35) H
def zr3:Prop:=zac .lss false t35 t34 λt36=>zag t36 (zak 1 t33 t35 λt37=>zae false 1 t37 H λt38=>zak 3 t8 t38 λt42=>zae true 3 t42 H λt43=>zau 3 [(.int .i64 0),(.int .i64 0),.snil] 1 [(0,t43)] λt44=>zav za1 3 40 t13 t44 H λt45 H=>zac .add false t35 (.int .i64 1) λt46=>Kb7 (zkX t8 t45 t33 t34 t46) H) (zaF [t13,(.bool true)] (K · H))
def zAy:Prop:=zat t1 H λt4 H=>zae true 3 t4 H λt18=>ACalls tP zh4 [t0,t18,t2] H λt20 H=>zaC t20 0 λt21=>zaC t20 1 λt22=>aUn .not t22 λt24=>zag t24 (zaF [.snil,(.bool false)] (K · H)) (zae true 3 t4 H λt27=>ACalls tP zqo [t0,t27,t2] H λt29 H=>zaC t29 0 λt30=>zaC t29 1 λt31=>zaC t29 2 λt32=>zah 1 t30 λt34=>zkY t21 .snil t30 t34 (.int .i64 0) H K)
def zl0:Nat→List Bool | 6=>rl false [11,2,15,3,16] | _=>[]
noncomputable def zs0:Code:=Tryz.f149.body.getD .skip
noncomputable def zNQ:List ResultVar:=Tryz.f149.results.toList
def zl2:List AV:=ux 11 (t11::t12::ux 15 (t28::t29::t30::ux 16 []))
def zNO:List Bool:=zl0 6
noncomputable def zNM:Code:=zar [1,1,1,0,1,0,0] zs0
def zNL:AExit→List AV→zaa→Prop:=zas tP zl0 [1,1,1,0,1,0] zs0 (zaz tP zNQ K)
def zl4:Prop:=ALoop tP zNM (zNL K) (zl2 t11 t12 t28 t29 t30) H
def zBy (t11 t12 t28 t29 t30:AV) (H:zaa) (K:Kt) (Kb6:Lt):Prop:=zac .add false t30 (.int .i64 1) λt44=>Kb6 (zl2 t11 t12 t28 t29 t44) H
def zl3:Prop:=zBy t11 t12 t28 t29 t30 H K Kb6
def zl1:Prop:=zac .lss false t30 t29 λt31=>zag t31 (zak 1 t28 t30 λt33=>zae false 1 t33 H λt34=>zag t34 (zau 1 [(.int .i64 0)] 1 [(0,t30)] λt38=>zav zcP 1 8 t12 t38 H λt39 H=>zl3 t11 t39 t28 t29 t30 H K Kb6) (zau 1 [(.int .i64 0)] 1 [(0,t30)] λt42=>zav zcP 1 8 t11 t42 H λt43 H=>zl3 t43 t12 t28 t29 t30 H K Kb6)) (zaF [t11,t12,(.bool true)] (K · H))
def zBx:Prop:=zat t1 H λt4 H=>zae true 3 t4 H λt17=>ACalls tP zh4 [t0,t17,t2] H λt19 H=>zaC t19 0 λt20=>zaC t19 1 λt21=>aUn .not t21 λt23=>zag t23 (zaF [.snil,.snil,(.bool false)] (K · H)) (zaf 1 t4 λt25=>zae false 1 t25 H λt26=>ACalls tP zgt [t0,t26,t2] H λt28 H=>zah 1 t28 λt29=>zl4 .snil .snil t28 t29 (.int .i64 0) H K)
def zlj:Nat→List Bool | 5=>rl false [0,3,4,1,8,2,25] | _=>[]
noncomputable def zsi:Code:=Tryz.f111.body.getD .skip
noncomputable def zLj:List ResultVar:=Tryz.f111.results.toList
def zlk:List AV:=t0::t1::t2::ux 4 (t7::ux 8 (t16::t17::ux 25 []))
def zLh:List Bool:=zlj 5
noncomputable def zLf:Code:=zar [1,1,1,0,1,0,0] zsi
def zLe:AExit→List AV→zaa→Prop:=zas tP zlj [1,1,1,0,1,0] zsi (zaz tP zLj K)
def zAN:Prop:=ALoop tP zLf (zLe K) (zlk t0 t1 t2 t7 t16 t17) H
def zsh:Prop:=zac .lss false t17 t16 λt18=>zag t18 (zab H (λK'=>K' t0 H) λt20=>zab H (λK'=>K' t1 H) λt21=>zab H (λK'=>K' t17 H) λt22=>zab H (λK'=>zak 3 t21 t22 (K' · H)) λt23=>zab H (λK'=>zaj true 3 t23 H (K' · H)) λt24=>zab H (λK'=>K' t2 H) λt25=>zab H (λK'=>K' t17 H) λt26=>zab H (λK'=>zak 2 t25 t26 (K' · H)) λt27=>zab H (λK'=>zaj true 2 t27 H (K' · H)) λt28=>zaA H (λH K'=>ACalls tP zhY [t20,t24,t28] H K') λt29=>zab H (λK'=>K' t29 H) λt9=>zac .lss false t9 (.int .i64 0) λt31=>zad t31 false H (λK'=>K' t7 H) λt33 H=>zad t31 false H (λK'=>K' t9 H) λt34 H=>zad t31 false H (λK'=>zac .add false t33 t34 (K' · H)) λt35 H=>zad t31 false H (λK'=>zac .gtr false t35 (.int .i64 6) (K' · H)) λt36 H=>zam t31 (.bool true) t36 λt37=>zag t37 (K (.int .i64 (-1)) H) (zac .add false t7 t9 λt40=>zac .add false t17 (.int .i64 1) λt41=>Kb5 (zlk t0 t1 t2 t40 t16 t41) H)) (K t7 H)
def zsg:Prop:=zah 1 t1 λt11=>zah 1 t2 λt13=>zac .neq false t11 t13 λt14=>zag t14 (K (.int .i64 (-1)) H) (zah 1 t1 λt16=>zAN t0 t1 t2 (.int .i64 0) t16 (.int .i64 0) H K)
variable {t0 t1 t2 t7 t8 t10 t11 t12 t13 t16 t17 t18 t19 t20 t26 t27 t28 t29 t30 t33 t34 t35} {H} {K} {Kb5 Kb6 Kb7}
theorem zLX (Inv:Nat→AV→AV→zaa→Prop) (n:Nat) (h0:HSc H→Inv n t8 t20 H)
  (ac:Rd2 (λt8=>λt20=>zlr t0 t2 t8 t18 t19 t20) (λt8=>λt20=>λH Kb5=>zst t0 t2 t8 t18 t19 t20 H K Kb5) H Inv):zA4 t0 t2 t8 t18 t19 t20 H K:=
 lp2 (M:=zlq) zLY t8 t20 (by kernel_rfl) Inv n h0 ac
theorem zLZ (h:HSc H→zss t0 t1 t2 H K):ACalls tP zjx [t0,t1,t2] H K:=
 acb zlq Tryz.func124 zsu (by kernel_rfl) (by kernel_rfl) h
theorem zL3 (Inv:Nat→AV→AV→zaa→Prop) (n:Nat) (h0:HSc H→Inv n t10 t28 H)
  (ac:Rd2 (λt10=>λt28=>zlt t8 t10 t26 t27 t28) (λt10=>λt28=>λH Kb6=>zsv t8 t10 t26 t27 t28 H K Kb6) H Inv):zlv t8 t10 t26 t27 t28 H K:=
 lp2 (M:=zls) zL4 t10 t28 (by kernel_rfl) Inv n h0 ac
theorem zL5 (h:HSc H→zA6 t0 t1 t2 H K):ACalls tP zqb [t0,t1,t2] H K:=
 acb zls Tryz.func125 zsw (by kernel_rfl) (by kernel_rfl) h
theorem zKr (Inv:Nat→AV→AV→zaa→Prop) (n:Nat) (h0:HSc H→Inv n t13 t35 H)
  (ac:Rd2 (λt13=>λt35=>zkX t8 t13 t33 t34 t35) (λt13=>λt35=>λH Kb7=>zr3 t8 t13 t33 t34 t35 H K Kb7) H Inv):zkY t8 t13 t33 t34 t35 H K:=
 lp2 (M:=zkW) zKs t13 t35 (by kernel_rfl) Inv n h0 ac
theorem zKt (h:HSc H→zAy t0 t1 t2 H K):ACalls tP zjt [t0,t1,t2] H K:=
 acb zkW Tryz.func102 zr4 (by kernel_rfl) (by kernel_rfl) h
theorem zNN (Inv:Nat→AV→AV→AV→zaa→Prop) (n:Nat) (h0:HSc H→Inv n t11 t12 t30 H)
  (ac:Rd3 (λt11=>λt12=>λt30=>zl2 t11 t12 t28 t29 t30) (λt11=>λt12=>λt30=>λH Kb6=>zl1 t11 t12 t28 t29 t30 H K Kb6) H Inv):zl4 t11 t12 t28 t29 t30 H K:=
 lp3 (M:=zl0) zNO t11 t12 t30 (by kernel_rfl) Inv n h0 ac
theorem zNP (h:HSc H→zBx t0 t1 t2 H K):ACalls tP zqo [t0,t1,t2] H K:=
 acb zl0 Tryz.func149 zs0 (by kernel_rfl) (by kernel_rfl) h
theorem zLg (Inv:Nat→AV→AV→zaa→Prop) (n:Nat) (h0:HSc H→Inv n t7 t17 H)
  (ac:Rd2 (λt7=>λt17=>zlk t0 t1 t2 t7 t16 t17) (λt7=>λt17=>λH Kb5=>zsh t0 t1 t2 t7 t16 t17 H K Kb5) H Inv):zAN t0 t1 t2 t7 t16 t17 H K:=
 lp2 (M:=zlj) zLh t7 t17 (by kernel_rfl) Inv n h0 ac
theorem zLi (h:HSc H→zsg t0 t1 t2 H K):ACalls tP zjw [t0,t1,t2] H K:=
 acb zlj Tryz.func111 zsi (by kernel_rfl) (by kernel_rfl) h
end
section
variable (t0 t1 t2 t7 t40 t41 t42:AV) (H:zaa) (K:Kt) (Kb5:Lt)
def zmU:Nat→List Bool | 5=>rl false [0,2,5,1,32,3,16] | _=>[]
noncomputable def ztR:Code:=Tryz.f196.body.getD .skip
noncomputable def zQW:List ResultVar:=Tryz.f196.results.toList
def zmV:List AV:=t0::t1::ux 5 (t7::ux 32 (t40::t41::t42::ux 16 []))
def zQU:List Bool:=zmU 5
noncomputable def zQS:Code:=zar [1,1,1,0,1,0,0] ztR
def zQR:AExit→List AV→zaa→Prop:=zas tP zmU [1,1,1,0,1,0] ztR (zaz tP zQW K)
def zmW:Prop:=ALoop tP zQS (zQR K) (zmV t0 t1 t7 t40 t41 t42) H
def ztQ:Prop:=zac .lss false t42 t41 λt43=>zag t43 (zak 3 t40 t42 λt44=>zae true 3 t44 H λt45=>zay [(.int .i64 0),(.int .i64 0),.snil] H λt9 H=>zao 3 t9 t45 H λH=>zab H (λK'=>K' t7 H) λt46=>zab H (λK'=>zaj true 3 t9 H (K' · H)) λt47=>zab H (λK'=>K' t1 H) λt48=>zab H (λK'=>K' t0 H) λt49=>zab H (λK'=>K' t1 H) λt50=>zab H (λK'=>zak 3 t49 t50 (K' · H)) λt51=>zab H (λK'=>zaf 1 t51 (K' · H)) λt52=>zab H (λK'=>zaj false 1 t52 H (K' · H)) λt53=>zaA H (λH K'=>ACalls tP zke [t47,t48,t53] H K') λt54=>zab H (λK'=>zau 1 [(.bool false)] 1 [(0,t54)] (K' · H)) λt55=>zav zgj 1 1 t46 t55 H λt56 H=>zab H (λK'=>K' t56 H) λt7=>zac .add false t42 (.int .i64 1) λt57=>Kb5 (zmV t0 t1 t7 t40 t41 t57) H) (K t7 H)
def zCL:Prop:=zac .lss false t1 (.int .i64 0) λt11=>zad t11 false H (λK'=>K' t1 H) λt13 H=>zad t11 false H (λK'=>K' t0 H) λt14 H=>zad t11 false H (λK'=>zah 1 t14 (K' · H)) λt15 H=>zad t11 false H (λK'=>zac .geq false t13 t15 (K' · H)) λt16 H=>zam t11 (.bool true) t16 λt17=>zad t17 false H (λK'=>K' t2 H) λt19 H=>zad t17 false H (λK'=>zac .lss false t19 (.int .i64 0) (K' · H)) λt20 H=>zam t17 (.bool true) t20 λt21=>zad t21 false H (λK'=>K' t2 H) λt23 H=>zad t21 false H (λK'=>K' t0 H) λt24 H=>zad t21 false H (λK'=>K' t1 H) λt25 H=>zad t21 false H (λK'=>zak 3 t24 t25 (K' · H)) λt26 H=>zad t21 false H (λK'=>zaf 2 t26 (K' · H)) λt27 H=>zad t21 false H (λK'=>zae false 1 t27 H (K' · H)) λt28 H=>zad t21 false H (λK'=>zah 1 t28 (K' · H)) λt29 H=>zad t21 false H (λK'=>zac .geq false t23 t29 (K' · H)) λt30 H=>zam t21 (.bool true) t30 λt31=>zag t31 (K .snil H) (zak 3 t0 t1 λt34=>zaf 2 t34 λt35=>zae false 1 t35 H λt36=>zak 2 t36 t2 λt38=>zaf 1 t38 λt39=>zae false 1 t39 H λt40=>zah 1 t40 λt41=>zmW t0 t1 .snil t40 t41 (.int .i64 0) H K)
variable {t0 t1 t2 t7 t40 t41 t42} {H} {K} {Kb5}
theorem zQT (Inv:Nat→AV→AV→zaa→Prop) (n:Nat) (h0:HSc H→Inv n t7 t42 H)
  (ac:Rd2 (λt7=>λt42=>zmV t0 t1 t7 t40 t41 t42) (λt7=>λt42=>λH Kb5=>ztQ t0 t1 t7 t40 t41 t42 H K Kb5) H Inv):zmW t0 t1 t7 t40 t41 t42 H K:=
 lp2 (M:=zmU) zQU t7 t42 (by kernel_rfl) Inv n h0 ac
theorem zQV (h:HSc H→zCL t0 t1 t2 H K):ACalls tP zgt [t0,t1,t2] H K:=
 acb zmU Tryz.func196 ztR (by kernel_rfl) (by kernel_rfl) h
end
end Go.Proofs.YtdmamdnkcefmmaaGreatDoor
