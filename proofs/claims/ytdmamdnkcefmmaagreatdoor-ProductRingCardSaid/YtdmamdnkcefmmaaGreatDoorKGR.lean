import Derived.Test.YtdmamdnkcefmmaaGreatDoorKGT
import Derived.Test.YtdmamdnkcefmmaaGreatDoorAbsQ1
import Derived.Test.YtdmamdnkcefmmaaGreatDoorKNum
import Derived.Test.YtdmamdnkcefmmaaGreatDoorProg
import Derived.KernelRfl
set_option linter.unusedSimpArgs false
set_option linter.unusedVariables false
set_option maxRecDepth 100000
namespace Go.Proofs.YtdmamdnkcefmmaaGreatDoor
def kwds:List (List UInt8):=[[97,114,114,97,121],[98,111,111,108],[99,97,116,99,104],[100,97,116,97],[101,108,115,101],[101,110,100],[102,97,108,115,101],[102,110],[102,117,110],[103,101,116],[105,102],[105,110],[105,110,116],[108,101,110],[108,101,116],[109,97,116,99,104],[110,101,119],[114,97,105,115,101],[114,101,97,100],[114,101,102],[115,101,116],[116,104,101,110],[116,105,99,107],[116,114,117,101],[116,114,121],[117,110,105,116],[119,105,116,104],[119,114,105,116,101]]
def kwF(ws:List (List UInt8))(s:List UInt8):Bool:=ws.any (s == ·)
theorem zcZ{H:zaa}{K:AV→zaa→Prop}{r:AV}(hsc:HSc H)(hv:r.isV=true)(hr:r.scV H.length=true)(h:K r H):Out H.length K r H:=by have:=Out.same (J:=[]) rfl hsc hv hr h;simpa using this
theorem zcA(b c:UInt8):((b.toNat:Int) == (c.toNat:Int))=(b == c):=by
 rw[cr];simp only[a6];constructor
 ·intro h;exact UInt8.toNat_inj.mp (by omega)
 ·rintro rfl;rfl
theorem zwX(b:UInt8)(H:zaa)(K:AV→zaa→Prop)(hK:K (.bool (zb3 b)) H):ACalls tP zjB [.int .u8 b.toNat] H K:=by refine ACalls.out (zPp λhs=>?_);have hO:=zcZ (K:=K) (H:=H) (r:=.bool (zb3 b)) hs rfl rfl hK;unfold zb3 at hO;cases h1:decide (97≤(b.toNat:Int)) <;> simp[zBC,h1] <;> simpa[h1]using hO
theorem zkH(b:UInt8)(H:zaa)(K:AV→zaa→Prop)(hK:K (.bool (bUp b)) H):ACalls tP zgn [.int .u8 b.toNat] H K:=by refine ACalls.out (zPs λhs=>?_);have hO:=zcZ (K:=K) (H:=H) (r:=.bool (bUp b)) hs rfl rfl hK;unfold bUp at hO;cases h1:decide (65≤(b.toNat:Int)) <;> simp[zBD,h1] <;> simpa[h1]using hO
theorem zoQ(b:UInt8)(H:zaa)(K:AV→zaa→Prop)(hK:K (.bool (za5 b)) H):ACalls tP zhK [.int .u8 b.toNat] H K:=by refine ACalls.out (zPv λhs=>?_);have hO:=zcZ (K:=K) (H:=H) (r:=.bool (za5 b)) hs rfl rfl hK;unfold za5 at hO;cases h1:decide (48≤(b.toNat:Int)) <;> simp[zBE,h1] <;> simpa[h1]using hO
theorem zpe(b:UInt8)(H:zaa)(K:AV→zaa→Prop)(hK:K (.bool (zb3 b)) H):ACalls tP zjM [.int .u8 b.toNat] H K:=by refine ACalls.out (zRI λhs=>?_);have hO:=zcZ (K:=K) (H:=H) (r:=.bool (zb3 b)) hs rfl rfl hK;unfold zb3 at hO;cases h1:decide (97≤(b.toNat:Int)) <;> simp[zCi,h1] <;> simpa[h1]using hO
theorem zkI(b:UInt8)(H:zaa)(K:AV→zaa→Prop)(hK:K (.bool (bUp b)) H):ACalls tP zhP [.int .u8 b.toNat] H K:=by refine ACalls.out (zRL λhs=>?_);have hO:=zcZ (K:=K) (H:=H) (r:=.bool (bUp b)) hs rfl rfl hK;unfold bUp at hO;cases h1:decide (65≤(b.toNat:Int)) <;> simp[zCj,h1] <;> simpa[h1]using hO
theorem zoR(b:UInt8)(H:zaa)(K:AV→zaa→Prop)(hK:K (.bool (za5 b)) H):ACalls tP zfz [.int .u8 b.toNat] H K:=by refine ACalls.out (zR0 λhs=>?_);have hO:=zcZ (K:=K) (H:=H) (r:=.bool (za5 b)) hs rfl rfl hK;unfold za5 at hO;cases h1:decide (48≤(b.toNat:Int)) <;> simp[zCo,h1] <;> simpa[h1]using hO
theorem zE1(b:UInt8)(H:zaa)(K:AV→zaa→Prop)(hK:K (.bool (zds b)) H):ACalls tP zp0 [.int .u8 b.toNat] H K:=by refine ACalls.out (zRz λhs=>?_);have hO:=zcZ (K:=K) (H:=H) (r:=.bool (zds b)) hs rfl rfl hK;unfold zds at hO;have e1:((b.toNat:Int) == 9)=(b == 9):=zcA b 9;have e2:((b.toNat:Int) == 10)=(b == 10):=zcA b 10;have e3:((b.toNat:Int) == 13)=(b == 13):=zcA b 13;have e4:((b.toNat:Int) == 32)=(b == 32):=zcA b 32;cases h1:(b == 9) <;> cases h2:(b == 10) <;> cases h3:(b == 13) <;> simp[zCf,e1,e2,e3,e4,h1,h2,h3] <;> simpa[h1,h2,h3]using hO
theorem zJD(b:UInt8)(H:zaa)(K:AV→zaa→Prop)(hK:K (.bool (bIn b)) H):ACalls tP zhQ [.int .u8 b.toNat] H K:=by
 refine ACalls.out (zRU λhs=>?_);have hO:=zcZ (K:=K) (H:=H) (r:=.bool (bIn b)) hs rfl rfl hK;unfold bIn at hO;have e1:((b.toNat:Int) == 95)=(b == 95):=zcA b 95;unfold zCm;refine zpe b _ _ ?_;cases h1:zb3 b with
 |true=>simp;simpa[h1]using hO
 |false=>
  simp;refine zkI b _ _ ?_;cases h2:bUp b with
  |true=>simp;simpa[h1,h2]using hO
  |false=>
   simp;refine zoR b _ _ ?_;cases h3:za5 b with
   |true=>simp;simpa[h1,h2,h3]using hO
   |false=>simp[e1];simpa[h1,h2,h3]using hO
theorem zGe(s:List UInt8)(H:zaa)(K:AV→zaa→Prop)(hK:K (.bool (kwF kwds s)) H):ACalls tP zp2 [.str s] H K:=by
 refine ACalls.out (zRX λhs=>?_);have hO:=zcZ (K:=K) (H:=H) (r:=.bool (kwF kwds s)) hs rfl rfl hK;have step:∀ (w:List UInt8) (ws:List (List UInt8)) (rest:Prop),(Out H.length K (.bool (kwF ws s)) H→rest)→Out H.length K (.bool (kwF (w::ws) s)) H →
   zad .eql false (.str s) (.str w) λt=>zag t (zbs t H (Out H.length K)) rest:=by
  intro w ws rest h h';simp only[kwF,List.any_cons]at h h';cases e:(s == w) with
  |true=>simpa[zbs,e]using h'
  |false=>rw[e,bt]at h';simpa[zbs,e]using h h'
 unfold zCn
 revert hO
 unfold kwds
 iterate 27 refine step _ _ _ ?_
 intro h';simp only[kwF,List.any_cons,List.any_nil,cu]at h';cases e:(s == [119,114,105,116,101]) <;> rw[e]at h' <;> simpa[zbs,e]using h'
theorem zGf(s:List UInt8)(H:zaa)(K:AV→zaa→Prop)(hK:K (.bool (kwF kwds s)) H):ACalls tP zjC [.str s] H K:=by
 refine ACalls.out (zPA λhs=>?_);have hO:=zcZ (K:=K) (H:=H) (r:=.bool (kwF kwds s)) hs rfl rfl hK;have e:zBF (.str s) H (Out H.length K)=zsY (.str s) (.sl (kwds.map λw=>[.str w]) .full) (.int .i64 0) H (Out H.length K):=rfl;rw[e];have d8:kwds.length=28:=rfl;generalize kwds=ws at *;refine zPy (Inv:=λq t4 H'=>∃i:Nat,i≤ws.length∧q=ws.length-i∧t4=.int .i64 i∧kwF (ws.drop i) s=kwF ws s∧H'=H) ws.length ?_ ?_
 ·intro _;exact⟨0,by omega,by omega,rfl,by simp,rfl⟩
 ·rintro q t8 H' ⟨i,hi,rfl,rfl,ho,rfl⟩ hsc _ eC Kb ee;by_cases d7:i<ws.length
  ·rw[ag d7]at ho;simp only[kwF,List.any_cons]at ho;cases hz:(ws[i] == s) with
   |true=>
    have lG:(s == ws[i])=true:=by rw[a6]at hz ⊢;exact hz.symm
    rw[lG,dR]at ho;simp[zmu,d7,hz];unfold kwF at hO;rw[←ho]at hO;exact hO
   |false=>
    have lG:(s == ws[i])=false:=by rw[cC]at hz ⊢;exactλh=>hz h.symm
    rw[lG,bt]at ho;simp[zmu,d7,hz];rw[zav (by omega) (by omega)];refine ee _ _ ⟨ws.length-(i+1),by omega,Back.here (aa _) hs ?_ ⟨_,rfl,i+1,by omega,rfl,by simp,ho,rfl⟩⟩;simp[zmv,AV.sc,AV.scV,AV.scA,AV.scB]
  ·simp[zmu,d7];obtain rfl:i=ws.length:=by omega
   rw[aI]at ho;rw[←ho]at hO;exact hO
theorem zvO{b:UInt8}(h:za5 b=true):48≤(b.toNat:Int)∧(b.toNat:Int)≤57:=by simpa[za5]using h
theorem zIh(s:List UInt8)(hd:∀b∈s,za5 b=true)(hl:s.length≤1000000)(H:zaa)(K:AV→zaa→Prop)(hK:K (.bool (zcc s 0)) H):ACalls tP zhR [.str s] H K:=by
 refine ACalls.out (zR5 λhs=>?_);have hO:=zcZ (K:=K) (H:=H) (r:=.bool (zcc s 0)) hs rfl rfl hK;simp[zCp];refine zR3 (Inv:=λq t3 t7 H'=>∃(i:Nat) (n:Int),i≤s.length∧q=s.length-i∧t7=.int .i64 i∧t3=.int .i64 n∧0≤n∧n≤1000000∧zcc (s.drop i) n=zcc s 0∧H'=H) s.length ?_ ?_
 ·intro _;exact⟨0,0,by omega,by omega,rfl,rfl,by omega,by omega,by simp,rfl⟩
 ·rintro q t3 t7 H' ⟨i,n,hi,rfl,rfl,rfl,jC,iK,ho,rfl⟩ hsc _ eC Kb ee;by_cases d7:i<s.length
  ·have hb:=zvO (hd s[i] (ah d7));rw[ag d7,zcc]at ho;simp[ztG,d7];rw[IntWalk.u8_in _ (by omega),zav (n:=n*10) (by omega) (by omega),zav (n:=(s[i].toNat:Int)-48) (by omega) (by omega),zav (by omega) (by omega),zav (by omega) (by omega)];by_cases hg:1000000<n*10+((s[i].toNat:Int)-48)
   ·rw[aA hg]at ho;have jz:decide (1000000<n*10+((s[i].toNat:Int)-48))=true:=by simpa using hg
    rw[←ho]at hO;rw[jz];simpa using hO
   ·rw[ap hg]at ho;have jz:decide (1000000<n*10+((s[i].toNat:Int)-48))=false:=by simpa using hg
    rw[jz];simp only[zvr,aF,aH];refine ee _ _ ⟨s.length-(i+1),by omega,Back.here (aa _) hs ?_ ⟨_,_,rfl,i+1,_,by omega,rfl,by simp,rfl,by omega,by omega,ho,rfl⟩⟩;simp[zm3,AV.sc,AV.scV,AV.scA,AV.scB]
  ·simp[ztG,d7];obtain rfl:i=s.length:=by omega
   rw[aI,zcc]at ho;rw[←ho]at hO;exact hO
theorem zxV(cl:UInt8→Bool)(f:FuncId)(fd:zd1 tP f=true)(hf:∀(b:UInt8) (H:zaa) (K:AV→zaa→Prop),K (.bool (cl b)) H→ACalls tP f [.int .u8 b.toNat] H K)(s:List UInt8)(hl:s.length≤1000000)(H:zaa)(K:AV→zaa→Prop)(hK:K (.str (s.takeWhile cl)) H):ACalls tP zjN [.str s,.fn f []] H K:=by
 refine ACalls.out (zRQ λhs=>?_);have hO:=zcZ (K:=K) (H:=H) (r:=.str (s.takeWhile cl)) hs rfl rfl hK;simp[zCk];refine zRO (Inv:=λq t5 H'=>∃i:Nat,i≤s.length∧q=s.length-i∧t5=.int .i64 i∧s.take i++(s.drop i).takeWhile cl=s.takeWhile cl∧H'=H) s.length ?_ ?_
 ·intro _;exact⟨0,by omega,by omega,rfl,by simp,rfl⟩
 ·rintro q t5 H' ⟨i,hi,rfl,rfl,ho,rfl⟩ hsc _ eC Kb ee;by_cases d7:i<s.length
  ·rw[ag d7,df]at ho;simp[ztE,d7];simp only[aCallV,fd,aK];refine hf _ _ _ ?_;cases hc:cl s[i] with
   |true=>rw[hc,aA rfl,List.append_cons,←af d7]at ho;simp;rw[zav (by omega) (by omega)];refine ee _ _ ⟨s.length-(i+1),by omega,Back.here (aa _) hs ?_ ⟨_,rfl,i+1,by omega,rfl,by simp,ho,rfl⟩⟩;simp[zm1,AV.sc,AV.scV,AV.scA,AV.scB]
   |false=>rw[hc,ap (by simp),aK]at ho;rw[←ho]at hO;simp[hi];exact hO
  ·simp[ztE,d7];obtain rfl:i=s.length:=by omega
   rw[aI,List.takeWhile_nil,aK,aq]at ho;rw[←ho]at hO;simpa using hO
theorem zJw(s:List UInt8)(hd:∀b∈s,za5 b=true)(hl:s.length≤1000000)(H:zaa)(K:AV→zaa→Prop)(hK:∀n,K (.tup [.int .i64 n,.bool (zcc s 0)]) H):ACalls tP zgo [.str s] H K:=by
 refine ACalls.out (zPG λhs=>?_);have hO:∀n,Out H.length K (.tup [.int .i64 n,.bool (zcc s 0)]) H:=λn=>Out.tup0 hs (hK n) ⟨zaY rfl rfl,zaY rfl rfl,trivial⟩;simp only[zBH];refine zPE (Inv:=λq t3 t7 H'=>∃(i:Nat) (n:Int),i≤s.length∧q=s.length-i∧t7=.int .i64 i∧t3=.int .i64 n∧0≤n∧n≤1000000∧zcc (s.drop i) n=zcc s 0∧H'=H) s.length ?_ ?_
 ·intro _;exact⟨0,0,by omega,by omega,rfl,rfl,by omega,by omega,by simp,rfl⟩
 ·rintro q t3 t7 H' ⟨i,n,hi,rfl,rfl,rfl,jC,iK,ho,rfl⟩ hsc _ eC Kb ee;by_cases d7:i<s.length
  ·have hb:=zvO (hd s[i] (ah d7));rw[ag d7,zcc]at ho;simp[zsZ,d7];rw[IntWalk.u8_in _ (by omega),zav (n:=n*10) (by omega) (by omega),zav (n:=(s[i].toNat:Int)-48) (by omega) (by omega),zav (by omega) (by omega),zav (by omega) (by omega)];by_cases hg:1000000<n*10+((s[i].toNat:Int)-48)
   ·rw[aA hg]at ho;have jz:decide (1000000<n*10+((s[i].toNat:Int)-48))=true:=by simpa using hg
    rw[←ho]at hO;rw[jz];simpa[AV.isV]using hO 0
   ·rw[ap hg]at ho;have jz:decide (1000000<n*10+((s[i].toNat:Int)-48))=false:=by simpa using hg
    rw[jz];simp only[zvr,aF,aH];refine ee _ _ ⟨s.length-(i+1),by omega,Back.here (aa _) hs ?_ ⟨_,_,rfl,i+1,_,by omega,rfl,by simp,rfl,by omega,by omega,ho,rfl⟩⟩;simp[zmx,AV.sc,AV.scV,AV.scA,AV.scB]
  ·simp[zsZ,d7,AV.isV];obtain rfl:i=s.length:=by omega
   rw[aI,zcc]at ho;rw[←ho]at hO;exact hO n
theorem zJe(b:UInt8)(r:List UInt8):(b::r).take 1=[b]:=by simp
theorem zqN{s:List UInt8}(h:¬ 2≤s.length):zdC s=false:=by
 match s,h with
 |[],_=>rfl
 |[b],_=>simp[zdC]
 |_::_::_,h=>simp at h
theorem zyv(b:UInt8)(r:List UInt8)(h:zdC (b::r)=false):sgn (b::r)=if sgns.contains b=true then 1 else 0:=by simp[sgn,h]
theorem zH6(b:UInt8)(r:List UInt8)(H:zaa)(K:AV→zaa→Prop)(hK:K (.str ((b::r).take (sgn (b::r)))) H):ACalls tP zp3 [.str (b::r)] H K:=by
 refine ACalls.out (zR9 λhs=>?_);have hO:=zcZ (K:=K) (H:=H) (r:=.str ((b::r).take (sgn (b::r)))) hs rfl rfl hK;have one:zdC (b::r)=false→zm4 (.str (b::r)) H (Out H.length K):=by
  intro h2;rw[zyv b r h2]at hO;have hO:Out H.length K (.str (if sgns.contains b=true then [b] else [])) H:=by cases hc:sgns.contains b <;> rw[hc]at hO <;> simpa using hO
  have step:∀ (c:UInt8) (cs:List UInt8) (rest:Prop),(Out H.length K (.str (if cs.contains b=true then [b] else [])) H→rest)→Out H.length K (.str (if (c::cs).contains b=true then [b] else [])) H →
    zad .eql false (.str [b]) (.str [c]) λt=>zag t (zcB (.str (b::r)) t H (Out H.length K)) rest:=by
   intro c cs rest h h';rw[dp]at h';cases e:(b == c) with
   |true=>rw[e]at h';simpa[zcB,e]using h'
   |false=>rw[e,bt]at h';simpa[zcB,e]using h h'
  unfold zm4;simp only[zEu,zEm,zEl,Int.toNat_one,zJe,br];refine⟨by decide,⟨by omega,by simp⟩,?_⟩
  revert hO
  unfold sgns
  iterate 12 refine step _ _ _ ?_
  intro h';rw[dp]at h';cases e:(b == 95) <;> rw[e]at h' <;> simpa[zcB,e]using h'
 by_cases hl:2≤(b::r).length
 ·have gf:(2:Int)≤r.length+1:=by simp only[List.length_cons]at hl;omega
  have jq:1≤r.length:=by simp only[List.length_cons]at hl;omega
  cases h2:zdC (b::r) with
  |true=>
   have h3:sgn (b::r)=2:=by simp[sgn,h2]
   rw[h3]at hO;unfold zdC at h2;simp only[List.take_succ_cons]at h2 hO;cases e1:(b::List.take 1 r == [45,62]) with
   |true=>simpa[zgT,gf,jq,zfV,e1]using hO
   |false=>
    cases e2:(b::List.take 1 r == [60,61]) with
    |true=>simpa[zgT,gf,jq,zfV,e1,e2]using hO
    |false=>rw[e1,e2]at h2;simp only[bt]at h2;simpa[zgT,gf,jq,zfV,e1,e2,h2]using hO
  |false=>have ho:=one h2;unfold zdC at h2;simp only[List.take_succ_cons]at h2;rw[bF,bF]at h2;simpa[zgT,gf,jq,zfV,h2.1.1,h2.1.2,h2.2]using ho
 ·have ho:=one (zqN hl);have:¬ ((2:Int)≤r.length+1):=by simp only[List.length_cons]at hl;omega
  simpa[zgT,this]using ho
theorem zH5(b:UInt8)(r:List UInt8)(H:zaa)(K:AV→zaa→Prop)(hK:K (.int .i64 (sgn (b::r))) H):ACalls tP zpR [.str (b::r)] H K:=by
 refine ACalls.out (zPM λhs=>?_);have hO:=zcZ (K:=K) (H:=H) (r:=.int .i64 (sgn (b::r))) hs rfl rfl hK;have one:zdC (b::r)=false→zs2 (.str (b::r)) (.str sgns) (.int .i64 0) H (Out H.length K):=by
  intro h2;rw[zyv b r h2]at hO;have d8:sgns.length=13:=rfl;generalize sgns=ws at *;refine zPK (Inv:=λq t4 H'=>∃i:Nat,i≤ws.length∧q=ws.length-i∧t4=.int .i64 i∧(ws.drop i).contains b=ws.contains b∧H'=H) ws.length ?_ ?_
  ·intro _;exact⟨0,by omega,by omega,rfl,by simp,rfl⟩
  ·rintro q t8 H' ⟨i,hi,rfl,rfl,ho,rfl⟩ hsc _ eC Kb ee;by_cases d7:i<ws.length
   ·rw[ag d7,dp]at ho;have e1:=zcA b ws[i];cases hz:(b == ws[i]) with
    |true=>rw[hz,dR]at ho;rw[←ho]at hO;simpa[zmz,d7,e1,hz]using hO
    |false=>rw[hz,bt]at ho;simp[zmz,d7,e1,hz];rw[zav (by omega) (by omega)];refine ee _ _ ⟨ws.length-(i+1),by omega,Back.here (aa _) hs ?_ ⟨_,rfl,i+1,by omega,rfl,by simp,ho,rfl⟩⟩;simp[zmA,AV.sc,AV.scV,AV.scA,AV.scB]
   ·obtain rfl:i=ws.length:=by omega
    rw[aI]at ho;rw[←ho]at hO;simpa[zmz,d7]using hO
 by_cases hl:2≤(b::r).length
 ·have gf:(2:Int)≤r.length+1:=by simp only[List.length_cons]at hl;omega
  have jq:1≤r.length:=by simp only[List.length_cons]at hl;omega
  cases h2:zdC (b::r) with
  |true=>
   have h3:sgn (b::r)=2:=by simp[sgn,h2]
   rw[h3]at hO;unfold zdC at h2;simp only[List.take_succ_cons]at h2 hO;cases e1:(b::List.take 1 r == [45,62]) with
   |true=>simpa[zgO,gf,jq,e1]using hO
   |false=>
    cases e2:(b::List.take 1 r == [60,61]) with
    |true=>simpa[zgO,gf,jq,e1,e2]using hO
    |false=>rw[e1,e2]at h2;simp only[bt]at h2;simpa[zgO,gf,jq,e1,e2,h2]using hO
  |false=>have ho:=one h2;unfold sgns at ho;unfold zdC at h2;simp only[List.take_succ_cons]at h2;rw[bF,bF]at h2;simpa[zgO,gf,jq,h2.1.1,h2.1.2,h2.2]using ho
 ·have ho:=one (zqN hl);unfold sgns at ho;have:¬ ((2:Int)≤r.length+1):=by simp only[List.length_cons]at hl;omega
  simpa[zgO,this]using ho

def Tk.cs(t:Tk):List AV:=[.int .i64 t.kind,.str t.text,.int .i64 t.pos]
def zkp(kw:List UInt8→Bool)(b:UInt8)(r:List UInt8)(i:Nat):AV:=
 match tok kw b r with
 |.error e=>.tup [.agg [.int .i64 0,.str [],.int .i64 0],.int .i64 e]
 |.ok (k,n)=>.tup [.agg (Tk.cs ⟨k,(b::r).take n,i⟩),.int .i64 0]
theorem zkB{p:UInt8→Bool}(b:UInt8)(r:List UInt8):(b::r).take ((r.takeWhile p).length+1)=b::r.takeWhile p:=by
 rw[List.take_succ_cons];congr 1;induction r with
 |nil=>simp
 |cons c r ih=>by_cases h:p c=true <;> simp[h,ih]
theorem zGg:zd1 tP zhQ=true:=by kernel_rfl
theorem zGh:zd1 tP zfz=true:=by kernel_rfl
theorem zxF{H J:zaa}{K:AV→zaa→Prop}{k p e:Int}{t:List UInt8}(hs:HSc H)(h:K (.tup [.agg [.int .i64 k,.str t,.int .i64 p],.int .i64 e]) H):
  Out H.length K (.tup [.agg [.int .i64 k,.str t,.int .i64 p],.int .i64 e]) (H++J):=Out.tup hs h ⟨zaY rfl rfl,zaY rfl rfl,trivial⟩
def zmZ(t4 t6:AV)(H:zaa)(K:AV→zaa→Prop):Prop:=
 zaf 1 t6 λt69=>
 zae false 1 t69 H λt70=>
 ACalls tP zhR [t70] H λt71 H=>
 aUn .not t71 λt72=>
 zag t72
 (zar [(.int .i64 0),(.str []),(.int .i64 0)] [(0,1),(1,1),(2,1)] [] λt73=>
 zao 3 t4 t73 H λH=>
 zae true 3 t4 H λr0=>
 zaG [r0,(.int .i64 9)] (K · H))
 (zgS t4 t6 H K)
theorem zHU(s:List UInt8)(hl:s.length≤1000000)(i:Nat)(hi:i<s.length)(H:zaa)(K:AV→zaa→Prop)(hK:K (zkp (kwF kwds) s[i] (s.drop (i+1)) i) H):ACalls tP zp1 [.str s,.int .i64 i] H K:=by
 refine ACalls.out (zRC λhs=>?_);have fu:=ag hi;have jB:(s.drop i).length≤1000000:=by simp;omega
 generalize hb:s[i]=b at *;generalize hr:s.drop (i+1)=r at *;have kY:s[i]?.getD 0=b:=by simp[hi,hb]
 have post:∀(k:Int) (n:Nat),tok (kwF kwds) b r=.ok (k,n)→∀t,(b::r).take n=t→zgS (.ptr H.length 0) (.ptr (H.length+1) 0) (H++[.cells [.int .i64 0,.str [],.int .i64 0],.cells [.int .i64 k,.str t,.int .i64 i]]) (Out H.length K):=by intro k n ht t pl;subst pl;simp[zkp,ht,Tk.cs]at hK;simp[zgS,zCg,AV.known,AV.isV];exact zxF hs hK
 have bad:∀e:Int,tok (kwF kwds) b r=.error e→∀J,Out H.length K (.tup [.agg [.int .i64 0,.str [],.int .i64 0],.int .i64 e]) (H++J):=by intro e ht J;simp[zkp,ht]at hK;exact zxF hs hK
 have gG:=bN hi;by_cases gc:(zb3 b || bUp b)=true
 ·have mw:bIn b=true:=by simp[bIn,gc]
  simp[ztD,hi,hb,gG,zar,zaL,AV.known];refine zpe b _ _ ?_;have hc:zb3 b=true∨(zb3 b=false∧bUp b=true):=by cases hL:zb3 b <;> simp[hL]at gc ⊢;exact gc
  have fy:=λk=>post k ((r.takeWhile bIn).length+1);simp only[tok,gc,aV,zkB]at fy;rcases hc with hL|⟨hL,hU⟩
  case' inl=>simp[hL]
  case' inr=>simp[hL];refine zkI b _ _ ?_;simp[hU]
  all_goals
   rw[fu];refine zxV bIn zhQ zGg zJD (b::r) (by rw[←fu];exact jB) _ _ ?_;simp[mw,AV.known];by_cases hn:(r.takeWhile bIn).length+1>24
   ·have ff:(24:Int)<(r.takeWhile bIn).length+1:=by omega
    have:=bad 9 (by simp only[tok,gc,aV];rw[aA hn]);simp[ff,AV.known,AV.isV];exact this _
   ·have ff:¬ (24:Int)<(r.takeWhile bIn).length+1:=by omega
    simp[ff];refine zkI b _ _ ?_;rw[ap hn]at fy;cases hU:bUp b with
    |true=>simp[AV.known,zgR];exact fy 2 (by simp[hU]) _ rfl
    |false=>
     simp[AV.known];refine zGe _ _ _ ?_;cases nP:kwF kwds (b::r.takeWhile bIn) with
     |true=>simp[AV.known,zgR];exact fy 4 (by simp[hU,nP]) _ rfl
     |false=>simp[AV.known,zgR];exact fy 1 (by simp[hU,nP]) _ rfl
 ·have hL:zb3 b=false:=by simp at gc;exact gc.1
  have hU:bUp b=false:=by simp at gc;exact gc.2
  simp[ztD,hi,hb,zar,zaL,AV.known];refine zpe b _ _ ?_;simp[hL];refine zkI b _ _ ?_;simp[hU];refine zoR b _ _ ?_;cases hD:za5 b with
  |true=>
   simp[gG,AV.known];rw[fu];refine zxV za5 zfz zGh zoR (b::r) (by rw[←fu];exact jB) _ _ ?_;have e1:((b.toNat:Int) == 48)=(b == 48):=zcA b 48;have eX:tok (kwF kwds) b r=if (b == 48 && decide ((r.takeWhile za5).length+1>1))=true then .error 2 else if zcc (b::r.takeWhile za5) 0=true then .ok (3,(r.takeWhile za5).length+1) else .error 9:=by simp only[tok,gc,hD,aV,zkB];rfl
   have kE:∀J,ACalls tP zhR [.str (b::r.takeWhile za5)] (H++J) λt H'=>t=.bool (zcc (b::r.takeWhile za5) 0)∧H'=H++J:=by
    intro J;refine zIh _ ?_ ?_ _ _ ⟨rfl,rfl⟩
    ·intro c hc;rcases aS.1 hc with rfl | hc
     ·exact hD
     ·exact ak.1 (List.all_takeWhile) c hc
    ·have h1:(r.takeWhile za5).length≤r.length:=(dL _).length_le;rw[fu]at jB;simp at jB ⊢;omega
   simp[hD,AV.known,e1];have fy:=post 3 ((r.takeWhile za5).length+1);rw[zkB]at fy;rw[eX]at fy bad;have last:∀J,(¬(b == 48 && decide ((r.takeWhile za5).length+1>1))=true)→J=[.cells [.int .i64 0,.str [],.int .i64 0],.cells [.int .i64 3,.str (b::r.takeWhile za5),.int .i64 i]]→zmZ (.ptr H.length 0) (.ptr (H.length+1) 0) (H++J) (Out H.length K):=by
    rintro J en rfl;rw[ap en]at fy bad;simp[zmZ];refine(kE _).mono ?_;rintro _ _ ⟨rfl,rfl⟩;cases hv:zcc (b::r.takeWhile za5) 0 with
    |true=>simp;exact fy (by simp[hv]) _ rfl
    |false=>simp[AV.known,zar,zaL,AV.isV];exact bad 9 (by simp[hv]) _
   cases hz:(b == 48) with
   |true=>
    simp[hz];by_cases hn:1<(r.takeWhile za5).length+1
    ·have ff:(1:Int)<(r.takeWhile za5).length+1:=by omega
     have hd:decide ((r.takeWhile za5).length+1>1)=true:=bq hn;have:=bad 2 (by rw[hz,hd];rfl);simp[ff,AV.known,AV.isV];exact this _
    ·have ff:¬ (1:Int)<(r.takeWhile za5).length+1:=by omega
     have hd:decide ((r.takeWhile za5).length+1>1)=false:=bk hn;have:=last _ (by rw[hz,hd];decide) rfl;simp[zmZ,zar,zaL]at this;simp[ff];exact this
   |false=>have:=last _ (by simp[hz]) rfl;simp[zmZ,zar,zaL]at this;simp[hz];exact this
  |false=>
   simp[gG,AV.known];rw[fu];refine zH6 b r _ _ ?_;simp[AV.known];have eX:tok (kwF kwds) b r=if sgn (b::r)=0 then .error 2 else .ok (5,sgn (b::r)):=by simp only[tok,gc,hD];rfl
   by_cases hz:sgn (b::r)=0
   ·have:=bad 2 (by rw[eX,aA hz]);simp[hz,AV.isV];exact this _
   ·have:=post 5 (sgn (b::r)) (by rw[eX,ap hz]) _ rfl;have he:(List.take (sgn (b::r)) (b::r)).isEmpty=false:=by
     cases h:sgn (b::r) with
     |zero=>exact absurd h hz
     |succ n=>simp
    simp[he];exact this
def cat(l:List Tk):Except (Nat × Int) (List Tk)→Except (Nat × Int) (List Tk)
 |.error e=>.error e
 |.ok m=>.ok (l++m)
theorem zv0(l m:List Tk)(r:Except (Nat×Int) (List Tk)):cat l (cat m r)=cat (l++m) r:=by cases r <;> simp[cat]
@[simp] theorem zZr(r:Except (Nat×Int) (List Tk)):cat [] r=r:=by cases r <;> rfl
def zeA(r:List UInt8):List UInt8:=r.dropWhile (· != 10)
def zeB(r:List UInt8):Nat:=(r.takeWhile (· != 10)).length
section
variable (kw:List UInt8→Bool)
theorem zrc(p:Nat):zbG kw [] p=.ok [⟨6,[],p⟩]:=by unfold zbG;rfl
theorem zy0{b:UInt8}(h:zds b=true)(r:List UInt8)(p:Nat):zbG kw (b::r) p=zbG kw r (p+1):=by
 conv=>lhs;unfold zbG
 simp[h]
theorem zy2{b:UInt8}(h0:zds b=false)(h:(b == 35)=true)(r:List UInt8)(p:Nat):zbG kw (b::r) p=zbG kw (zeA r) (p+1+zeB r):=by
 conv=>lhs;unfold zbG
 simp only[h0,h,aF,aH,aV];rfl
theorem zy1{b:UInt8}(h0:zds b=false)(h:(b == 35)=false){r:List UInt8}{p:Nat}{e:Int}(ht:tok kw b r=.error e):zbG kw (b::r) p=.error (p,e):=by
 conv=>lhs;unfold zbG
 simp only[h0,h,aF,aH,ht]
theorem zy3{b:UInt8}(h0:zds b=false)(h:(b == 35)=false){r:List UInt8}{p:Nat}{k:Int}{n:Nat}(ht:tok kw b r=.ok (k,n)):
  zbG kw (b::r) p=cat [⟨k,(b::r).take n,p⟩] (zbG kw ((b::r).drop n) (p+n)):=by
 conv=>lhs;unfold zbG
 have hn:=zrb ht;obtain⟨m,rfl⟩:∃m,n=m+1:=⟨n-1,by omega⟩;simp only[h0,h,aF,aH,ht,cK,List.drop_succ_cons];cases zbG kw (r.drop m) (p+(m+1)) <;> rfl
end
theorem zkr{b:UInt8}(h:(b == 10)=false)(r:List UInt8):zeA (b::r)=zeA r∧zeB (b::r)=1+zeB r:=by
 have hb:b≠10:=by simpa using h
 constructor
 ·simp[zeA,hb]
 ·simp[zeB,hb];omega
theorem zyw{b:UInt8}(h:(b == 10)=true)(r:List UInt8):zeA (b::r)=b::r∧zeB (b::r)=0:=by
 have hb:b=10:=by simpa using h
 constructor
 ·simp[zeA,hb]
 ·simp[zeB,hb]
theorem skipC_nil:zeA []=[]∧zeB []=0:=⟨rfl,rfl⟩
theorem zra{kw:List UInt8→Bool}{b:UInt8}{r:List UInt8}{k:Int}{n:Nat}(h:tok kw b r=.ok (k,n)):n≤(b::r).length:=by
 have tw:∀p:UInt8→Bool,(r.takeWhile p).length≤r.length:=λp=>(dL _).length_le;unfold tok at h;split at h
 ·simp only at h;split at h <;> simp at h;have:=tw bIn;simp;omega
 ·split at h
  ·simp only at h;split at h
   ·simp at h
   ·split at h <;> simp at h;have:=tw za5;simp;omega
  ·simp only at h;split at h <;> simp at h
   obtain⟨_,rfl⟩:=h;unfold sgn;split
   ·rename_i h2;by_cases hl:2≤(b::r).length
    ·exact hl
    ·rw[zqN hl]at h2;cases h2
   ·split
    ·simp
    ·split <;> simp
theorem zJm{kw:List UInt8→Bool}{b:UInt8}{r:List UInt8}{e:Int}(h:tok kw b r=.error e):e=2∨e=9:=by
 unfold tok at h;split at h
 ·simp only at h;split at h <;> simp at h;omega
 ·split at h
  ·simp only at h;split at h
   ·simp at h;omega
   ·split at h <;> simp at h;omega
  ·simp only at h;split at h <;> simp at h;omega
def ze6(s:List UInt8):AV:=
 if s.length>16384 then .tup [.sl [] .none,.int .i64 0,.int .i64 9] else
 match zbG (kwF kwds) s 0 with
 |.error (p,e)=>.tup [.sl [] .none,.int .i64 p,.int .i64 e]
 |.ok l=>.tup [.sl (l.map Tk.cs) .none,.int .i64 0,.int .i64 0]
theorem two{H:zaa}{x y:AB}:H++[x,y]=(H++[x])++[y]:=by simp
theorem zxE{H J:zaa}{K:AV→zaa→Prop}{p e:Int}(hs:HSc H)(hK:K (.tup [.sl [] .none,.int .i64 p,.int .i64 e]) H):Out H.length K (.tup [.snil,.int .i64 p,.int .i64 e]) (H++J):=
 Out.tup hs hK ⟨zdS,zaY rfl rfl,zaY rfl rfl,trivial⟩
theorem zIT(s:List UInt8)(H:zaa)(K:AV→zaa→Prop)(hK:K (ze6 s) H):ACalls tP zpX [.str s] H K:=by
 refine ACalls.out (zRi λhs=>?_);by_cases hl:s.length>16384
 ·have gf:(16384:Int)<s.length:=by omega
  simp[ztv,gf,AV.isV];unfold ze6 at hK;rw[aA hl]at hK;exact Out.tup0 hs hK ⟨zdS,zaY rfl rfl,zaY rfl rfl,trivial⟩
 have gf:¬(16384:Int)<s.length:=by omega
 unfold ze6 at hK;rw[ap hl]at hK;simp[ztv,gf];have et:∀n,HSc (H++[.perm zeU 3 n]):=λn=>hs.append rfl;unfold zmW;refine ALoop.own 5 zeU 3 rfl ?_;show zmW (.str s) (.sl [] (.own H.length)) (.int .i64 0) (H++[.perm zeU 3 0]) (Out H.length K);refine zRf (Inv:=λq t5 t6 H'=>∃(i:Nat) (l:List Tk),i≤s.length∧l.length≤i∧q=s.length-i∧t6=.int .i64 i∧t5=.sl (l.map Tk.cs) (.own H.length)∧H'=H++[.perm zeU 3 l.length]∧cat l (zbG (kwF kwds) (s.drop i) i)=zbG (kwF kwds) s 0) s.length ?_ ?_
 ·intro _;exact⟨0,[],by omega,by simp,by omega,rfl,rfl,rfl,by simp⟩
 ·rintro q t5 t6 H' ⟨i,l,hi,fc,rfl,rfl,rfl,rfl,ho⟩ hsc d8 eC Kb ee;have done:cat l (.ok [⟨6,[],s.length⟩])=zbG (kwF kwds) s 0→zmV (.str s) (.sl (l.map Tk.cs) (.own H.length)) (H++[.perm zeU 3 l.length]) (Out H.length K):=by intro ho;rw[←ho]at hK;simp[zmV,zB9,zar,zaL,zau,zaU,plain,AV.pd,zax,zaO,zaK,AV.isV];refine⟨by omega,?_⟩;simp[cat,Tk.cs]at hK;exact Out.tup hs hK ⟨slV,zaY rfl rfl,zaY rfl rfl,trivial⟩
  by_cases d7:i<s.length
  ·have fu:=ag d7;simp[ztw,d7];refine zE1 _ _ _ ?_;have e35:((s[i].toNat:Int) == 35)=(s[i] == 35):=zcA s[i] 35;cases gv:zds s[i] with
   |true=>rw[fu,zy0 _ gv]at ho;simp[zgQ];rw[zav (by omega) (by omega)];refine ee _ _ ⟨s.length-(i+1),by omega,Back.here (by simp) (et _) ?_ ⟨_,_,rfl,i+1,l,by omega,by omega,rfl,by simp,rfl,rfl,ho⟩⟩;simp[zgP,AV.sc,AV.scV,AV.scA,AV.scB]
   |false=>
    simp[e35];cases eG:(s[i] == 35) with
    |true=>
     simp;rw[fu,zy2 _ gv eG]at ho;have jr:(s[i] == 10)=false:=by rw[a6]at eG;rw[eG];rfl
     obtain⟨c1,c2⟩:=zkr jr (s.drop (i+1));rw[ae,←c1,←c2,←fu]at ho;refine zRg (Inv:=λq t6 H'=>∃(j:Nat),i≤j∧j≤s.length∧q=s.length-j∧t6=.int .i64 j∧H'=H++[.perm zeU 3 l.length]∧cat l (zbG (kwF kwds) (zeA (s.drop j)) (j+zeB (s.drop j)))=zbG (kwF kwds) s 0) (s.length-i) ?_ ?_
     ·intro _;exact⟨i,by omega,by omega,by omega,rfl,rfl,ho⟩
     ·rintro q t6 H' ⟨j,ow,hj,rfl,rfl,rfl,ho⟩ hsc d8 eC Kb9 kF;by_cases gw:j<s.length
      ·have ja:=ag gw;have e10:((s[j].toNat:Int) == 10)=(s[j] == 10):=zcA s[j] 10;simp[ztx,gw,e10];cases hz:(s[j] == 10) with
       |true=>
        obtain⟨d1,d2⟩:=zyw hz (s.drop (j+1));rw[ja,d1,d2,←ja,Nat.add_zero]at ho;have hij':i≠j:=by rintro rfl;rw[jr]at hz;cases hz
        simp[zgQ];refine ee _ _ ⟨s.length-j,by omega,Back.here (by simp) (et _) ?_ ⟨_,_,rfl,j,l,by omega,by omega,rfl,by simp,rfl,rfl,ho⟩⟩;simp[zgP,AV.sc,AV.scV,AV.scA,AV.scB]
       |false=>obtain⟨d1,d2⟩:=zkr hz (s.drop (j+1));rw[ja,d1,d2,←ae]at ho;simp;rw[zav (by omega) (by omega)];refine kF _ _ ⟨s.length-(j+1),by omega,Back.here (by simp) (et _) ?_ ⟨_,rfl,j+1,by omega,by omega,rfl,by simp,rfl,ho⟩⟩;simp[zmU,AV.sc,AV.scV,AV.scA,AV.scB]
      ·obtain rfl:j=s.length:=by omega
       simp[ztx];rw[aI,skipC_nil.1,skipC_nil.2,Nat.add_zero,zrc]at ho;exact done ho
    |false=>
     simp;refine zHU s (by omega) i d7 _ _ ?_;unfold zkp;cases ht:tok (kwF kwds) s[i] (s.drop (i+1)) with
     |error e=>
      rw[fu,zy1 _ gv eG ht]at ho;have he:(e != 0)=true:=by rcases zJm ht with rfl|rfl <;> rfl
      rw[←ho]at hK;simp[AV.known,AV.isV,he];exact zxE hs hK
     |ok kn=>
      obtain⟨k,n⟩:=kn;rw[fu,zy3 _ gv eG ht,zv0,←fu]at ho;have hn:=zra ht;rw[←fu]at hn;simp at hn;have jC:=zrb ht;simp[Tk.cs,AV.known,zau,zaU,plain,AV.pd,zax,zaO,zaK,zgQ];refine⟨by omega,?_⟩;rw[show min n (s.length-i)=n by omega,zav (by omega) (by omega),two];refine ee _ _ ⟨s.length-(i+n),by omega,Back.same (by simp) (et _) ?_ ⟨_,_,rfl,i+n,l++[⟨k,(s.drop i).take n,i⟩],by omega,by simp;omega,rfl,by simp,by simp[Tk.cs],by simp,?_⟩⟩
      ·simp[zgP,AV.sc,AV.scV,AV.scA,AV.scB]
      ·rw[cS]at ho;exact ho
  ·obtain rfl:i=s.length:=by omega
   rw[aI,zrc]at ho;simpa[ztw]using done ho
theorem zkC(s:List UInt8)(i n:Nat):List.drop i (List.take (i+n) s)=List.take n (List.drop i s):=by rw[du];congr 1;omega
def zgJ(t0 t5 t6 t7 t8:AV)(H:zaa)(K:AV→zaa→Prop)(Kb5:List AV→zaa→Prop):Prop:=
 zad .gtr false t8 (.int .i64 24) λt118=>
 zag t118
 (zaG [.snil,t6,(.int .i64 9)] (K · H))
 (ACalls tP zgn [t7] H λt121 H=>
 zag t121
 (zfa t0 t5 t6 t8 (.int .i64 2) H K Kb5)
 (zad .add false t6 t8 λt126=>
 zaS 0 0 t0 (some t6) (some t126) λt127=>
 ACalls tP zjC [t127] H λt128 H=>
 zag t128
 (zfa t0 t5 t6 t8 (.int .i64 4) H K Kb5)
 (zfa t0 t5 t6 t8 (.int .i64 1) H K Kb5)))
section
variable (s:List UInt8) (hl:¬s.length>16384) (i:Nat) (d7:i<s.length) (H:zaa) (l:List Tk) (fc:l.length≤i) (et:∀n,HSc (H++[.perm zby 3 n])) (K:AV→zaa→Prop) (Kb:List AV→zaa→Prop)
include hl d7 fc et
theorem zJE(gc:(zb3 s[i] || bUp s[i])=true)(app:∀ (k:Int) (n:Nat),tok (kwF kwds) s[i] (s.drop (i+1))=.ok (k,n)→∀ t,(s.drop i).take n=t→ziw (.str s) (.sl (l.map Tk.cs++[[.int .i64 k,.str t,.int .i64 i]]) (.own H.length)) (.int .i64 i) (.int .i64 n) (H++[.perm zby 3 (l.length+1)]) (Out H.length K) Kb)(bad:∀ e:Int,tok (kwF kwds) s[i] (s.drop (i+1))=.error e→Out H.length K (.tup [.snil,.int .i64 i,.int .i64 e]) (H++[.perm zby 3 l.length])):
  zr9 (.str s) (.sl (l.map Tk.cs) (.own H.length)) (.int .i64 i) (.int .u8 s[i].toNat) (.int .i64 1) (H++[.perm zby 3 l.length]) (Out H.length K) Kb:=by
 refine zMC (Inv:=λq t8 H'=>∃(j:Nat),i+j≤s.length∧0<j∧q=s.length-j∧t8=.int .i64 j∧H'=H++[.perm zby 3 l.length]∧j+((s.drop (i+j)).takeWhile bIn).length=((s.drop (i+1)).takeWhile bIn).length+1) (s.length-1) ?_ ?_
 ·intro _;exact⟨1,by omega,by omega,by omega,rfl,rfl,by omega⟩
 ·rintro q t8 H' ⟨j,ow,jK,rfl,rfl,rfl,hn⟩ hsc d8 eC Kb18 kG;have w1:IntKind.i64.wrap ((i:Int)+j)=i+j:=zav (by omega) (by omega);have w2:IntKind.i64.wrap ((j:Int)+1)=j+1:=zav (by omega) (by omega);have fin:((s.drop (i+j)).takeWhile bIn).length=0→zgJ (.str s) (.sl (l.map Tk.cs) (.own H.length)) (.int .i64 i) (.int .u8 s[i].toNat) (.int .i64 j) (H++[.perm zby 3 l.length]) (Out H.length K) Kb:=by
   intro h0;rw[h0]at hn;have eX:tok (kwF kwds) s[i] (s.drop (i+1))=if j>24 then .error 9 else .ok (if bUp s[i]=true then 2 else if kwF kwds ((s.drop i).take j)=true then 4 else 1,j):=by rw[ag d7];simp only[tok,gc,aV,←hn,Nat.add_zero]
   by_cases h24:j>24
   ·have mJ:(24:Int)<j:=by omega
    rw[aA h24]at eX;simp[zgJ,mJ,AV.isV];exact bad 9 eX
   ·have mJ:¬ (24:Int)<j:=by omega
    rw[ap h24]at eX;simp[zgJ,mJ];refine zkH _ _ _ ?_;have fin2:∀k,k=(if bUp s[i]=true then 2 else if kwF kwds ((s.drop i).take j)=true then 4 else 1:Int)→zfa (.str s) (.sl (l.map Tk.cs) (.own H.length)) (.int .i64 i) (.int .i64 j) (.int .i64 k) (H++[.perm zby 3 l.length]) (Out H.length K) Kb:=by intro k hk;rw[←hk]at eX;have:=app k j eX _ rfl;simp[zfa,w1,w2,zar,zaL,zau,zaU,plain,AV.pd,zax,zaO,zaK,zfb];refine⟨by omega,by omega,by omega,?_⟩;rw[show ((i:Int)+j).toNat=i+j by omega,zkC];exact this
    cases hU:bUp s[i] with
    |true=>simp;exact fin2 2 (by simp[hU])
    |false=>
     simp[w1,w2];refine⟨by omega,by omega,?_⟩;rw[show ((i:Int)+j).toNat=i+j by omega,zkC];refine zGf _ _ _ ?_;cases nP:kwF kwds ((s.drop i).take j) with
     |true=>simp;exact fin2 4 (by simp[hU,nP])
     |false=>simp;exact fin2 1 (by simp[hU,nP])
  by_cases gw:i+j<s.length
  ·have e95:((s[i+j].toNat:Int) == 95)=(s[i+j] == 95):=zcA s[i+j] 95;have fz:(i+j:Int)<s.length:=by omega
   rw[ag gw,df]at hn fin;have key:bIn s[i+j]=true→Kb18 (ziv (.str s) (.sl (l.map Tk.cs) (.own H.length)) (.int .i64 i) (.int .u8 s[i].toNat) (.int .i64 (j+1))) (H++[.perm zby 3 l.length]):=by intro mK;rw[mK]at hn;simp at hn;refine kG _ _ ⟨s.length-(j+1),by omega,Back.here (by simp) (et _) ?_ ⟨_,rfl,j+1,by omega,by omega,rfl,by simp,rfl,by rw[←ae];omega⟩⟩;simp[ziv,AV.sc,AV.scV,AV.scA,AV.scB]
   have no:bIn s[i+j]=false→zgJ (.str s) (.sl (l.map Tk.cs) (.own H.length)) (.int .i64 i) (.int .u8 s[i].toNat) (.int .i64 j) (H++[.perm zby 3 l.length]) (Out H.length K) Kb:=by intro mK;rw[mK]at fin;exact fin (by simp)
   have ek:s[((i:Int)+j).toNat]?.getD 0=s[i+j]:=by rw[show ((i:Int)+j).toNat=i+j by omega];simp[gw]
   unfold bIn at key no;simp[zr6,w1,w2,fz,ek];refine⟨by omega,?_⟩;refine zwX _ _ _ ?_;cases hL:zb3 s[i+j] with
   |true=>simpa using key (by simp[hL])
   |false=>
    simp[w1,w2,fz,ek];refine⟨by omega,zkH _ _ _ ?_⟩;cases hU:bUp s[i+j] with
    |true=>simpa using key (by simp[hU])
    |false=>
     simp[w1,w2,fz,ek];refine⟨by omega,zoQ _ _ _ ?_⟩;cases hD:za5 s[i+j] with
     |true=>simpa using key (by simp[hD])
     |false=>
      simp[w1,w2,fz,ek,e95];refine⟨by omega,?_⟩;cases h95:(s[i+j] == 95) with
      |true=>simpa using key (by simp[h95])
      |false=>simpa[zgJ,w1]using no (by simp[hL,hU,hD,h95])
  ·have fz:¬ (i+j:Int)<s.length:=by omega
   have:s.drop (i+j)=[]:=bK (by omega);rw[this]at fin;have:=fin rfl;simp[zr6,w1,w2,fz];simpa[zgJ,w1]using this
end
def zlC(t0 t5 t6 t8:AV)(H:zaa)(K:AV→zaa→Prop)(Kb5:List AV→zaa→Prop):Prop:=
 zad .add false t6 t8 λt172=>
 zaS 0 0 t0 (some t6) (some t172) λt173=>
 ACalls tP zgo [t173] H λt174 H=>
 zay t174 0 λt175=>
 zay t174 1 λt176=>
 aUn .not t176 λt178=>
 zag t178
 (zaG [.snil,t6,(.int .i64 9)] (K · H))
 (zad .add false t6 t8 λt185=>
 zaS 0 0 t0 (some t6) (some t185) λt186=>
 zar [(.int .i64 0),(.str []),(.int .i64 0)] [(0,1),(1,1),(2,1)] [(0,(.int .i64 3)),(1,t186),(2,t6)] λt188=>
 zau 3 [(.int .i64 0),(.str []),(.int .i64 0)] 1 [(0,t188)] λt189=>
 zax zby 3 32 t5 t189 H λt190 H=>
 zfb t0 t190 t6 t8 H K Kb5)
def zgK(t0 t5 t6 t7 t8:AV)(H:zaa)(K:AV→zaa→Prop)(Kb5:List AV→zaa→Prop):Prop:=
 zad .gtr false t8 (.int .i64 1) λt161=>
 zac t161 true H (λK'=>K' t7 H) λt163 H=>
 zac t161 true H (λK'=>zad .eql false t163 (.int .u8 48) (K' · H)) λt164 H=>
 zak t161 t164 (.bool false) λt165=>
 zag t165
 (zaG [.snil,t6,(.int .i64 2)] (K · H))
 (zad .add false t6 t8 λt172=>
 zaS 0 0 t0 (some t6) (some t172) λt173=>
 ACalls tP zgo [t173] H λt174 H=>
 zay t174 0 λt175=>
 zay t174 1 λt176=>
 aUn .not t176 λt178=>
 zag t178
 (zaG [.snil,t6,(.int .i64 9)] (K · H))
 (zad .add false t6 t8 λt185=>
 zaS 0 0 t0 (some t6) (some t185) λt186=>
 zar [(.int .i64 0),(.str []),(.int .i64 0)] [(0,1),(1,1),(2,1)] [(0,(.int .i64 3)),(1,t186),(2,t6)] λt188=>
 zau 3 [(.int .i64 0),(.str []),(.int .i64 0)] 1 [(0,t188)] λt189=>
 zax zby 3 32 t5 t189 H λt190 H=>
 zfb t0 t190 t6 t8 H K Kb5))
section
variable (s:List UInt8) (hl:¬s.length>16384) (i:Nat) (d7:i<s.length) (H:zaa) (l:List Tk) (fc:l.length≤i) (et:∀n,HSc (H++[.perm zby 3 n])) (K:AV→zaa→Prop) (Kb:List AV→zaa→Prop)
include hl d7 fc et
theorem zGK(gc:¬ (zb3 s[i] || bUp s[i])=true)(hD:za5 s[i]=true)(app:∀ (k:Int) (n:Nat),tok (kwF kwds) s[i] (s.drop (i+1))=.ok (k,n)→∀ t,(s.drop i).take n=t→ziw (.str s) (.sl (l.map Tk.cs++[[.int .i64 k,.str t,.int .i64 i]]) (.own H.length)) (.int .i64 i) (.int .i64 n) (H++[.perm zby 3 (l.length+1)]) (Out H.length K) Kb)(bad:∀ e:Int,tok (kwF kwds) s[i] (s.drop (i+1))=.error e→Out H.length K (.tup [.snil,.int .i64 i,.int .i64 e]) (H++[.perm zby 3 l.length])):
  zsa (.str s) (.sl (l.map Tk.cs) (.own H.length)) (.int .i64 i) (.int .u8 s[i].toNat) (.int .i64 1) (H++[.perm zby 3 l.length]) (Out H.length K) Kb:=by
 refine zMD (Inv:=λq t8 H'=>∃(j:Nat),i+j≤s.length∧0<j∧q=s.length-j∧t8=.int .i64 j∧H'=H++[.perm zby 3 l.length]∧j+((s.drop (i+j)).takeWhile za5).length=((s.drop (i+1)).takeWhile za5).length+1) (s.length-1) ?_ ?_
 ·intro _;exact⟨1,by omega,by omega,by omega,rfl,rfl,by omega⟩
 ·rintro q t8 H' ⟨j,ow,jK,rfl,rfl,rfl,hn⟩ hsc d8 eC Kb18 kG;have w1:IntKind.i64.wrap ((i:Int)+j)=i+j:=zav (by omega) (by omega);have w2:IntKind.i64.wrap ((j:Int)+1)=j+1:=zav (by omega) (by omega);have e48:((s[i].toNat:Int) == 48)=(s[i] == 48):=zcA s[i] 48;have fin:((s.drop (i+j)).takeWhile za5).length=0→zgK (.str s) (.sl (l.map Tk.cs) (.own H.length)) (.int .i64 i) (.int .u8 s[i].toNat) (.int .i64 j) (H++[.perm zby 3 l.length]) (Out H.length K) Kb:=by
   intro h0;rw[h0]at hn;have l9:(s.drop i).take j=s[i]::(s.drop (i+1)).takeWhile za5:=by rw[ag d7,show j=((s.drop (i+1)).takeWhile za5).length+1 by omega,zkB]
   have eX:tok (kwF kwds) s[i] (s.drop (i+1))=if (s[i] == 48 && decide (j>1))=true then .error 2 else if zcc ((s.drop i).take j) 0=true then .ok (3,j) else .error 9:=by rw[ag d7];simp only[tok,gc,hD,aV,←hn,Nat.add_zero];rfl
   have iy:∀(K:AV→zaa→Prop) (H:zaa),(∀n,K (.tup [.int .i64 n,.bool (zcc ((s.drop i).take j) 0)]) H)→ACalls tP zgo [.str ((s.drop i).take j)] H K:=by
    intro K H hK;refine zJw _ ?_ (by simp;omega) _ _ hK;intro c hc;rw[l9]at hc;rcases aS.1 hc with rfl|hc
    ·exact hD
    ·exact ak.1 (List.all_takeWhile) c hc
   have rest:¬(s[i] == 48 && decide (j>1))=true→zlC (.str s) (.sl (l.map Tk.cs) (.own H.length)) (.int .i64 i) (.int .i64 j) (H++[.perm zby 3 l.length]) (Out H.length K) Kb:=by
    intro en;rw[ap en]at eX;simp[zlC,w1];refine⟨by omega,by omega,?_⟩;rw[show ((i:Int)+j).toNat=i+j by omega,zkC];refine iy _ _ λn=>?_;cases hv:zcc ((s.drop i).take j) 0 with
    |false=>rw[hv]at eX;simp[AV.isV];exact bad 9 eX
    |true=>rw[hv]at eX;have:=app 3 j eX _ rfl;simp[zar,zaL,zau,zaU,plain,AV.pd,zax,zaO,zaK,zfb];refine⟨by omega,by omega,by omega,?_⟩;exact this
   by_cases h1:j>1
   ·have f5:(1:Int)<j:=by omega
    have hd:decide (j>1)=true:=bq h1;rw[hd]at rest eX;cases hz:(s[i] == 48) with
    |true=>rw[hz]at eX;simp[zgK,f5,e48,hz,AV.isV];exact bad 2 eX
    |false=>have:=rest (by rw[hz];decide);simp[zgK,f5,e48,hz];simpa[zlC]using this
   ·have f5:¬ (1:Int)<j:=by omega
    have:=rest (by rw[bk h1];simp);simp[zgK,f5];simpa[zlC]using this
  by_cases gw:i+j<s.length
  ·have fz:(i+j:Int)<s.length:=by omega
   rw[ag gw,df]at hn fin;have ek:s[((i:Int)+j).toNat]?.getD 0=s[i+j]:=by rw[show ((i:Int)+j).toNat=i+j by omega];simp[gw]
   simp[zr7,w1,w2,fz,ek];refine⟨by omega,?_⟩;refine zoQ _ _ _ ?_;cases hb:za5 s[i+j] with
   |true=>rw[hb]at hn;simp at hn;simp[w1,w2];refine kG _ _ ⟨s.length-(j+1),by omega,Back.here (by simp) (et _) ?_ ⟨_,rfl,j+1,by omega,by omega,rfl,by simp,rfl,by rw[←ae];omega⟩⟩;simp[zlE,AV.sc,AV.scV,AV.scA,AV.scB]
   |false=>rw[hb]at fin;have:=fin (by simp);simp[w1,w2];simpa[zgK,w1]using this
  ·have fz:¬ (i+j:Int)<s.length:=by omega
   have:s.drop (i+j)=[]:=bK (by omega);rw[this]at fin;have:=fin rfl;simp[zr7,w1,w2,fz];simpa[zgK,w1]using this
end
theorem zIU(s:List UInt8)(H:zaa)(K:AV→zaa→Prop)(hK:K (ze6 s) H):ACalls tP zpF [.str s] H K:=by
 refine ACalls.out (zMI λhs=>?_);by_cases hl:s.length>16384
 ·have gf:(16384:Int)<s.length:=by omega
  simp[zr4,gf,AV.isV];unfold ze6 at hK;rw[aA hl]at hK;exact Out.tup0 hs hK ⟨zdS,zaY rfl rfl,zaY rfl rfl,trivial⟩
 have gf:¬(16384:Int)<s.length:=by omega
 unfold ze6 at hK;rw[ap hl]at hK;simp[zr4,gf];have et:∀n,HSc (H++[.perm zby 3 n]):=λn=>hs.append rfl;unfold zlF;refine ALoop.own 5 zby 3 rfl ?_;show zlF (.str s) (.sl [] (.own H.length)) (.int .i64 0) (H++[.perm zby 3 0]) (Out H.length K);refine zME (Inv:=λq t5 t6 H'=>∃(i:Nat) (l:List Tk),i≤s.length∧l.length≤i∧q=s.length-i∧t6=.int .i64 i∧t5=.sl (l.map Tk.cs) (.own H.length)∧H'=H++[.perm zby 3 l.length]∧cat l (zbG (kwF kwds) (s.drop i) i)=zbG (kwF kwds) s 0) s.length ?_ ?_
 ·intro _;exact⟨0,[],by omega,by simp,by omega,rfl,rfl,rfl,by simp⟩
 ·rintro q t5 t6 H' ⟨i,l,hi,fc,rfl,rfl,rfl,rfl,ho⟩ hsc d8 eC Kb ee;by_cases d7:i<s.length
  ·have fu:=ag d7;have e9:((s[i].toNat:Int) == 9)=(s[i] == 9):=zcA s[i] 9;have e10:((s[i].toNat:Int) == 10)=(s[i] == 10):=zcA s[i] 10;have e13:((s[i].toNat:Int) == 13)=(s[i] == 13):=zcA s[i] 13;have e32:((s[i].toNat:Int) == 32)=(s[i] == 32):=zcA s[i] 32;have e35:((s[i].toNat:Int) == 35)=(s[i] == 35):=zcA s[i] 35;cases gv:zds s[i] with
   |true=>
    rw[fu,zy0 _ gv]at ho;have key:ze9 (.str s) (.sl (l.map Tk.cs) (.own H.length)) (.int .i64 (IntKind.i64.wrap (i+1))) (H++[.perm zby 3 l.length]) (Out H.length K) Kb:=by simp[ze9];rw[zav (by omega) (by omega)];refine ee _ _ ⟨s.length-(i+1),by omega,Back.here (by simp) (et _) ?_ ⟨_,_,rfl,i+1,l,by omega,by omega,rfl,by simp,rfl,rfl,ho⟩⟩;simp[zfO,AV.sc,AV.scV,AV.scA,AV.scB]
    unfold zds at gv;cases h9:(s[i] == 9) <;> cases jr:(s[i] == 10) <;> cases ox:(s[i] == 13) <;> cases ma:(s[i] == 32) <;> simp[h9,jr,ox,ma]at gv <;> simpa[zlB,d7,e9,e10,e13,e32,h9,jr,ox,ma]using key
   |false=>
    have mL:=gv;unfold zds at mL;simp only[bF]at mL;obtain⟨⟨⟨h9,jr⟩,ox⟩,ma⟩:=mL;have app:∀(k:Int) (n:Nat),tok (kwF kwds) s[i] (s.drop (i+1))=.ok (k,n)→(s[i] == 35)=false→∀t,(s.drop i).take n=t→ziw (.str s) (.sl (l.map Tk.cs++[[.int .i64 k,.str t,.int .i64 i]]) (.own H.length)) (.int .i64 i) (.int .i64 n) (H++[.perm zby 3 (l.length+1)]) (Out H.length K) Kb:=by
     intro k n ht eG t pl;subst pl;rw[fu,zy3 _ gv eG ht,zv0,←fu]at ho;have hn:=zra ht;rw[←fu]at hn;simp at hn;have jC:=zrb ht;simp[ziw,ze9];rw[zav (by omega) (by omega)];refine ee _ _ ⟨s.length-(i+n),by omega,Back.here (by simp) (et _) ?_ ⟨_,_,rfl,i+n,l++[⟨k,(s.drop i).take n,i⟩],by omega,by simp;omega,rfl,by simp,by simp[Tk.cs],by simp,?_⟩⟩
     ·simp[zfO,AV.sc,AV.scV,AV.scA,AV.scB]
     ·rw[cS]at ho;exact ho
    have bad:∀e:Int,tok (kwF kwds) s[i] (s.drop (i+1))=.error e→(s[i] == 35)=false→Out H.length K (.tup [.snil,.int .i64 i,.int .i64 e]) (H++[.perm zby 3 l.length]):=by intro e ht eG;rw[fu,zy1 _ gv eG ht]at ho;rw[←ho]at hK;exact zxE hs hK
    simp[zlB,d7,e9,e10,e13,e32,e35,h9,jr,ox,ma];cases eG:(s[i] == 35) with
    |true=>
     simp;rw[fu,zy2 _ gv eG]at ho;obtain⟨c1,c2⟩:=zkr jr (s.drop (i+1));rw[ae,←c1,←c2,←fu]at ho;refine zMB (Inv:=λq t6 H'=>∃(j:Nat),i≤j∧j≤s.length∧q=s.length-j∧t6=.int .i64 j∧H'=H++[.perm zby 3 l.length]∧cat l (zbG (kwF kwds) (zeA (s.drop j)) (j+zeB (s.drop j)))=zbG (kwF kwds) s 0) (s.length-i) ?_ ?_
     ·intro _;exact⟨i,by omega,by omega,by omega,rfl,rfl,ho⟩
     ·rintro q t6 H' ⟨j,ow,hj,rfl,rfl,rfl,ho⟩ hsc d8 eC Kb9 kF;by_cases gw:j<s.length
      ·have ja:=ag gw;have e10:((s[j].toNat:Int) != 10)=!(s[j] == 10):=by rw[←zcA s[j] 10];rfl
       simp[zr5,gw,e10];cases hz:(s[j] == 10) with
       |true=>
        obtain⟨d1,d2⟩:=zyw hz (s.drop (j+1));rw[ja,d1,d2,←ja,Nat.add_zero]at ho;have hij':i≠j:=by rintro rfl;rw[jr]at hz;cases hz
        simp[ze9];refine ee _ _ ⟨s.length-j,by omega,Back.here (by simp) (et _) ?_ ⟨_,_,rfl,j,l,by omega,by omega,rfl,by simp,rfl,rfl,ho⟩⟩;simp[zfO,AV.sc,AV.scV,AV.scA,AV.scB]
       |false=>obtain⟨d1,d2⟩:=zkr hz (s.drop (j+1));rw[ja,d1,d2,←ae]at ho;simp;rw[zav (by omega) (by omega)];refine kF _ _ ⟨s.length-(j+1),by omega,Back.here (by simp) (et _) ?_ ⟨_,rfl,j+1,by omega,by omega,rfl,by simp,rfl,ho⟩⟩;simp[zlD,AV.sc,AV.scV,AV.scA,AV.scB]
      ·obtain rfl:j=s.length:=by omega
       simp[zr5,ze9];rw[aI,skipC_nil.1,skipC_nil.2,Nat.add_zero]at ho;refine ee _ _ ⟨0,by omega,Back.here (by simp) (et _) ?_ ⟨_,_,rfl,s.length,l,by omega,by omega,by omega,by simp,rfl,rfl,by rw[aI];exact ho⟩⟩;simp[zfO,AV.sc,AV.scV,AV.scA,AV.scB]
    |false=>
     replace app:=λk n h=>app k n h eG
     replace bad:=λe h=>bad e h eG
     simp;refine zwX _ _ _ ?_;by_cases gc:(zb3 s[i] || bUp s[i])=true
     ·have hc:zb3 s[i]=true∨(zb3 s[i]=false∧bUp s[i]=true):=by cases hL:zb3 s[i] <;> simp[hL]at gc ⊢;exact gc
      rcases hc with hL|⟨hL,hU⟩;case' inl=>simp[hL]
      case' inr=>simp[hL];refine zkH _ _ _ ?_;simp[hU]
      all_goals exact zJE s hl i d7 H l fc et K Kb gc app bad
     ·have hL:zb3 s[i]=false:=by simp at gc;exact gc.1
      have hU:bUp s[i]=false:=by simp at gc;exact gc.2
      simp[hL];refine zkH _ _ _ ?_;simp[hU];refine zoQ _ _ _ ?_;cases hD:za5 s[i] with
      |true=>simp;exact zGK s hl i d7 H l fc et K Kb gc hD app bad
      |false=>
       simp;refine⟨by omega,?_⟩;have eX:tok (kwF kwds) s[i] (s.drop (i+1))=if sgn (s.drop i)=0 then .error 2 else .ok (5,sgn (s.drop i)):=by simp only[tok,gc,hD,fu];rfl
       rw[fu];refine zH5 _ _ _ _ ?_;rw[←fu];by_cases hz:sgn (s.drop i)=0
       ·simp[hz,AV.isV];exact bad 2 (by rw[eX,aA hz])
       ·have lG:((sgn (s.drop i):Int) == 0)=false:=by simpa using hz
        have ht:=eX;rw[ap hz]at ht;have hn:=zra ht;rw[←fu]at hn;simp at hn;have:=app 5 (sgn (s.drop i)) ht _ rfl;simp[lG];rw[zav (by omega) (by omega)];simp[zar,zaL,zau,zaU,plain,AV.pd,zax,zaO,zaK,zfb];refine⟨by omega,by omega,by omega,?_⟩;rw[show ((i:Int)+(sgn (s.drop i):Int)).toNat=i+sgn (s.drop i) by omega,zkC];exact this
  ·obtain rfl:i=s.length:=by omega
   rw[aI,zrc]at ho;rw[←ho]at hK;simp[zlB,zar,zaL,zau,zaU,plain,AV.pd,zax,zaO,zaK,AV.isV];refine⟨by omega,?_⟩;simp[cat,Tk.cs]at hK;exact Out.tup hs hK ⟨slV,zaY rfl rfl,zaY rfl rfl,trivial⟩
section
variable (t0 t3 t4 t5 t6 t7 t93 t94 t95:AV) (H:zaa) (K:Kt) (Kb2 Kb5 Kb12 Kb18:Lt)
def zeg:Nat→List Bool|5=>rl false [0,1,2,3,115]|12=>rl false [0,1,2,5,113]|18=>rl false [0,1,2,5,85,3,25]|_=>[]
noncomputable def zuc:=Tryz.f48.body.getD .skip
noncomputable def zTx:=Tryz.f48.results.toList
def znv:=t0::ux 2 (t3::t4::t5::ux 115 [])
def zCZ:=zeg 5
noncomputable def zue:=zas [1,1,1,0,1,0,0] zuc
def zCU:=zat tP zeg [1,1,1,0,1,0] zuc (zaB tP zTx K)
def znx:=ALoop tP zue (zCU K) (znv t0 t3 t4 t5) H
def znt:=t0::ux 2 (t3::t4::t5::t6::t7::ux 113 [])
def zCY:=zeg 12
noncomputable def zud:=zas [1,0,0,1,1,1,1,0,0] zue
def zCT:=zat tP zeg [1,0,0,1,1,1,1,0] zue (zbR zCZ Kb5 (zCU K))
def zCW:=ALoop tP zud (zCT K Kb5) (znt t0 t3 t4 t5 t6 t7) H
def znu:=t0::ux 2 (t3::t4::t5::t6::t7::ux 85 (t93::t94::t95::ux 25 []))
def zTv:=zeg 18
noncomputable def zTr:=zas [1,0,0,1,1,1,0,0] zud
def zTq:=zat tP zeg [1,0,0,1,1,1,0] zud (zbR zCY Kb12 (zCT K Kb5))
def zCX:=ALoop tP zTr (zTq K Kb5 Kb12) (znu t0 t3 t4 t5 t6 t7 t93 t94 t95) H
def zCV(t0 t3 t4 t5 t6 t7 t93 t94 t95:AV)(H:zaa)(K:Kt)(Kb5:Lt)(Kb12:Lt)(Kb18:Lt):Prop:=zad .add false t95 (.int .i64 1) λt112=>Kb18 (znu t0 t3 t4 t5 t6 t7 t93 t94 t112) H
def znw:=zCV t0 t3 t4 t5 t6 t7 t93 t94 t95 H K Kb5 Kb12 Kb18
def zub:=zad .lss false t95 t94 λt96=>zag t96 (zaj 3 t93 t95 λt97=>zae true 3 t97 H λt98=>zaz [(.int .i64 0),(.int .i64 0),.snil] H λt9 H=>zao 3 t9 t98 H λH=>zae true 3 t9 H λt99=>zaf 1 t6 λt101=>zae false 1 t101 H λt102=>ACalls tP zj3 [t99,t5,t102] H λt103 H=>zag t103 (znw t0 t3 t4 t5 t6 t7 t93 t94 t95 H K Kb5 Kb12 Kb18) (apm H t0 λt104=>apm H t5 λt105=>apu H (zaS 1 3 t104 none (some t105)) λt106=>apu H (zal true 3 t9 H) λt107=>apu H (zaf 1 t6) λt108=>apu H (zal false 1 t108 H) λt109=>zaJ H (λH K'=>ACalls tP zjR [t106,t107,t109] H K') λt110=>apu H (aUn .not t110) λt111=>zag t111 (K (.bool false) H) (znw t0 t3 t4 t5 t6 t7 t93 t94 t95 H K Kb5 Kb12 Kb18))) (zad .add false t7 (.int .i64 1) λt60=>Kb12 (znt t0 t3 t4 t5 t6 t60) H)
def zua:=zaf 2 t6 λt55=>zae false 1 t55 H λt56=>zai 1 t56 λt57=>zad .lss false t7 t57 λt58=>zag t58 (zaf 2 t6 λt61=>zae false 1 t61 H λt62=>zaj 2 t62 t7 λt64=>zaf 0 t64 λt65=>zae false 1 t65 H λt66=>ACalls tP zj2 [t66] H λt67 H=>aUn .not t67 λt68=>zac t68 false H (λK'=>zaf 2 t6 (K' · H)) λt70 H=>zac t68 false H (λK'=>zae false 1 t70 H (K' · H)) λt71 H=>zac t68 false H (λK'=>K' t7 H) λt72 H=>zac t68 false H (λK'=>zaj 2 t71 t72 (K' · H)) λt73 H=>zac t68 false H (λK'=>zaf 1 t73 (K' · H)) λt74 H=>zac t68 false H (λK'=>zae false 1 t74 H (K' · H)) λt75 H=>zac t68 false H (λK'=>zai 1 t75 (K' · H)) λt76 H=>zac t68 false H (λK'=>zad .gtr false t76 (.int .i64 6) (K' · H)) λt77 H=>zak t68 (.bool true) t77 λt78=>zag t78 (K (.bool false) H) (zaf 2 t6 λt80=>zae false 1 t80 H λt81=>zaj 2 t81 t7 λt83=>zaf 0 t83 λt84=>zae false 1 t84 H λt85=>zau 1 [(.str [])] 1 [(0,t85)] λt86=>zax zb8 1 16 t4 t86 H λt87 H=>zaf 2 t6 λt88=>zae false 1 t88 H λt89=>zaj 2 t89 t7 λt91=>zaf 1 t91 λt92=>zae false 1 t92 H λt93=>zai 1 t93 λt94=>zCX t0 t3 t87 t5 t6 t7 t93 t94 (.int .i64 0) H K Kb5 Kb12)) (zad .add false t5 (.int .i64 1) λt18=>Kb5 (znv t0 t3 t4 t18) H)
def zf0:=zai 1 t0 λt15=>zad .lss false t5 t15 λt16=>zag t16 (zaj 3 t0 t5 λt21=>zae true 3 t21 H λt22=>zaz [(.str []),(.int .i64 0),.snil] H λt6 H=>zao 3 t6 t22 H λH=>zaf 1 t6 λt23=>zae false 1 t23 H λt24=>zad .lss false t24 (.int .i64 0) λt25=>zac t25 false H (λK'=>zaf 1 t6 (K' · H)) λt27 H=>zac t25 false H (λK'=>zae false 1 t27 H (K' · H)) λt28 H=>zac t25 false H (λK'=>zad .gtr false t28 (.int .i64 6) (K' · H)) λt29 H=>zak t25 (.bool true) t29 λt30=>zac t30 false H (λK'=>zaf 2 t6 (K' · H)) λt32 H=>zac t30 false H (λK'=>zae false 1 t32 H (K' · H)) λt33 H=>zac t30 false H (λK'=>zai 1 t33 (K' · H)) λt34 H=>zac t30 false H (λK'=>zad .lss false t34 (.int .i64 1) (K' · H)) λt35 H=>zak t30 (.bool true) t35 λt36=>zac t36 false H (λK'=>zaf 2 t6 (K' · H)) λt38 H=>zac t36 false H (λK'=>zae false 1 t38 H (K' · H)) λt39 H=>zac t36 false H (λK'=>zai 1 t39 (K' · H)) λt40 H=>zac t36 false H (λK'=>zad .gtr false t40 (.int .i64 8) (K' · H)) λt41 H=>zak t36 (.bool true) t41 λt42=>zac t42 false H (λK'=>zaf 0 t6 (K' · H)) λt44 H=>zac t42 false H (λK'=>zae false 1 t44 H (K' · H)) λt45 H=>zac t42 false H (λK'=>ACalls tP zj2 [t45] H K') λt46 H=>zac t42 false H (λK'=>aUn .not t46 (K' · H)) λt47 H=>zak t42 (.bool true) t47 λt48=>zag t48 (K (.bool false) H) (zaf 0 t6 λt50=>zae false 1 t50 H λt51=>zau 1 [(.str [])] 1 [(0,t51)] λt52=>zax zb8 1 16 t3 t52 H λt53 H=>zCW t0 t53 t4 t5 t6 (.int .i64 0) H K Kb5)) (ACalls tP zh3 [t3] H λt114 H=>aUn .not t114 λt115=>zac t115 true H (λK'=>K' t4 H) λt117 H=>zac t115 true H (λK'=>ACalls tP zh3 [t117] H K') λt118 H=>zac t115 true H (λK'=>aUn .not t118 (K' · H)) λt119 H=>zak t115 t119 (.bool false) λt120=>K t120 H)
def zt9:=zai 1 t0 λt11=>zad .gtr false t11 (.int .i64 12) λt12=>zag t12 (K (.bool false) H) (znx t0 .snil .snil (.int .i64 0) H K)
def zf2:Nat→List Bool|2=>rl false [0,1,2,1,21]|5=>rl false [0,1,2,2,20]|_=>[]
noncomputable def zuP:=Tryz.f94.body.getD .skip
noncomputable def zWa:=Tryz.f94.results.toList
def zn6:=t0::ux 2 (t3::ux 21 [])
def zDU:=zf2 2
noncomputable def zuQ:=zas [1,0,1,0,0] zuP
def zDR:=zat tP zf2 [1,0,1,0] zuP (zaB tP zWa K)
def zDS:=ALoop tP zuQ (zDR K) (zn6 t0 t3) H
def zn7:=t0::ux 2 (t3::t4::ux 20 [])
def zV8:=zf2 5
noncomputable def zV5:=zas [1,0,0,1,0,0] zuQ
def zV4:=zat tP zf2 [1,0,0,1,0] zuQ (zbR zDU Kb2 (zDR K))
def zDT:=ALoop tP zV5 (zV4 K Kb2) (zn7 t0 t3 t4) H
def zuO:=zad .lss false t4 t3 λt13=>zag t13 (apm H t0 λt16=>apm H t3 λt17=>apu H (zaj 1 t16 t17) λt18=>apu H (zal false 1 t18 H) λt19=>apm H t0 λt20=>apm H t4 λt21=>apu H (zaj 1 t20 t21) λt22=>apu H (zal false 1 t22 H) λt23=>apu H (zad .eql false t19 t23) λt24=>zag t24 (K (.bool true) H) (zad .add false t4 (.int .i64 1) λt15=>Kb5 (zn7 t0 t3 t15) H)) (zad .add false t3 (.int .i64 1) λt10=>Kb2 (zn6 t0 t10) H)
def zuN:=zai 1 t0 λt7=>zad .lss false t3 t7 λt8=>zag t8 (zDT t0 t3 (.int .i64 0) H K Kb2) (K (.bool false) H)
def zDQ:=zDS t0 (.int .i64 0) H K
variable {t0 t3 t4 t5 t6 t7 t93 t94 t95} {H} {K} {Kb2 Kb5 Kb12 Kb18}
theorem zTt:Lo1 (λt95=>znu t0 t3 t4 t5 t6 t7 t93 t94 t95) (λt95 H Kb18=>zub t0 t3 t4 t5 t6 t7 t93 t94 t95 H K Kb5 Kb12 Kb18) t95 H (zCX t0 t3 t4 t5 t6 t7 t93 t94 t95 H K Kb5 Kb12):=lq1 zeg zTv
theorem zTs:Lo2 (λt4 t7=>znt t0 t3 t4 t5 t6 t7) (λt4 t7 H Kb12=>zua t0 t3 t4 t5 t6 t7 H K Kb5 Kb12) t4 t7 H (zCW t0 t3 t4 t5 t6 t7 H K Kb5):=lq2 zeg zCY
theorem zTu:Lo3 (λt3 t4 t5=>znv t0 t3 t4 t5) (λt3 t4 t5 H Kb5=>zf0 t0 t3 t4 t5 H K Kb5) t3 t4 t5 H (znx t0 t3 t4 t5 H K):=lq3 zeg zCZ
theorem zTw(h:HSc H→zt9 t0 H K):ACalls tP zp7 [t0] H K:=
 acb zeg Tryz.func48 zuc h
theorem zV7:Lo1 (λt4=>zn7 t0 t3 t4) (λt4 H Kb5=>zuO t0 t3 t4 H K Kb2 Kb5) t4 H (zDT t0 t3 t4 H K Kb2):=lq1 zf2 zV8
theorem zV6:Lo1 (λt3=>zn6 t0 t3) (λt3 H Kb2=>zuN t0 t3 H K Kb2) t3 H (zDS t0 t3 H K):=lq1 zf2 zDU
theorem zV9(h:HSc H→zDQ t0 H K):ACalls tP zh3 [t0] H K:=
 acb zf2 Tryz.func94 zuP h
end
end Go.Proofs.YtdmamdnkcefmmaaGreatDoor
