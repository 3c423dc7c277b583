import Derived.Test.YtaifokkaaahdoaaGreatDoorKGT
import Derived.Test.YtaifokkaaahdoaaGreatDoorAbsQ1
import Derived.Test.YtaifokkaaahdoaaGreatDoorKNum
import Derived.Test.YtaifokkaaahdoaaGreatDoorProg
import Derived.KernelRfl
import Derived.Test.YtaifokkaaahdoaaGreatDoorKY8
set_option linter.unusedSimpArgs false
set_option linter.unusedVariables false
set_option linter.unusedSectionVars false
set_option maxRecDepth 100000
namespace Go.Proofs.YtaifokkaaahdoaaGreatDoor
def kwds:List (List UInt8):=[[97,114,114,97,121],[98,111,111,108],[99,97,116,99,104],[100,97,116,97],[101,108,115,101],[101,110,100],[102,97,108,115,101],[102,110],[102,117,110],[103,101,116],[105,102],[105,110],[105,110,116],[108,101,110],[108,101,116],[109,97,116,99,104],[110,101,119],[114,97,105,115,101],[114,101,97,100],[114,101,102],[115,101,116],[116,104,101,110],[116,105,99,107],[116,114,117,101],[116,114,121],[117,110,105,116],[119,105,116,104],[119,114,105,116,101]]
def kwF(ws:List (List UInt8))(s:List UInt8):Bool:=ws.any (s == ·)
theorem zbB{H:zaa}{K:AV→zaa→Prop}{r:AV}(hsc:HSc H)(hv:r.isV=true)(hr:r.scV H.length=true)(h:K r H):Out H.length K r H:=by have:=Out.same (J:=[]) rfl hsc hv hr h;simpa using this
theorem zcy(b c:UInt8):((b.toNat:Int) == (c.toNat:Int))=(b == c):=by
 rw[bN];simp only[aY];constructor
 ·intro h;exact UInt8.toNat_inj.mp (by omega)
 ·rintro rfl;rfl
theorem zxL(b:UInt8)(H:zaa)(K:AV→zaa→Prop)(hK:K (.bool (zbT b)) H):ACalls tP zkl [.int .u8 b.toNat] H K:=by refine ACalls.out (zOG λhs=>?_);have hO:=zbB (K:=K) (H:=H) (r:=.bool (zbT b)) hs rfl rfl hK;unfold zbT at hO;cases h1:decide (97≤(b.toNat:Int)) <;> simp[zBR,h1] <;> simpa[h1]using hO
theorem zls(b:UInt8)(H:zaa)(K:AV→zaa→Prop)(hK:K (.bool (bUp b)) H):ACalls tP zha [.int .u8 b.toNat] H K:=by refine ACalls.out (zOJ λhs=>?_);have hO:=zbB (K:=K) (H:=H) (r:=.bool (bUp b)) hs rfl rfl hK;unfold bUp at hO;cases h1:decide (65≤(b.toNat:Int)) <;> simp[zBS,h1] <;> simpa[h1]using hO
theorem zpy(b:UInt8)(H:zaa)(K:AV→zaa→Prop)(hK:K (.bool (za8 b)) H):ACalls tP zip [.int .u8 b.toNat] H K:=by refine ACalls.out (zOM λhs=>?_);have hO:=zbB (K:=K) (H:=H) (r:=.bool (za8 b)) hs rfl rfl hK;unfold za8 at hO;cases h1:decide (48≤(b.toNat:Int)) <;> simp[zBT,h1] <;> simpa[h1]using hO
theorem zp2(b:UInt8)(H:zaa)(K:AV→zaa→Prop)(hK:K (.bool (zbT b)) H):ACalls tP zkw [.int .u8 b.toNat] H K:=by refine ACalls.out (zQR λhs=>?_);have hO:=zbB (K:=K) (H:=H) (r:=.bool (zbT b)) hs rfl rfl hK;unfold zbT at hO;cases h1:decide (97≤(b.toNat:Int)) <;> simp[zCG,h1] <;> simpa[h1]using hO
theorem zlt(b:UInt8)(H:zaa)(K:AV→zaa→Prop)(hK:K (.bool (bUp b)) H):ACalls tP zir [.int .u8 b.toNat] H K:=by refine ACalls.out (zQU λhs=>?_);have hO:=zbB (K:=K) (H:=H) (r:=.bool (bUp b)) hs rfl rfl hK;unfold bUp at hO;cases h1:decide (65≤(b.toNat:Int)) <;> simp[zCH,h1] <;> simpa[h1]using hO
theorem zpz(b:UInt8)(H:zaa)(K:AV→zaa→Prop)(hK:K (.bool (za8 b)) H):ACalls tP zf6 [.int .u8 b.toNat] H K:=by refine ACalls.out (zQ9 λhs=>?_);have hO:=zbB (K:=K) (H:=H) (r:=.bool (za8 b)) hs rfl rfl hK;unfold za8 at hO;cases h1:decide (48≤(b.toNat:Int)) <;> simp[zCM,h1] <;> simpa[h1]using hO
theorem zF7(b:UInt8)(H:zaa)(K:AV→zaa→Prop)(hK:K (.bool (zdr b)) H):ACalls tP zqE [.int .u8 b.toNat] H K:=by refine ACalls.out (zQI λhs=>?_);have hO:=zbB (K:=K) (H:=H) (r:=.bool (zdr b)) hs rfl rfl hK;unfold zdr at hO;have e1:((b.toNat:Int) == 9)=(b == 9):=zcy b 9;have e2:((b.toNat:Int) == 10)=(b == 10):=zcy b 10;have e3:((b.toNat:Int) == 13)=(b == 13):=zcy b 13;have e4:((b.toNat:Int) == 32)=(b == 32):=zcy b 32;cases h1:(b == 9) <;> cases h2:(b == 10) <;> cases h3:(b == 13) <;> simp[zCD,e1,e2,e3,e4,h1,h2,h3] <;> simpa[h1,h2,h3]using hO
theorem zKN(b:UInt8)(H:zaa)(K:AV→zaa→Prop)(hK:K (.bool (bIn b)) H):ACalls tP zis [.int .u8 b.toNat] H K:=by
 refine ACalls.out (zQ3 λhs=>?_);have hO:=zbB (K:=K) (H:=H) (r:=.bool (bIn b)) hs rfl rfl hK;unfold bIn at hO;have e1:((b.toNat:Int) == 95)=(b == 95):=zcy b 95;unfold zCK;refine zp2 b _ _ ?_;cases h1:zbT b with
 |true=>simp;simpa[h1]using hO
 |false=>
  simp;refine zlt b _ _ ?_;cases h2:bUp b with
  |true=>simp;simpa[h1,h2]using hO
  |false=>
   simp;refine zpz b _ _ ?_;cases h3:za8 b with
   |true=>simp;simpa[h1,h2,h3]using hO
   |false=>simp[e1];simpa[h1,h2,h3]using hO
theorem zHw(s:List UInt8)(H:zaa)(K:AV→zaa→Prop)(hK:K (.bool (kwF kwds s)) H):ACalls tP zqG [.str s] H K:=by
 refine ACalls.out (zQ6 λhs=>?_);have hO:=zbB (K:=K) (H:=H) (r:=.bool (kwF kwds s)) hs rfl rfl hK;have step:∀ (w:List UInt8) (ws:List (List UInt8)) (rest:Prop),(Out H.length K (.bool (kwF ws s)) H→rest)→Out H.length K (.bool (kwF (w::ws) s)) H →
   zab .eql false (.str s) (.str w) λt=>zag t (zbs t H (Out H.length K)) rest:=by
  intro w ws rest h h';simp only[kwF,List.any_cons]at h h';cases e:(s == w) with
  |true=>simpa[zbs,e]using h'
  |false=>rw[e,bh]at h';simpa[zbs,e]using h h'
 unfold zCL
 revert hO
 unfold kwds
 iterate 27 refine step _ _ _ ?_
 intro h';simp only[kwF,List.any_cons,List.any_nil,cr]at h';cases e:(s == [119,114,105,116,101]) <;> rw[e]at h' <;> simpa[zbs,e]using h'
theorem zHx(s:List UInt8)(H:zaa)(K:AV→zaa→Prop)(hK:K (.bool (kwF kwds s)) H):ACalls tP zkm [.str s] H K:=by
 refine ACalls.out (zOR λhs=>?_);have hO:=zbB (K:=K) (H:=H) (r:=.bool (kwF kwds s)) hs rfl rfl hK;have e:zBU (.str s) H (Out H.length K)=ztk (.str s) (.sl (kwds.map λw=>[.str w]) .full) (.int .i64 0) H (Out H.length K):=rfl;rw[e];have hlen:kwds.length=28:=rfl;generalize kwds=ws at *;refine zOP (Inv:=λq t4 H'=>∃i:Nat,i≤ws.length∧q=ws.length-i∧t4=.int .i64 i∧kwF (ws.drop i) s=kwF ws s∧H'=H) ws.length ?_ ?_
 ·intro _;exact⟨0,by omega,by omega,rfl,by simp,rfl⟩
 ·rintro q t8 H' ⟨i,hi,rfl,rfl,ho,rfl⟩ hsc _ hsF Kb hKb;by_cases hlt:i<ws.length
  ·rw[af hlt]at ho;simp only[kwF,List.any_cons]at ho;cases hz:(ws[i] == s) with
   |true=>
    have hz':(s == ws[i])=true:=by rw[aY]at hz ⊢;exact hz.symm
    rw[hz',dB]at ho;simp[zmC,hlt,hz];unfold kwF at hO;rw[←ho]at hO;exact hO
   |false=>
    have hz':(s == ws[i])=false:=by rw[beq_eq_false_iff_ne]at hz ⊢;exactλh=>hz h.symm
    rw[hz',bh]at ho;simp[zmC,hlt,hz];rw[zaz (by omega) (by omega)];refine hKb _ _ ⟨ws.length-(i+1),by omega,Back.here (aa _) hs ?_ ⟨_,rfl,i+1,by omega,rfl,by simp,ho,rfl⟩⟩;simp[zmD,AV.sc,AV.scV,AV.scA,AV.scB]
  ·simp[zmC,hlt];obtain rfl:i=ws.length:=by omega
   rw[au]at ho;rw[←ho]at hO;exact hO
theorem zwm{b:UInt8}(h:za8 b=true):48≤(b.toNat:Int)∧(b.toNat:Int)≤57:=by simpa[za8]using h
theorem zJh(s:List UInt8)(hd:∀b∈s,za8 b=true)(hl:s.length≤1000000)(H:zaa)(K:AV→zaa→Prop)(hK:K (.bool (zb9 s 0)) H):ACalls tP zit [.str s] H K:=by
 refine ACalls.out (zRe λhs=>?_);have hO:=zbB (K:=K) (H:=H) (r:=.bool (zb9 s 0)) hs rfl rfl hK;simp[zCN];refine zRc (Inv:=λq t3 t7 H'=>∃(i:Nat) (n:Int),i≤s.length∧q=s.length-i∧t7=.int .i64 i∧t3=.int .i64 n∧0≤n∧n≤1000000∧zb9 (s.drop i) n=zb9 s 0∧H'=H) s.length ?_ ?_
 ·intro _;exact⟨0,0,by omega,by omega,rfl,rfl,by omega,by omega,by simp,rfl⟩
 ·rintro q t3 t7 H' ⟨i,n,hi,rfl,rfl,rfl,hn0,hn1,ho,rfl⟩ hsc _ hsF Kb hKb;by_cases hlt:i<s.length
  ·have hb:=zwm (hd s[i] (ae hlt));rw[af hlt,zb9]at ho;simp[ztT,hlt];rw[IntWalk.u8_in _ (by omega),zaz (n:=n*10) (by omega) (by omega),zaz (n:=(s[i].toNat:Int)-48) (by omega) (by omega),zaz (by omega) (by omega),zaz (by omega) (by omega)];by_cases hg:1000000<n*10+((s[i].toNat:Int)-48)
   ·rw[aB hg]at ho;have hg':decide (1000000<n*10+((s[i].toNat:Int)-48))=true:=by simpa using hg
    rw[←ho]at hO;rw[hg'];simpa using hO
   ·rw[ap hg]at ho;have hg':decide (1000000<n*10+((s[i].toNat:Int)-48))=false:=by simpa using hg
    rw[hg'];simp only[zv4,aD,aT];refine hKb _ _ ⟨s.length-(i+1),by omega,Back.here (aa _) hs ?_ ⟨_,_,rfl,i+1,_,by omega,rfl,by simp,rfl,by omega,by omega,ho,rfl⟩⟩;simp[znc,AV.sc,AV.scV,AV.scA,AV.scB]
  ·simp[ztT,hlt];obtain rfl:i=s.length:=by omega
   rw[au,zb9]at ho;rw[←ho]at hO;exact hO
theorem zyH(cl:UInt8→Bool)(f:FuncId)(hcl:zdE tP f=true)(hf:∀(b:UInt8) (H:zaa) (K:AV→zaa→Prop),K (.bool (cl b)) H→ACalls tP f [.int .u8 b.toNat] H K)(s:List UInt8)(hl:s.length≤1000000)(H:zaa)(K:AV→zaa→Prop)(hK:K (.str (s.takeWhile cl)) H):ACalls tP zkx [.str s,.fn f []] H K:=by
 refine ACalls.out (zQZ λhs=>?_);have hO:=zbB (K:=K) (H:=H) (r:=.str (s.takeWhile cl)) hs rfl rfl hK;simp[zCI];refine zQX (Inv:=λq t5 H'=>∃i:Nat,i≤s.length∧q=s.length-i∧t5=.int .i64 i∧s.take i++(s.drop i).takeWhile cl=s.takeWhile cl∧H'=H) s.length ?_ ?_
 ·intro _;exact⟨0,by omega,by omega,rfl,by simp,rfl⟩
 ·rintro q t5 H' ⟨i,hi,rfl,rfl,ho,rfl⟩ hsc _ hsF Kb hKb;by_cases hlt:i<s.length
  ·rw[af hlt,cQ]at ho;simp[ztR,hlt];simp only[aCallV,hcl,aE];refine hf _ _ _ ?_;cases hc:cl s[i] with
   |true=>rw[hc,aB rfl,List.append_cons,←aj hlt]at ho;simp;rw[zaz (by omega) (by omega)];refine hKb _ _ ⟨s.length-(i+1),by omega,Back.here (aa _) hs ?_ ⟨_,rfl,i+1,by omega,rfl,by simp,ho,rfl⟩⟩;simp[zna,AV.sc,AV.scV,AV.scA,AV.scB]
   |false=>rw[hc,ap (by simp),aE]at ho;rw[←ho]at hO;simp[hi];exact hO
  ·simp[ztR,hlt];obtain rfl:i=s.length:=by omega
   rw[au,List.takeWhile_nil,aE,aw]at ho;rw[←ho]at hO;simpa using hO
theorem zKF(s:List UInt8)(hd:∀b∈s,za8 b=true)(hl:s.length≤1000000)(H:zaa)(K:AV→zaa→Prop)(hK:∀n,K (.tup [.int .i64 n,.bool (zb9 s 0)]) H):ACalls tP zhb [.str s] H K:=by
 refine ACalls.out (zOX λhs=>?_);have hO:∀n,Out H.length K (.tup [.int .i64 n,.bool (zb9 s 0)]) H:=λn=>Out.tup0 hs (hK n) ⟨zbN rfl rfl,zbN rfl rfl,trivial⟩;simp only[zBV];refine zOV (Inv:=λq t3 t7 H'=>∃(i:Nat) (n:Int),i≤s.length∧q=s.length-i∧t7=.int .i64 i∧t3=.int .i64 n∧0≤n∧n≤1000000∧zb9 (s.drop i) n=zb9 s 0∧H'=H) s.length ?_ ?_
 ·intro _;exact⟨0,0,by omega,by omega,rfl,rfl,by omega,by omega,by simp,rfl⟩
 ·rintro q t3 t7 H' ⟨i,n,hi,rfl,rfl,rfl,hn0,hn1,ho,rfl⟩ hsc _ hsF Kb hKb;by_cases hlt:i<s.length
  ·have hb:=zwm (hd s[i] (ae hlt));rw[af hlt,zb9]at ho;simp[ztl,hlt];rw[IntWalk.u8_in _ (by omega),zaz (n:=n*10) (by omega) (by omega),zaz (n:=(s[i].toNat:Int)-48) (by omega) (by omega),zaz (by omega) (by omega),zaz (by omega) (by omega)];by_cases hg:1000000<n*10+((s[i].toNat:Int)-48)
   ·rw[aB hg]at ho;have hg':decide (1000000<n*10+((s[i].toNat:Int)-48))=true:=by simpa using hg
    rw[←ho]at hO;rw[hg'];simpa[AV.isV]using hO 0
   ·rw[ap hg]at ho;have hg':decide (1000000<n*10+((s[i].toNat:Int)-48))=false:=by simpa using hg
    rw[hg'];simp only[zv4,aD,aT];refine hKb _ _ ⟨s.length-(i+1),by omega,Back.here (aa _) hs ?_ ⟨_,_,rfl,i+1,_,by omega,rfl,by simp,rfl,by omega,by omega,ho,rfl⟩⟩;simp[zmF,AV.sc,AV.scV,AV.scA,AV.scB]
  ·simp[ztl,hlt,AV.isV];obtain rfl:i=s.length:=by omega
   rw[au,zb9]at ho;rw[←ho]at hO;exact hO n
theorem zKb(b:UInt8)(r:List UInt8):(b::r).take 1=[b]:=by simp
theorem zrt{s:List UInt8}(h:¬ 2≤s.length):zdw s=false:=by
 match s,h with
 |[],_=>rfl
 |[b],_=>simp[zdw]
 |_::_::_,h=>simp at h
theorem zzb(b:UInt8)(r:List UInt8)(h:zdw (b::r)=false):sgn (b::r)=if sgns.contains b=true then 1 else 0:=by simp[sgn,h]
theorem zJa(b:UInt8)(r:List UInt8)(H:zaa)(K:AV→zaa→Prop)(hK:K (.str ((b::r).take (sgn (b::r)))) H):ACalls tP zqH [.str (b::r)] H K:=by
 refine ACalls.out (zRi λhs=>?_);have hO:=zbB (K:=K) (H:=H) (r:=.str ((b::r).take (sgn (b::r)))) hs rfl rfl hK;have one:zdw (b::r)=false→znd (.str (b::r)) H (Out H.length K):=by
  intro h2;rw[zzb b r h2]at hO;have hO:Out H.length K (.str (if sgns.contains b=true then [b] else [])) H:=by cases hc:sgns.contains b <;> rw[hc]at hO <;> simpa using hO
  have step:∀ (c:UInt8) (cs:List UInt8) (rest:Prop),(Out H.length K (.str (if cs.contains b=true then [b] else [])) H→rest)→Out H.length K (.str (if (c::cs).contains b=true then [b] else [])) H →
    zab .eql false (.str [b]) (.str [c]) λt=>zag t (zcA (.str (b::r)) t H (Out H.length K)) rest:=by
   intro c cs rest h h';rw[cY]at h';cases e:(b == c) with
   |true=>rw[e]at h';simpa[zcA,e]using h'
   |false=>rw[e,bh]at h';simpa[zcA,e]using h h'
  unfold znd;simp only[zFD,zFq,zFp,Int.toNat_one,zKb,aU];refine⟨by decide,⟨by omega,by simp⟩,?_⟩
  revert hO
  unfold sgns
  iterate 12 refine step _ _ _ ?_
  intro h';rw[cY]at h';cases e:(b == 95) <;> rw[e]at h' <;> simpa[zcA,e]using h'
 by_cases hl:2≤(b::r).length
 ·have hl':(2:Int)≤r.length+1:=by simp only[List.length_cons]at hl;omega
  have hl2:1≤r.length:=by simp only[List.length_cons]at hl;omega
  cases h2:zdw (b::r) with
  |true=>
   have h3:sgn (b::r)=2:=by simp[sgn,h2]
   rw[h3]at hO;unfold zdw at h2;simp only[List.take_succ_cons]at h2 hO;cases e1:(b::List.take 1 r == [45,62]) with
   |true=>simpa[zhJ,hl',hl2,zgt,e1]using hO
   |false=>
    cases e2:(b::List.take 1 r == [60,61]) with
    |true=>simpa[zhJ,hl',hl2,zgt,e1,e2]using hO
    |false=>rw[e1,e2]at h2;simp only[bh]at h2;simpa[zhJ,hl',hl2,zgt,e1,e2,h2]using hO
  |false=>have ho:=one h2;unfold zdw at h2;simp only[List.take_succ_cons]at h2;rw[bw,bw]at h2;simpa[zhJ,hl',hl2,zgt,h2.1.1,h2.1.2,h2.2]using ho
 ·have ho:=one (zrt hl);have:¬ ((2:Int)≤r.length+1):=by simp only[List.length_cons]at hl;omega
  simpa[zhJ,this]using ho
theorem zI9(b:UInt8)(r:List UInt8)(H:zaa)(K:AV→zaa→Prop)(hK:K (.int .i64 (sgn (b::r))) H):ACalls tP zqv [.str (b::r)] H K:=by
 refine ACalls.out (zO3 λhs=>?_);have hO:=zbB (K:=K) (H:=H) (r:=.int .i64 (sgn (b::r))) hs rfl rfl hK;have one:zdw (b::r)=false→zto (.str (b::r)) (.str sgns) (.int .i64 0) H (Out H.length K):=by
  intro h2;rw[zzb b r h2]at hO;have hlen:sgns.length=13:=rfl;generalize sgns=ws at *;refine zO1 (Inv:=λq t4 H'=>∃i:Nat,i≤ws.length∧q=ws.length-i∧t4=.int .i64 i∧(ws.drop i).contains b=ws.contains b∧H'=H) ws.length ?_ ?_
  ·intro _;exact⟨0,by omega,by omega,rfl,by simp,rfl⟩
  ·rintro q t8 H' ⟨i,hi,rfl,rfl,ho,rfl⟩ hsc _ hsF Kb hKb;by_cases hlt:i<ws.length
   ·rw[af hlt,cY]at ho;have e1:=zcy b ws[i];cases hz:(b == ws[i]) with
    |true=>rw[hz,dB]at ho;rw[←ho]at hO;simpa[zmH,hlt,e1,hz]using hO
    |false=>rw[hz,bh]at ho;simp[zmH,hlt,e1,hz];rw[zaz (by omega) (by omega)];refine hKb _ _ ⟨ws.length-(i+1),by omega,Back.here (aa _) hs ?_ ⟨_,rfl,i+1,by omega,rfl,by simp,ho,rfl⟩⟩;simp[zmI,AV.sc,AV.scV,AV.scA,AV.scB]
   ·obtain rfl:i=ws.length:=by omega
    rw[au]at ho;rw[←ho]at hO;simpa[zmH,hlt]using hO
 by_cases hl:2≤(b::r).length
 ·have hl':(2:Int)≤r.length+1:=by simp only[List.length_cons]at hl;omega
  have hl2:1≤r.length:=by simp only[List.length_cons]at hl;omega
  cases h2:zdw (b::r) with
  |true=>
   have h3:sgn (b::r)=2:=by simp[sgn,h2]
   rw[h3]at hO;unfold zdw at h2;simp only[List.take_succ_cons]at h2 hO;cases e1:(b::List.take 1 r == [45,62]) with
   |true=>simpa[zhB,hl',hl2,e1]using hO
   |false=>
    cases e2:(b::List.take 1 r == [60,61]) with
    |true=>simpa[zhB,hl',hl2,e1,e2]using hO
    |false=>rw[e1,e2]at h2;simp only[bh]at h2;simpa[zhB,hl',hl2,e1,e2,h2]using hO
  |false=>have ho:=one h2;unfold sgns at ho;unfold zdw at h2;simp only[List.take_succ_cons]at h2;rw[bw,bw]at h2;simpa[zhB,hl',hl2,h2.1.1,h2.1.2,h2.2]using ho
 ·have ho:=one (zrt hl);unfold sgns at ho;have:¬ ((2:Int)≤r.length+1):=by simp only[List.length_cons]at hl;omega
  simpa[zhB,this]using ho

def Tk.cs(t:Tk):List AV:=[.int .i64 t.kind,.str t.text,.int .i64 t.pos]
def zk8(kw:List UInt8→Bool)(b:UInt8)(r:List UInt8)(i:Nat):AV:=
 match tok kw b r with
 |.error e=>.tup [.agg [.int .i64 0,.str [],.int .i64 0],.int .i64 e]
 |.ok (k,n)=>.tup [.agg (Tk.cs ⟨k,(b::r).take n,i⟩),.int .i64 0]
theorem zlk{p:UInt8→Bool}(b:UInt8)(r:List UInt8):(b::r).take ((r.takeWhile p).length+1)=b::r.takeWhile p:=by
 rw[List.take_succ_cons];congr 1;induction r with
 |nil=>simp
 |cons c r ih=>by_cases h:p c=true <;> simp[h,ih]
theorem zHy:zdE tP zis=true:=by kernel_rfl
theorem zHz:zdE tP zf6=true:=by kernel_rfl
theorem zyq{H J:zaa}{K:AV→zaa→Prop}{k p e:Int}{t:List UInt8}(hs:HSc H)(h:K (.tup [.agg [.int .i64 k,.str t,.int .i64 p],.int .i64 e]) H):
  Out H.length K (.tup [.agg [.int .i64 k,.str t,.int .i64 p],.int .i64 e]) (H++J):=Out.tup hs h ⟨zbN rfl rfl,zbN rfl rfl,trivial⟩
def zm8(t4 t6:AV)(H:zaa)(K:AV→zaa→Prop):Prop:=
 zaf 1 t6 λt69=>
 zae false 1 t69 H λt70=>
 ACalls tP zit [t70] H λt71 H=>
 aUn .not t71 λt72=>
 zag t72
 (zar [(.int .i64 0),(.str []),(.int .i64 0)] [(0,1),(1,1),(2,1)] [] λt73=>
 zam 3 t4 t73 H λH=>
 zae true 3 t4 H λr0=>
 zaX [r0,(.int .i64 9)] (K · H))
 (zhI t4 t6 H K)
theorem zIX(s:List UInt8)(hl:s.length≤1000000)(i:Nat)(hi:i<s.length)(H:zaa)(K:AV→zaa→Prop)(hK:K (zk8 (kwF kwds) s[i] (s.drop (i+1)) i) H):ACalls tP zqF [.str s,.int .i64 i] H K:=by
 refine ACalls.out (zQL λhs=>?_);have hdr:=af hi;have hrl:(s.drop i).length≤1000000:=by simp;omega
 generalize hb:s[i]=b at *;generalize hr:s.drop (i+1)=r at *;have hb':s[i]?.getD 0=b:=by simp[hi,hb]
 have post:∀(k:Int) (n:Nat),tok (kwF kwds) b r=.ok (k,n)→∀t,(b::r).take n=t→zhI (.ptr H.length 0) (.ptr (H.length+1) 0) (H++[.cells [.int .i64 0,.str [],.int .i64 0],.cells [.int .i64 k,.str t,.int .i64 i]]) (Out H.length K):=by intro k n ht t hte;subst hte;simp[zk8,ht,Tk.cs]at hK;simp[zhI,zCE,AV.known,AV.isV];exact zyq hs hK
 have bad:∀e:Int,tok (kwF kwds) b r=.error e→∀J,Out H.length K (.tup [.agg [.int .i64 0,.str [],.int .i64 0],.int .i64 e]) (H++J):=by intro e ht J;simp[zk8,ht]at hK;exact zyq hs hK
 have hi':=bH hi;by_cases hLU:(zbT b || bUp b)=true
 ·have hin:bIn b=true:=by simp[bIn,hLU]
  simp[ztQ,hi,hb,hi',zar,zaL,AV.known];refine zp2 b _ _ ?_;have hc:zbT b=true∨(zbT b=false∧bUp b=true):=by cases hL:zbT b <;> simp[hL]at hLU ⊢;exact hLU
  have hpost:=λk=>post k ((r.takeWhile bIn).length+1);simp only[tok,hLU,cO,zlk]at hpost;rcases hc with hL|⟨hL,hU⟩
  case' inl=>simp[hL]
  case' inr=>simp[hL];refine zlt b _ _ ?_;simp[hU]
  all_goals
   rw[hdr];refine zyH bIn zis zHy zKN (b::r) (by rw[←hdr];exact hrl) _ _ ?_;simp[hin,AV.known];by_cases hn:(r.takeWhile bIn).length+1>24
   ·have hn':(24:Int)<(r.takeWhile bIn).length+1:=by omega
    have:=bad 9 (by simp only[tok,hLU,cO];rw[aB hn]);simp[hn',AV.known,AV.isV];exact this _
   ·have hn':¬ (24:Int)<(r.takeWhile bIn).length+1:=by omega
    simp[hn'];refine zlt b _ _ ?_;rw[ap hn]at hpost;cases hU:bUp b with
    |true=>simp[AV.known,zhH];exact hpost 2 (by simp[hU]) _ rfl
    |false=>
     simp[AV.known];refine zHw _ _ _ ?_;cases hkw:kwF kwds (b::r.takeWhile bIn) with
     |true=>simp[AV.known,zhH];exact hpost 4 (by simp[hU,hkw]) _ rfl
     |false=>simp[AV.known,zhH];exact hpost 1 (by simp[hU,hkw]) _ rfl
 ·have hL:zbT b=false:=by simp at hLU;exact hLU.1
  have hU:bUp b=false:=by simp at hLU;exact hLU.2
  simp[ztQ,hi,hb,zar,zaL,AV.known];refine zp2 b _ _ ?_;simp[hL];refine zlt b _ _ ?_;simp[hU];refine zpz b _ _ ?_;cases hD:za8 b with
  |true=>
   simp[hi',AV.known];rw[hdr];refine zyH za8 zf6 zHz zpz (b::r) (by rw[←hdr];exact hrl) _ _ ?_;have e1:((b.toNat:Int) == 48)=(b == 48):=zcy b 48;have htk:tok (kwF kwds) b r=if (b == 48 && decide ((r.takeWhile za8).length+1>1))=true then .error 2 else if zb9 (b::r.takeWhile za8) 0=true then .ok (3,(r.takeWhile za8).length+1) else .error 9:=by simp only[tok,hLU,hD,cO,zlk];rfl
   have hsm:∀J,ACalls tP zit [.str (b::r.takeWhile za8)] (H++J) λt H'=>t=.bool (zb9 (b::r.takeWhile za8) 0)∧H'=H++J:=by
    intro J;refine zJh _ ?_ ?_ _ _ ⟨rfl,rfl⟩
    ·intro c hc;rcases aZ.1 hc with rfl | hc
     ·exact hD
     ·exact am.1 (cT) c hc
    ·have h1:(r.takeWhile za8).length≤r.length:=(dj _).length_le;rw[hdr]at hrl;simp at hrl ⊢;omega
   simp[hD,AV.known,e1];have hpost:=post 3 ((r.takeWhile za8).length+1);rw[zlk]at hpost;rw[htk]at hpost bad;have last:∀J,(¬(b == 48 && decide ((r.takeWhile za8).length+1>1))=true)→J=[.cells [.int .i64 0,.str [],.int .i64 0],.cells [.int .i64 3,.str (b::r.takeWhile za8),.int .i64 i]]→zm8 (.ptr H.length 0) (.ptr (H.length+1) 0) (H++J) (Out H.length K):=by
    rintro J hne rfl;rw[ap hne]at hpost bad;simp[zm8];refine(hsm _).mono ?_;rintro _ _ ⟨rfl,rfl⟩;cases hv:zb9 (b::r.takeWhile za8) 0 with
    |true=>simp;exact hpost (by simp[hv]) _ rfl
    |false=>simp[AV.known,zar,zaL,AV.isV];exact bad 9 (by simp[hv]) _
   cases hz:(b == 48) with
   |true=>
    simp[hz];by_cases hn:1<(r.takeWhile za8).length+1
    ·have hn':(1:Int)<(r.takeWhile za8).length+1:=by omega
     have hd:decide ((r.takeWhile za8).length+1>1)=true:=bf hn;have:=bad 2 (by rw[hz,hd];rfl);simp[hn',AV.known,AV.isV];exact this _
    ·have hn':¬ (1:Int)<(r.takeWhile za8).length+1:=by omega
     have hd:decide ((r.takeWhile za8).length+1>1)=false:=bi hn;have:=last _ (by rw[hz,hd];decide) rfl;simp[zm8,zar,zaL]at this;simp[hn'];exact this
   |false=>have:=last _ (by simp[hz]) rfl;simp[zm8,zar,zaL]at this;simp[hz];exact this
  |false=>
   simp[hi',AV.known];rw[hdr];refine zJa b r _ _ ?_;simp[AV.known];have htk:tok (kwF kwds) b r=if sgn (b::r)=0 then .error 2 else .ok (5,sgn (b::r)):=by simp only[tok,hLU,hD];rfl
   by_cases hz:sgn (b::r)=0
   ·have:=bad 2 (by rw[htk,aB hz]);simp[hz,AV.isV];exact this _
   ·have:=post 5 (sgn (b::r)) (by rw[htk,ap hz]) _ rfl;have he:(List.take (sgn (b::r)) (b::r)).isEmpty=false:=by
     cases h:sgn (b::r) with
     |zero=>exact absurd h hz
     |succ n=>simp
    simp[he];exact this
def cat(l:List Tk):Except (Nat × Int) (List Tk)→Except (Nat × Int) (List Tk)
 |.error e=>.error e
 |.ok m=>.ok (l++m)
theorem zwx(l m:List Tk)(r:Except (Nat×Int) (List Tk)):cat l (cat m r)=cat (l++m) r:=by cases r <;> simp[cat]
@[simp] theorem yac(r:Except (Nat×Int) (List Tk)):cat [] r=r:=by cases r <;> rfl
def zeQ(r:List UInt8):List UInt8:=r.dropWhile (· != 10)
def zeR(r:List UInt8):Nat:=(r.takeWhile (· != 10)).length
section
variable (kw:List UInt8→Bool)
theorem zrL(p:Nat):zbn kw [] p=.ok [⟨6,[],p⟩]:=by unfold zbn;rfl
theorem zzI{b:UInt8}(h:zdr b=true)(r:List UInt8)(p:Nat):zbn kw (b::r) p=zbn kw r (p+1):=by
 conv=>lhs;unfold zbn
 simp[h]
theorem zzK{b:UInt8}(h0:zdr b=false)(h:(b == 35)=true)(r:List UInt8)(p:Nat):zbn kw (b::r) p=zbn kw (zeQ r) (p+1+zeR r):=by
 conv=>lhs;unfold zbn
 simp only[h0,h,aD,aT,cO];rfl
theorem zzJ{b:UInt8}(h0:zdr b=false)(h:(b == 35)=false){r:List UInt8}{p:Nat}{e:Int}(ht:tok kw b r=.error e):zbn kw (b::r) p=.error (p,e):=by
 conv=>lhs;unfold zbn
 simp only[h0,h,aD,aT,ht]
theorem zzL{b:UInt8}(h0:zdr b=false)(h:(b == 35)=false){r:List UInt8}{p:Nat}{k:Int}{n:Nat}(ht:tok kw b r=.ok (k,n)):
  zbn kw (b::r) p=cat [⟨k,(b::r).take n,p⟩] (zbn kw ((b::r).drop n) (p+n)):=by
 conv=>lhs;unfold zbn
 have hn:=zrK ht;obtain⟨m,rfl⟩:∃m,n=m+1:=⟨n-1,by omega⟩;simp only[h0,h,aD,aT,ht,bo,List.drop_succ_cons];cases zbn kw (r.drop m) (p+(m+1)) <;> rfl
end
theorem zlb{b:UInt8}(h:(b == 10)=false)(r:List UInt8):zeQ (b::r)=zeQ r∧zeR (b::r)=1+zeR r:=by
 have hb:b≠10:=by simpa using h
 constructor
 ·simp[zeQ,hb]
 ·simp[zeR,hb];omega
theorem zzf{b:UInt8}(h:(b == 10)=true)(r:List UInt8):zeQ (b::r)=b::r∧zeR (b::r)=0:=by
 have hb:b=10:=by simpa using h
 constructor
 ·simp[zeQ,hb]
 ·simp[zeR,hb]
theorem skipC_nil:zeQ []=[]∧zeR []=0:=⟨rfl,rfl⟩
theorem zrJ{kw:List UInt8→Bool}{b:UInt8}{r:List UInt8}{k:Int}{n:Nat}(h:tok kw b r=.ok (k,n)):n≤(b::r).length:=by
 have tw:∀p:UInt8→Bool,(r.takeWhile p).length≤r.length:=λp=>(dj _).length_le;unfold tok at h;split at h
 ·simp only at h;split at h <;> simp at h;have:=tw bIn;simp;omega
 ·split at h
  ·simp only at h;split at h
   ·simp at h
   ·split at h <;> simp at h;have:=tw za8;simp;omega
  ·simp only at h;split at h <;> simp at h
   obtain⟨_,rfl⟩:=h;unfold sgn;split
   ·rename_i h2;by_cases hl:2≤(b::r).length
    ·exact hl
    ·rw[zrt hl]at h2;cases h2
   ·split
    ·simp
    ·split <;> simp
theorem zKd{kw:List UInt8→Bool}{b:UInt8}{r:List UInt8}{e:Int}(h:tok kw b r=.error e):e=2∨e=9:=by
 unfold tok at h;split at h
 ·simp only at h;split at h <;> simp at h;omega
 ·split at h
  ·simp only at h;split at h
   ·simp at h;omega
   ·split at h <;> simp at h;omega
  ·simp only at h;split at h <;> simp at h;omega
def zfx(s:List UInt8):AV:=
 if s.length>16384 then .tup [.sl [] .none,.int .i64 0,.int .i64 9] else
 match zbn (kwF kwds) s 0 with
 |.error (p,e)=>.tup [.sl [] .none,.int .i64 p,.int .i64 e]
 |.ok l=>.tup [.sl (l.map Tk.cs) .none,.int .i64 0,.int .i64 0]
theorem two{H:zaa}{x y:AB}:H++[x,y]=(H++[x])++[y]:=by simp
theorem zyp{H J:zaa}{K:AV→zaa→Prop}{p e:Int}(hs:HSc H)(hK:K (.tup [.sl [] .none,.int .i64 p,.int .i64 e]) H):Out H.length K (.tup [.snil,.int .i64 p,.int .i64 e]) (H++J):=
 Out.tup hs hK ⟨zhu,zbN rfl rfl,zbN rfl rfl,trivial⟩
theorem zJT(s:List UInt8)(H:zaa)(K:AV→zaa→Prop)(hK:K (zfx s) H):ACalls tP zqB [.str s] H K:=by
 refine ACalls.out (zQp λhs=>?_);by_cases hl:s.length>16384
 ·have hl':(16384:Int)<s.length:=by omega
  simp[ztH,hl',AV.isV];unfold zfx at hK;rw[aB hl]at hK;exact Out.tup0 hs hK ⟨zhu,zbN rfl rfl,zbN rfl rfl,trivial⟩
 have hl':¬(16384:Int)<s.length:=by omega
 unfold zfx at hK;rw[ap hl]at hK;simp[ztH,hl'];have hperm:∀n,HSc (H++[.perm zfh 3 n]):=λn=>hs.append rfl;unfold zm5;refine ALoop.own 5 zfh 3 rfl ?_;show zm5 (.str s) (.sl [] (.own H.length)) (.int .i64 0) (H++[.perm zfh 3 0]) (Out H.length K);refine zQm (Inv:=λq t5 t6 H'=>∃(i:Nat) (l:List Tk),i≤s.length∧l.length≤i∧q=s.length-i∧t6=.int .i64 i∧t5=.sl (l.map Tk.cs) (.own H.length)∧H'=H++[.perm zfh 3 l.length]∧cat l (zbn (kwF kwds) (s.drop i) i)=zbn (kwF kwds) s 0) s.length ?_ ?_
 ·intro _;exact⟨0,[],by omega,by simp,by omega,rfl,rfl,rfl,by simp⟩
 ·rintro q t5 t6 H' ⟨i,l,hi,hll,rfl,rfl,rfl,rfl,ho⟩ hsc hlen hsF Kb hKb;have done:cat l (.ok [⟨6,[],s.length⟩])=zbn (kwF kwds) s 0→zm4 (.str s) (.sl (l.map Tk.cs) (.own H.length)) (H++[.perm zfh 3 l.length]) (Out H.length K):=by intro ho;rw[←ho]at hK;simp[zm4,zCu,zar,zaL,zau,za4,plain,AV.pd,zax,za6,zaZ,AV.isV];refine⟨by omega,?_⟩;simp[cat,Tk.cs]at hK;exact Out.tup hs hK ⟨slV,zbN rfl rfl,zbN rfl rfl,trivial⟩
  by_cases hlt:i<s.length
  ·have hdr:=af hlt;simp[ztI,hlt];refine zF7 _ _ _ ?_;have e35:((s[i].toNat:Int) == 35)=(s[i] == 35):=zcy s[i] 35;cases hbl:zdr s[i] with
   |true=>rw[hdr,zzI _ hbl]at ho;simp[zhE];rw[zaz (by omega) (by omega)];refine hKb _ _ ⟨s.length-(i+1),by omega,Back.here (by simp) (hperm _) ?_ ⟨_,_,rfl,i+1,l,by omega,by omega,rfl,by simp,rfl,rfl,ho⟩⟩;simp[zhD,AV.sc,AV.scV,AV.scA,AV.scB]
   |false=>
    simp[e35];cases hsh:(s[i] == 35) with
    |true=>
     simp;rw[hdr,zzK _ hbl hsh]at ho;have h10:(s[i] == 10)=false:=by rw[aY]at hsh;rw[hsh];rfl
     obtain⟨c1,c2⟩:=zlb h10 (s.drop (i+1));rw[ag,←c1,←c2,←hdr]at ho;refine zQn (Inv:=λq t6 H'=>∃(j:Nat),i≤j∧j≤s.length∧q=s.length-j∧t6=.int .i64 j∧H'=H++[.perm zfh 3 l.length]∧cat l (zbn (kwF kwds) (zeQ (s.drop j)) (j+zeR (s.drop j)))=zbn (kwF kwds) s 0) (s.length-i) ?_ ?_
     ·intro _;exact⟨i,by omega,by omega,by omega,rfl,rfl,ho⟩
     ·rintro q t6 H' ⟨j,hij,hj,rfl,rfl,rfl,ho⟩ hsc hlen hsF Kb9 hKb9;by_cases hjlt:j<s.length
      ·have hdrj:=af hjlt;have e10:((s[j].toNat:Int) == 10)=(s[j] == 10):=zcy s[j] 10;simp[ztJ,hjlt,e10];cases hz:(s[j] == 10) with
       |true=>
        obtain⟨d1,d2⟩:=zzf hz (s.drop (j+1));rw[hdrj,d1,d2,←hdrj,Nat.add_zero]at ho;have hij':i≠j:=by rintro rfl;rw[h10]at hz;cases hz
        simp[zhE];refine hKb _ _ ⟨s.length-j,by omega,Back.here (by simp) (hperm _) ?_ ⟨_,_,rfl,j,l,by omega,by omega,rfl,by simp,rfl,rfl,ho⟩⟩;simp[zhD,AV.sc,AV.scV,AV.scA,AV.scB]
       |false=>obtain⟨d1,d2⟩:=zlb hz (s.drop (j+1));rw[hdrj,d1,d2,←ag]at ho;simp;rw[zaz (by omega) (by omega)];refine hKb9 _ _ ⟨s.length-(j+1),by omega,Back.here (by simp) (hperm _) ?_ ⟨_,rfl,j+1,by omega,by omega,rfl,by simp,rfl,ho⟩⟩;simp[zm3,AV.sc,AV.scV,AV.scA,AV.scB]
      ·obtain rfl:j=s.length:=by omega
       simp[ztJ];rw[au,skipC_nil.1,skipC_nil.2,Nat.add_zero,zrL]at ho;exact done ho
    |false=>
     simp;refine zIX s (by omega) i hlt _ _ ?_;unfold zk8;cases ht:tok (kwF kwds) s[i] (s.drop (i+1)) with
     |error e=>
      rw[hdr,zzJ _ hbl hsh ht]at ho;have he:(e != 0)=true:=by rcases zKd ht with rfl|rfl <;> rfl
      rw[←ho]at hK;simp[AV.known,AV.isV,he];exact zyp hs hK
     |ok kn=>
      obtain⟨k,n⟩:=kn;rw[hdr,zzL _ hbl hsh ht,zwx,←hdr]at ho;have hn:=zrJ ht;rw[←hdr]at hn;simp at hn;have hn0:=zrK ht;simp[Tk.cs,AV.known,zau,za4,plain,AV.pd,zax,za6,zaZ,zhE];refine⟨by omega,?_⟩;rw[show min n (s.length-i)=n by omega,zaz (by omega) (by omega),two];refine hKb _ _ ⟨s.length-(i+n),by omega,Back.same (by simp) (hperm _) ?_ ⟨_,_,rfl,i+n,l++[⟨k,(s.drop i).take n,i⟩],by omega,by simp;omega,rfl,by simp,by simp[Tk.cs],by simp,?_⟩⟩
      ·simp[zhD,AV.sc,AV.scV,AV.scA,AV.scB]
      ·rw[cZ]at ho;exact ho
  ·obtain rfl:i=s.length:=by omega
   rw[au,zrL]at ho;simpa[ztI]using done ho
theorem zll(s:List UInt8)(i n:Nat):List.drop i (List.take (i+n) s)=List.take n (List.drop i s):=by rw[c0];congr 1;omega
def zhz(t0 t5 t6 t7 t8:AV)(H:zaa)(K:AV→zaa→Prop)(Kb5:List AV→zaa→Prop):Prop:=
 zab .gtr false t8 (.int .i64 24) λt118=>
 zag t118
 (zaX [.snil,t6,(.int .i64 9)] (K · H))
 (ACalls tP zha [t7] H λt121 H=>
 zag t121
 (zfF t0 t5 t6 t8 (.int .i64 2) H K Kb5)
 (zab .add false t6 t8 λt126=>
 za1 0 0 t0 (some t6) (some t126) λt127=>
 ACalls tP zkm [t127] H λt128 H=>
 zag t128
 (zfF t0 t5 t6 t8 (.int .i64 4) H K Kb5)
 (zfF t0 t5 t6 t8 (.int .i64 1) H K Kb5)))
section
variable (s:List UInt8) (hl:¬s.length>16384) (i:Nat) (hlt:i<s.length) (H:zaa) (l:List Tk) (hll:l.length≤i) (hperm:∀n,HSc (H++[.perm zbu 3 n])) (K:AV→zaa→Prop) (Kb:List AV→zaa→Prop)
include hl hlt hll hperm
theorem zKO(hLU:(zbT s[i] || bUp s[i])=true)(app:∀ (k:Int) (n:Nat),tok (kwF kwds) s[i] (s.drop (i+1))=.ok (k,n)→∀ t,(s.drop i).take n=t→ziX (.str s) (.sl (l.map Tk.cs++[[.int .i64 k,.str t,.int .i64 i]]) (.own H.length)) (.int .i64 i) (.int .i64 n) (H++[.perm zbu 3 (l.length+1)]) (Out H.length K) Kb)(bad:∀ e:Int,tok (kwF kwds) s[i] (s.drop (i+1))=.error e→Out H.length K (.tup [.snil,.int .i64 i,.int .i64 e]) (H++[.perm zbu 3 l.length])):
  zsa (.str s) (.sl (l.map Tk.cs) (.own H.length)) (.int .i64 i) (.int .u8 s[i].toNat) (.int .i64 1) (H++[.perm zbu 3 l.length]) (Out H.length K) Kb:=by
 refine zK6 (Inv:=λq t8 H'=>∃(j:Nat),i+j≤s.length∧0<j∧q=s.length-j∧t8=.int .i64 j∧H'=H++[.perm zbu 3 l.length]∧j+((s.drop (i+j)).takeWhile bIn).length=((s.drop (i+1)).takeWhile bIn).length+1) (s.length-1) ?_ ?_
 ·intro _;exact⟨1,by omega,by omega,by omega,rfl,rfl,by omega⟩
 ·rintro q t8 H' ⟨j,hij,hj0,rfl,rfl,rfl,hn⟩ hsc hlen hsF Kb18 hKb18;have w1:IntKind.i64.wrap ((i:Int)+j)=i+j:=zaz (by omega) (by omega);have w2:IntKind.i64.wrap ((j:Int)+1)=j+1:=zaz (by omega) (by omega);have fin:((s.drop (i+j)).takeWhile bIn).length=0→zhz (.str s) (.sl (l.map Tk.cs) (.own H.length)) (.int .i64 i) (.int .u8 s[i].toNat) (.int .i64 j) (H++[.perm zbu 3 l.length]) (Out H.length K) Kb:=by
   intro h0;rw[h0]at hn;have htk:tok (kwF kwds) s[i] (s.drop (i+1))=if j>24 then .error 9 else .ok (if bUp s[i]=true then 2 else if kwF kwds ((s.drop i).take j)=true then 4 else 1,j):=by rw[af hlt];simp only[tok,hLU,cO,←hn,Nat.add_zero]
   by_cases h24:j>24
   ·have h24':(24:Int)<j:=by omega
    rw[aB h24]at htk;simp[zhz,h24',AV.isV];exact bad 9 htk
   ·have h24':¬ (24:Int)<j:=by omega
    rw[ap h24]at htk;simp[zhz,h24'];refine zls _ _ _ ?_;have fin2:∀k,k=(if bUp s[i]=true then 2 else if kwF kwds ((s.drop i).take j)=true then 4 else 1:Int)→zfF (.str s) (.sl (l.map Tk.cs) (.own H.length)) (.int .i64 i) (.int .i64 j) (.int .i64 k) (H++[.perm zbu 3 l.length]) (Out H.length K) Kb:=by intro k hk;rw[←hk]at htk;have:=app k j htk _ rfl;simp[zfF,w1,w2,zar,zaL,zau,za4,plain,AV.pd,zax,za6,zaZ,zfG];refine⟨by omega,by omega,by omega,?_⟩;rw[show ((i:Int)+j).toNat=i+j by omega,zll];exact this
    cases hU:bUp s[i] with
    |true=>simp;exact fin2 2 (by simp[hU])
    |false=>
     simp[w1,w2];refine⟨by omega,by omega,?_⟩;rw[show ((i:Int)+j).toNat=i+j by omega,zll];refine zHx _ _ _ ?_;cases hkw:kwF kwds ((s.drop i).take j) with
     |true=>simp;exact fin2 4 (by simp[hU,hkw])
     |false=>simp;exact fin2 1 (by simp[hU,hkw])
  by_cases hjlt:i+j<s.length
  ·have e95:((s[i+j].toNat:Int) == 95)=(s[i+j] == 95):=zcy s[i+j] 95;have hjlt':(i+j:Int)<s.length:=by omega
   rw[af hjlt,cQ]at hn fin;have key:bIn s[i+j]=true→Kb18 (ziW (.str s) (.sl (l.map Tk.cs) (.own H.length)) (.int .i64 i) (.int .u8 s[i].toNat) (.int .i64 (j+1))) (H++[.perm zbu 3 l.length]):=by intro hbin;rw[hbin]at hn;simp at hn;refine hKb18 _ _ ⟨s.length-(j+1),by omega,Back.here (by simp) (hperm _) ?_ ⟨_,rfl,j+1,by omega,by omega,rfl,by simp,rfl,by rw[←ag];omega⟩⟩;simp[ziW,AV.sc,AV.scV,AV.scA,AV.scB]
   have no:bIn s[i+j]=false→zhz (.str s) (.sl (l.map Tk.cs) (.own H.length)) (.int .i64 i) (.int .u8 s[i].toNat) (.int .i64 j) (H++[.perm zbu 3 l.length]) (Out H.length K) Kb:=by intro hbin;rw[hbin]at fin;exact fin (by simp)
   have hget:s[((i:Int)+j).toNat]?.getD 0=s[i+j]:=by rw[show ((i:Int)+j).toNat=i+j by omega];simp[hjlt]
   unfold bIn at key no;simp[zr7,w1,w2,hjlt',hget];refine⟨by omega,?_⟩;refine zxL _ _ _ ?_;cases hL:zbT s[i+j] with
   |true=>simpa using key (by simp[hL])
   |false=>
    simp[w1,w2,hjlt',hget];refine⟨by omega,zls _ _ _ ?_⟩;cases hU:bUp s[i+j] with
    |true=>simpa using key (by simp[hU])
    |false=>
     simp[w1,w2,hjlt',hget];refine⟨by omega,zpy _ _ _ ?_⟩;cases hD:za8 s[i+j] with
     |true=>simpa using key (by simp[hD])
     |false=>
      simp[w1,w2,hjlt',hget,e95];refine⟨by omega,?_⟩;cases h95:(s[i+j] == 95) with
      |true=>simpa using key (by simp[h95])
      |false=>simpa[zhz,w1]using no (by simp[hL,hU,hD,h95])
  ·have hjlt':¬ (i+j:Int)<s.length:=by omega
   have:s.drop (i+j)=[]:=aK (by omega);rw[this]at fin;have:=fin rfl;simp[zr7,w1,w2,hjlt'];simpa[zhz,w1]using this
end
def zlB(t0 t5 t6 t8:AV)(H:zaa)(K:AV→zaa→Prop)(Kb5:List AV→zaa→Prop):Prop:=
 zab .add false t6 t8 λt172=>
 za1 0 0 t0 (some t6) (some t172) λt173=>
 ACalls tP zhb [t173] H λt174 H=>
 zaI t174 0 λt175=>
 zaI t174 1 λt176=>
 aUn .not t176 λt178=>
 zag t178
 (zaX [.snil,t6,(.int .i64 9)] (K · H))
 (zab .add false t6 t8 λt185=>
 za1 0 0 t0 (some t6) (some t185) λt186=>
 zar [(.int .i64 0),(.str []),(.int .i64 0)] [(0,1),(1,1),(2,1)] [(0,(.int .i64 3)),(1,t186),(2,t6)] λt188=>
 zau 3 [(.int .i64 0),(.str []),(.int .i64 0)] 1 [(0,t188)] λt189=>
 zax zbu 3 32 t5 t189 H λt190 H=>
 zfG t0 t190 t6 t8 H K Kb5)
def zhA(t0 t5 t6 t7 t8:AV)(H:zaa)(K:AV→zaa→Prop)(Kb5:List AV→zaa→Prop):Prop:=
 zab .gtr false t8 (.int .i64 1) λt161=>
 zac t161 true H (λK'=>K' t7 H) λt163 H=>
 zac t161 true H (λK'=>zab .eql false t163 (.int .u8 48) (K' · H)) λt164 H=>
 zak t161 t164 (.bool false) λt165=>
 zag t165
 (zaX [.snil,t6,(.int .i64 2)] (K · H))
 (zab .add false t6 t8 λt172=>
 za1 0 0 t0 (some t6) (some t172) λt173=>
 ACalls tP zhb [t173] H λt174 H=>
 zaI t174 0 λt175=>
 zaI t174 1 λt176=>
 aUn .not t176 λt178=>
 zag t178
 (zaX [.snil,t6,(.int .i64 9)] (K · H))
 (zab .add false t6 t8 λt185=>
 za1 0 0 t0 (some t6) (some t185) λt186=>
 zar [(.int .i64 0),(.str []),(.int .i64 0)] [(0,1),(1,1),(2,1)] [(0,(.int .i64 3)),(1,t186),(2,t6)] λt188=>
 zau 3 [(.int .i64 0),(.str []),(.int .i64 0)] 1 [(0,t188)] λt189=>
 zax zbu 3 32 t5 t189 H λt190 H=>
 zfG t0 t190 t6 t8 H K Kb5))
section
variable (s:List UInt8) (hl:¬s.length>16384) (i:Nat) (hlt:i<s.length) (H:zaa) (l:List Tk) (hll:l.length≤i) (hperm:∀n,HSc (H++[.perm zbu 3 n])) (K:AV→zaa→Prop) (Kb:List AV→zaa→Prop)
include hl hlt hll hperm
theorem zId(hLU:¬ (zbT s[i] || bUp s[i])=true)(hD:za8 s[i]=true)(app:∀ (k:Int) (n:Nat),tok (kwF kwds) s[i] (s.drop (i+1))=.ok (k,n)→∀ t,(s.drop i).take n=t→ziX (.str s) (.sl (l.map Tk.cs++[[.int .i64 k,.str t,.int .i64 i]]) (.own H.length)) (.int .i64 i) (.int .i64 n) (H++[.perm zbu 3 (l.length+1)]) (Out H.length K) Kb)(bad:∀ e:Int,tok (kwF kwds) s[i] (s.drop (i+1))=.error e→Out H.length K (.tup [.snil,.int .i64 i,.int .i64 e]) (H++[.perm zbu 3 l.length])):
  zsb (.str s) (.sl (l.map Tk.cs) (.own H.length)) (.int .i64 i) (.int .u8 s[i].toNat) (.int .i64 1) (H++[.perm zbu 3 l.length]) (Out H.length K) Kb:=by
 refine zK7 (Inv:=λq t8 H'=>∃(j:Nat),i+j≤s.length∧0<j∧q=s.length-j∧t8=.int .i64 j∧H'=H++[.perm zbu 3 l.length]∧j+((s.drop (i+j)).takeWhile za8).length=((s.drop (i+1)).takeWhile za8).length+1) (s.length-1) ?_ ?_
 ·intro _;exact⟨1,by omega,by omega,by omega,rfl,rfl,by omega⟩
 ·rintro q t8 H' ⟨j,hij,hj0,rfl,rfl,rfl,hn⟩ hsc hlen hsF Kb18 hKb18;have w1:IntKind.i64.wrap ((i:Int)+j)=i+j:=zaz (by omega) (by omega);have w2:IntKind.i64.wrap ((j:Int)+1)=j+1:=zaz (by omega) (by omega);have e48:((s[i].toNat:Int) == 48)=(s[i] == 48):=zcy s[i] 48;have fin:((s.drop (i+j)).takeWhile za8).length=0→zhA (.str s) (.sl (l.map Tk.cs) (.own H.length)) (.int .i64 i) (.int .u8 s[i].toNat) (.int .i64 j) (H++[.perm zbu 3 l.length]) (Out H.length K) Kb:=by
   intro h0;rw[h0]at hn;have hdj:(s.drop i).take j=s[i]::(s.drop (i+1)).takeWhile za8:=by rw[af hlt,show j=((s.drop (i+1)).takeWhile za8).length+1 by omega,zlk]
   have htk:tok (kwF kwds) s[i] (s.drop (i+1))=if (s[i] == 48 && decide (j>1))=true then .error 2 else if zb9 ((s.drop i).take j) 0=true then .ok (3,j) else .error 9:=by rw[af hlt];simp only[tok,hLU,hD,cO,←hn,Nat.add_zero];rfl
   have hval:∀(K:AV→zaa→Prop) (H:zaa),(∀n,K (.tup [.int .i64 n,.bool (zb9 ((s.drop i).take j) 0)]) H)→ACalls tP zhb [.str ((s.drop i).take j)] H K:=by
    intro K H hK;refine zKF _ ?_ (by simp;omega) _ _ hK;intro c hc;rw[hdj]at hc;rcases aZ.1 hc with rfl|hc
    ·exact hD
    ·exact am.1 (cT) c hc
   have rest:¬(s[i] == 48 && decide (j>1))=true→zlB (.str s) (.sl (l.map Tk.cs) (.own H.length)) (.int .i64 i) (.int .i64 j) (H++[.perm zbu 3 l.length]) (Out H.length K) Kb:=by
    intro hne;rw[ap hne]at htk;simp[zlB,w1];refine⟨by omega,by omega,?_⟩;rw[show ((i:Int)+j).toNat=i+j by omega,zll];refine hval _ _ λn=>?_;cases hv:zb9 ((s.drop i).take j) 0 with
    |false=>rw[hv]at htk;simp[AV.isV];exact bad 9 htk
    |true=>rw[hv]at htk;have:=app 3 j htk _ rfl;simp[zar,zaL,zau,za4,plain,AV.pd,zax,za6,zaZ,zfG];refine⟨by omega,by omega,by omega,?_⟩;exact this
   by_cases h1:j>1
   ·have h1':(1:Int)<j:=by omega
    have hd:decide (j>1)=true:=bf h1;rw[hd]at rest htk;cases hz:(s[i] == 48) with
    |true=>rw[hz]at htk;simp[zhA,h1',e48,hz,AV.isV];exact bad 2 htk
    |false=>have:=rest (by rw[hz];decide);simp[zhA,h1',e48,hz];simpa[zlB]using this
   ·have h1':¬ (1:Int)<j:=by omega
    have:=rest (by rw[bi h1];simp);simp[zhA,h1'];simpa[zlB]using this
  by_cases hjlt:i+j<s.length
  ·have hjlt':(i+j:Int)<s.length:=by omega
   rw[af hjlt,cQ]at hn fin;have hget:s[((i:Int)+j).toNat]?.getD 0=s[i+j]:=by rw[show ((i:Int)+j).toNat=i+j by omega];simp[hjlt]
   simp[zr8,w1,w2,hjlt',hget];refine⟨by omega,?_⟩;refine zpy _ _ _ ?_;cases hb:za8 s[i+j] with
   |true=>rw[hb]at hn;simp at hn;simp[w1,w2];refine hKb18 _ _ ⟨s.length-(j+1),by omega,Back.here (by simp) (hperm _) ?_ ⟨_,rfl,j+1,by omega,by omega,rfl,by simp,rfl,by rw[←ag];omega⟩⟩;simp[zlD,AV.sc,AV.scV,AV.scA,AV.scB]
   |false=>rw[hb]at fin;have:=fin (by simp);simp[w1,w2];simpa[zhA,w1]using this
  ·have hjlt':¬ (i+j:Int)<s.length:=by omega
   have:s.drop (i+j)=[]:=aK (by omega);rw[this]at fin;have:=fin rfl;simp[zr8,w1,w2,hjlt'];simpa[zhA,w1]using this
end
theorem zJU(s:List UInt8)(H:zaa)(K:AV→zaa→Prop)(hK:K (zfx s) H):ACalls tP zqb [.str s] H K:=by
 refine ACalls.out (zLc λhs=>?_);by_cases hl:s.length>16384
 ·have hl':(16384:Int)<s.length:=by omega
  simp[zr5,hl',AV.isV];unfold zfx at hK;rw[aB hl]at hK;exact Out.tup0 hs hK ⟨zhu,zbN rfl rfl,zbN rfl rfl,trivial⟩
 have hl':¬(16384:Int)<s.length:=by omega
 unfold zfx at hK;rw[ap hl]at hK;simp[zr5,hl'];have hperm:∀n,HSc (H++[.perm zbu 3 n]):=λn=>hs.append rfl;unfold zlE;refine ALoop.own 5 zbu 3 rfl ?_;show zlE (.str s) (.sl [] (.own H.length)) (.int .i64 0) (H++[.perm zbu 3 0]) (Out H.length K);refine zK8 (Inv:=λq t5 t6 H'=>∃(i:Nat) (l:List Tk),i≤s.length∧l.length≤i∧q=s.length-i∧t6=.int .i64 i∧t5=.sl (l.map Tk.cs) (.own H.length)∧H'=H++[.perm zbu 3 l.length]∧cat l (zbn (kwF kwds) (s.drop i) i)=zbn (kwF kwds) s 0) s.length ?_ ?_
 ·intro _;exact⟨0,[],by omega,by simp,by omega,rfl,rfl,rfl,by simp⟩
 ·rintro q t5 t6 H' ⟨i,l,hi,hll,rfl,rfl,rfl,rfl,ho⟩ hsc hlen hsF Kb hKb;by_cases hlt:i<s.length
  ·have hdr:=af hlt;have e9:((s[i].toNat:Int) == 9)=(s[i] == 9):=zcy s[i] 9;have e10:((s[i].toNat:Int) == 10)=(s[i] == 10):=zcy s[i] 10;have e13:((s[i].toNat:Int) == 13)=(s[i] == 13):=zcy s[i] 13;have e32:((s[i].toNat:Int) == 32)=(s[i] == 32):=zcy s[i] 32;have e35:((s[i].toNat:Int) == 35)=(s[i] == 35):=zcy s[i] 35;cases hbl:zdr s[i] with
   |true=>
    rw[hdr,zzI _ hbl]at ho;have key:zfE (.str s) (.sl (l.map Tk.cs) (.own H.length)) (.int .i64 (IntKind.i64.wrap (i+1))) (H++[.perm zbu 3 l.length]) (Out H.length K) Kb:=by simp[zfE];rw[zaz (by omega) (by omega)];refine hKb _ _ ⟨s.length-(i+1),by omega,Back.here (by simp) (hperm _) ?_ ⟨_,_,rfl,i+1,l,by omega,by omega,rfl,by simp,rfl,rfl,ho⟩⟩;simp[zgk,AV.sc,AV.scV,AV.scA,AV.scB]
    unfold zdr at hbl;cases h9:(s[i] == 9) <;> cases h10:(s[i] == 10) <;> cases h13:(s[i] == 13) <;> cases h32:(s[i] == 32) <;> simp[h9,h10,h13,h32]at hbl <;> simpa[zlA,hlt,e9,e10,e13,e32,h9,h10,h13,h32]using key
   |false=>
    have hbl':=hbl;unfold zdr at hbl';simp only[bw]at hbl';obtain⟨⟨⟨h9,h10⟩,h13⟩,h32⟩:=hbl';have app:∀(k:Int) (n:Nat),tok (kwF kwds) s[i] (s.drop (i+1))=.ok (k,n)→(s[i] == 35)=false→∀t,(s.drop i).take n=t→ziX (.str s) (.sl (l.map Tk.cs++[[.int .i64 k,.str t,.int .i64 i]]) (.own H.length)) (.int .i64 i) (.int .i64 n) (H++[.perm zbu 3 (l.length+1)]) (Out H.length K) Kb:=by
     intro k n ht hsh t hte;subst hte;rw[hdr,zzL _ hbl hsh ht,zwx,←hdr]at ho;have hn:=zrJ ht;rw[←hdr]at hn;simp at hn;have hn0:=zrK ht;simp[ziX,zfE];rw[zaz (by omega) (by omega)];refine hKb _ _ ⟨s.length-(i+n),by omega,Back.here (by simp) (hperm _) ?_ ⟨_,_,rfl,i+n,l++[⟨k,(s.drop i).take n,i⟩],by omega,by simp;omega,rfl,by simp,by simp[Tk.cs],by simp,?_⟩⟩
     ·simp[zgk,AV.sc,AV.scV,AV.scA,AV.scB]
     ·rw[cZ]at ho;exact ho
    have bad:∀e:Int,tok (kwF kwds) s[i] (s.drop (i+1))=.error e→(s[i] == 35)=false→Out H.length K (.tup [.snil,.int .i64 i,.int .i64 e]) (H++[.perm zbu 3 l.length]):=by intro e ht hsh;rw[hdr,zzJ _ hbl hsh ht]at ho;rw[←ho]at hK;exact zyp hs hK
    simp[zlA,hlt,e9,e10,e13,e32,e35,h9,h10,h13,h32];cases hsh:(s[i] == 35) with
    |true=>
     simp;rw[hdr,zzK _ hbl hsh]at ho;obtain⟨c1,c2⟩:=zlb h10 (s.drop (i+1));rw[ag,←c1,←c2,←hdr]at ho;refine zK5 (Inv:=λq t6 H'=>∃(j:Nat),i≤j∧j≤s.length∧q=s.length-j∧t6=.int .i64 j∧H'=H++[.perm zbu 3 l.length]∧cat l (zbn (kwF kwds) (zeQ (s.drop j)) (j+zeR (s.drop j)))=zbn (kwF kwds) s 0) (s.length-i) ?_ ?_
     ·intro _;exact⟨i,by omega,by omega,by omega,rfl,rfl,ho⟩
     ·rintro q t6 H' ⟨j,hij,hj,rfl,rfl,rfl,ho⟩ hsc hlen hsF Kb9 hKb9;by_cases hjlt:j<s.length
      ·have hdrj:=af hjlt;have e10:((s[j].toNat:Int) != 10)=!(s[j] == 10):=by rw[←zcy s[j] 10];rfl
       simp[zr6,hjlt,e10];cases hz:(s[j] == 10) with
       |true=>
        obtain⟨d1,d2⟩:=zzf hz (s.drop (j+1));rw[hdrj,d1,d2,←hdrj,Nat.add_zero]at ho;have hij':i≠j:=by rintro rfl;rw[h10]at hz;cases hz
        simp[zfE];refine hKb _ _ ⟨s.length-j,by omega,Back.here (by simp) (hperm _) ?_ ⟨_,_,rfl,j,l,by omega,by omega,rfl,by simp,rfl,rfl,ho⟩⟩;simp[zgk,AV.sc,AV.scV,AV.scA,AV.scB]
       |false=>obtain⟨d1,d2⟩:=zlb hz (s.drop (j+1));rw[hdrj,d1,d2,←ag]at ho;simp;rw[zaz (by omega) (by omega)];refine hKb9 _ _ ⟨s.length-(j+1),by omega,Back.here (by simp) (hperm _) ?_ ⟨_,rfl,j+1,by omega,by omega,rfl,by simp,rfl,ho⟩⟩;simp[zlC,AV.sc,AV.scV,AV.scA,AV.scB]
      ·obtain rfl:j=s.length:=by omega
       simp[zr6,zfE];rw[au,skipC_nil.1,skipC_nil.2,Nat.add_zero]at ho;refine hKb _ _ ⟨0,by omega,Back.here (by simp) (hperm _) ?_ ⟨_,_,rfl,s.length,l,by omega,by omega,by omega,by simp,rfl,rfl,by rw[au];exact ho⟩⟩;simp[zgk,AV.sc,AV.scV,AV.scA,AV.scB]
    |false=>
     replace app:=λk n h=>app k n h hsh
     replace bad:=λe h=>bad e h hsh
     simp;refine zxL _ _ _ ?_;by_cases hLU:(zbT s[i] || bUp s[i])=true
     ·have hc:zbT s[i]=true∨(zbT s[i]=false∧bUp s[i]=true):=by cases hL:zbT s[i] <;> simp[hL]at hLU ⊢;exact hLU
      rcases hc with hL|⟨hL,hU⟩;case' inl=>simp[hL]
      case' inr=>simp[hL];refine zls _ _ _ ?_;simp[hU]
      all_goals exact zKO s hl i hlt H l hll hperm K Kb hLU app bad
     ·have hL:zbT s[i]=false:=by simp at hLU;exact hLU.1
      have hU:bUp s[i]=false:=by simp at hLU;exact hLU.2
      simp[hL];refine zls _ _ _ ?_;simp[hU];refine zpy _ _ _ ?_;cases hD:za8 s[i] with
      |true=>simp;exact zId s hl i hlt H l hll hperm K Kb hLU hD app bad
      |false=>
       simp;refine⟨by omega,?_⟩;have htk:tok (kwF kwds) s[i] (s.drop (i+1))=if sgn (s.drop i)=0 then .error 2 else .ok (5,sgn (s.drop i)):=by simp only[tok,hLU,hD,hdr];rfl
       rw[hdr];refine zI9 _ _ _ _ ?_;rw[←hdr];by_cases hz:sgn (s.drop i)=0
       ·simp[hz,AV.isV];exact bad 2 (by rw[htk,aB hz])
       ·have hz':((sgn (s.drop i):Int) == 0)=false:=by simpa using hz
        have ht:=htk;rw[ap hz]at ht;have hn:=zrJ ht;rw[←hdr]at hn;simp at hn;have:=app 5 (sgn (s.drop i)) ht _ rfl;simp[hz'];rw[zaz (by omega) (by omega)];simp[zar,zaL,zau,za4,plain,AV.pd,zax,za6,zaZ,zfG];refine⟨by omega,by omega,by omega,?_⟩;rw[show ((i:Int)+(sgn (s.drop i):Int)).toNat=i+sgn (s.drop i) by omega,zll];exact this
  ·obtain rfl:i=s.length:=by omega
   rw[au,zrL]at ho;rw[←ho]at hK;simp[zlA,zar,zaL,zau,za4,plain,AV.pd,zax,za6,zaZ,AV.isV];refine⟨by omega,?_⟩;simp[cat,Tk.cs]at hK;exact Out.tup hs hK ⟨slV,zbN rfl rfl,zbN rfl rfl,trivial⟩
section
variable (t0 t3 t4 t5 t6 t7 t93 t94 t95:AV) (H:zaa) (K:Kt) (Kb2 Kb5 Kb12 Kb18:Lt)
def zer:Nat→List Bool|5=>rl false [0,1,2,3,115]|12=>rl false [0,1,2,5,113]|18=>rl false [0,1,2,5,85,3,25]|_=>[]
noncomputable def zt0:=Tryz.f26.body.getD .skip
noncomputable def zRB:=Tryz.f26.results.toList
def znj:=t0::ux 2 (t3::t4::t5::ux 115 [])
def zCY:=zer 5
noncomputable def zt2:=zas [1,1,1,0,1,0,0] zt0
def zCT:=zat tP zer [1,1,1,0,1,0] zt0 (zaA tP zRB K)
def znl:=ALoop tP zt2 (zCT K) (znj t0 t3 t4 t5) H
def znh:=t0::ux 2 (t3::t4::t5::t6::t7::ux 113 [])
def zCX:=zer 12
noncomputable def zt1:=zas [1,0,0,1,1,1,1,0,0] zt2
def zCS:=zat tP zer [1,0,0,1,1,1,1,0] zt2 (zbp zCY Kb5 (zCT K))
def zCV:=ALoop tP zt1 (zCS K Kb5) (znh t0 t3 t4 t5 t6 t7) H
def zni:=t0::ux 2 (t3::t4::t5::t6::t7::ux 85 (t93::t94::t95::ux 25 []))
def zRz:=zer 18
noncomputable def zRv:=zas [1,0,0,1,1,1,0,0] zt1
def zRt:=zat tP zer [1,0,0,1,1,1,0] zt1 (zbp zCX Kb12 (zCS K Kb5))
def zCW:=ALoop tP zRv (zRt K Kb5 Kb12) (zni t0 t3 t4 t5 t6 t7 t93 t94 t95) H
def zCU(t0 t3 t4 t5 t6 t7 t93 t94 t95:AV)(H:zaa)(K:Kt)(Kb5:Lt)(Kb12:Lt)(Kb18:Lt):Prop:=zab .add false t95 (.int .i64 1) λt112=>Kb18 (zni t0 t3 t4 t5 t6 t7 t93 t94 t112) H
def znk:=zCU t0 t3 t4 t5 t6 t7 t93 t94 t95 H K Kb5 Kb12 Kb18
def ztZ:=zab .lss false t95 t94 λt96=>zag t96 (zai 3 t93 t95 λt97=>zae true 3 t97 H λt98=>zay [(.int .i64 0),(.int .i64 0),.snil] H λt9 H=>zam 3 t9 t98 H λH=>zae true 3 t9 H λt99=>zaf 1 t6 λt101=>zae false 1 t101 H λt102=>ACalls tP zqU [t99,t5,t102] H λt103 H=>zag t103 (znk t0 t3 t4 t5 t6 t7 t93 t94 t95 H K Kb5 Kb12 Kb18) (apm H t0 λt104=>apm H t5 λt105=>apu H (za1 1 3 t104 none (some t105)) λt106=>apu H (zan true 3 t9 H) λt107=>apu H (zaf 1 t6) λt108=>apu H (zan false 1 t108 H) λt109=>zaF H (λH K'=>ACalls tP zkz [t106,t107,t109] H K') λt110=>apu H (aUn .not t110) λt111=>zag t111 (K (.bool false) H) (znk t0 t3 t4 t5 t6 t7 t93 t94 t95 H K Kb5 Kb12 Kb18))) (zab .add false t7 (.int .i64 1) λt60=>Kb12 (znh t0 t3 t4 t5 t6 t60) H)
def ztY:=zaf 2 t6 λt55=>zae false 1 t55 H λt56=>zah 1 t56 λt57=>zab .lss false t7 t57 λt58=>zag t58 (zaf 2 t6 λt61=>zae false 1 t61 H λt62=>zai 2 t62 t7 λt64=>zaf 0 t64 λt65=>zae false 1 t65 H λt66=>ACalls tP zkJ [t66] H λt67 H=>aUn .not t67 λt68=>zac t68 false H (λK'=>zaf 2 t6 (K' · H)) λt70 H=>zac t68 false H (λK'=>zae false 1 t70 H (K' · H)) λt71 H=>zac t68 false H (λK'=>K' t7 H) λt72 H=>zac t68 false H (λK'=>zai 2 t71 t72 (K' · H)) λt73 H=>zac t68 false H (λK'=>zaf 1 t73 (K' · H)) λt74 H=>zac t68 false H (λK'=>zae false 1 t74 H (K' · H)) λt75 H=>zac t68 false H (λK'=>zah 1 t75 (K' · H)) λt76 H=>zac t68 false H (λK'=>zab .gtr false t76 (.int .i64 6) (K' · H)) λt77 H=>zak t68 (.bool true) t77 λt78=>zag t78 (K (.bool false) H) (zaf 2 t6 λt80=>zae false 1 t80 H λt81=>zai 2 t81 t7 λt83=>zaf 0 t83 λt84=>zae false 1 t84 H λt85=>zau 1 [(.str [])] 1 [(0,t85)] λt86=>zax zbx 1 16 t4 t86 H λt87 H=>zaf 2 t6 λt88=>zae false 1 t88 H λt89=>zai 2 t89 t7 λt91=>zaf 1 t91 λt92=>zae false 1 t92 H λt93=>zah 1 t93 λt94=>zCW t0 t3 t87 t5 t6 t7 t93 t94 (.int .i64 0) H K Kb5 Kb12)) (zab .add false t5 (.int .i64 1) λt18=>Kb5 (znj t0 t3 t4 t18) H)
def zgu:=zah 1 t0 λt15=>zab .lss false t5 t15 λt16=>zag t16 (zai 3 t0 t5 λt21=>zae true 3 t21 H λt22=>zay [(.str []),(.int .i64 0),.snil] H λt6 H=>zam 3 t6 t22 H λH=>zaf 1 t6 λt23=>zae false 1 t23 H λt24=>zab .lss false t24 (.int .i64 0) λt25=>zac t25 false H (λK'=>zaf 1 t6 (K' · H)) λt27 H=>zac t25 false H (λK'=>zae false 1 t27 H (K' · H)) λt28 H=>zac t25 false H (λK'=>zab .gtr false t28 (.int .i64 6) (K' · H)) λt29 H=>zak t25 (.bool true) t29 λt30=>zac t30 false H (λK'=>zaf 2 t6 (K' · H)) λt32 H=>zac t30 false H (λK'=>zae false 1 t32 H (K' · H)) λt33 H=>zac t30 false H (λK'=>zah 1 t33 (K' · H)) λt34 H=>zac t30 false H (λK'=>zab .lss false t34 (.int .i64 1) (K' · H)) λt35 H=>zak t30 (.bool true) t35 λt36=>zac t36 false H (λK'=>zaf 2 t6 (K' · H)) λt38 H=>zac t36 false H (λK'=>zae false 1 t38 H (K' · H)) λt39 H=>zac t36 false H (λK'=>zah 1 t39 (K' · H)) λt40 H=>zac t36 false H (λK'=>zab .gtr false t40 (.int .i64 8) (K' · H)) λt41 H=>zak t36 (.bool true) t41 λt42=>zac t42 false H (λK'=>zaf 0 t6 (K' · H)) λt44 H=>zac t42 false H (λK'=>zae false 1 t44 H (K' · H)) λt45 H=>zac t42 false H (λK'=>ACalls tP zkJ [t45] H K') λt46 H=>zac t42 false H (λK'=>aUn .not t46 (K' · H)) λt47 H=>zak t42 (.bool true) t47 λt48=>zag t48 (K (.bool false) H) (zaf 0 t6 λt50=>zae false 1 t50 H λt51=>zau 1 [(.str [])] 1 [(0,t51)] λt52=>zax zbx 1 16 t3 t52 H λt53 H=>zCV t0 t53 t4 t5 t6 (.int .i64 0) H K Kb5)) (ACalls tP ziy [t3] H λt114 H=>aUn .not t114 λt115=>zac t115 true H (λK'=>K' t4 H) λt117 H=>zac t115 true H (λK'=>ACalls tP ziy [t117] H K') λt118 H=>zac t115 true H (λK'=>aUn .not t118 (K' · H)) λt119 H=>zak t115 t119 (.bool false) λt120=>K t120 H)
def ztX:=zah 1 t0 λt11=>zab .gtr false t11 (.int .i64 12) λt12=>zag t12 (K (.bool false) H) (znl t0 .snil .snil (.int .i64 0) H K)
def zgw:Nat→List Bool|2=>rl false [0,1,2,1,21]|5=>rl false [0,1,2,2,20]|_=>[]
noncomputable def zuE:=Tryz.f64.body.getD .skip
noncomputable def zUf:=Tryz.f64.results.toList
def zn2:=t0::ux 2 (t3::ux 21 [])
def zD0:=zgw 2
noncomputable def zuF:=zas [1,0,1,0,0] zuE
def zDX:=zat tP zgw [1,0,1,0] zuE (zaA tP zUf K)
def zDY:=ALoop tP zuF (zDX K) (zn2 t0 t3) H
def zn3:=t0::ux 2 (t3::t4::ux 20 [])
def zUd:=zgw 5
noncomputable def zUa:=zas [1,0,0,1,0,0] zuF
def zT9:=zat tP zgw [1,0,0,1,0] zuF (zbp zD0 Kb2 (zDX K))
def zDZ:=ALoop tP zUa (zT9 K Kb2) (zn3 t0 t3 t4) H
def zuD:=zab .lss false t4 t3 λt13=>zag t13 (apm H t0 λt16=>apm H t3 λt17=>apu H (zai 1 t16 t17) λt18=>apu H (zan false 1 t18 H) λt19=>apm H t0 λt20=>apm H t4 λt21=>apu H (zai 1 t20 t21) λt22=>apu H (zan false 1 t22 H) λt23=>apu H (zab .eql false t19 t23) λt24=>zag t24 (K (.bool true) H) (zab .add false t4 (.int .i64 1) λt15=>Kb5 (zn3 t0 t3 t15) H)) (zab .add false t3 (.int .i64 1) λt10=>Kb2 (zn2 t0 t10) H)
def zuC:=zah 1 t0 λt7=>zab .lss false t3 t7 λt8=>zag t8 (zDZ t0 t3 (.int .i64 0) H K Kb2) (K (.bool false) H)
def zDW:=zDY t0 (.int .i64 0) H K
variable {t0 t3 t4 t5 t6 t7 t93 t94 t95} {H} {K} {Kb2 Kb5 Kb12 Kb18}
theorem zRx:Lo1 (λt95=>zni t0 t3 t4 t5 t6 t7 t93 t94 t95) (λt95 H Kb18=>ztZ t0 t3 t4 t5 t6 t7 t93 t94 t95 H K Kb5 Kb12 Kb18) t95 H (zCW t0 t3 t4 t5 t6 t7 t93 t94 t95 H K Kb5 Kb12):=lq1 zer zRz
theorem zRw:Lo2 (λt4 t7=>znh t0 t3 t4 t5 t6 t7) (λt4 t7 H Kb12=>ztY t0 t3 t4 t5 t6 t7 H K Kb5 Kb12) t4 t7 H (zCV t0 t3 t4 t5 t6 t7 H K Kb5):=lq2 zer zCX
theorem zRy:Lo3 (λt3 t4 t5=>znj t0 t3 t4 t5) (λt3 t4 t5 H Kb5=>zgu t0 t3 t4 t5 H K Kb5) t3 t4 t5 H (znl t0 t3 t4 t5 H K):=lq3 zer zCY
theorem zRA(h:HSc H→ztX t0 H K):ACalls tP zqI [t0] H K:=
 acb zer Tryz.func26 zt0 h
theorem zUc:Lo1 (λt4=>zn3 t0 t3 t4) (λt4 H Kb5=>zuD t0 t3 t4 H K Kb2 Kb5) t4 H (zDZ t0 t3 t4 H K Kb2):=lq1 zgw zUd
theorem zUb:Lo1 (λt3=>zn2 t0 t3) (λt3 H Kb2=>zuC t0 t3 H K Kb2) t3 H (zDY t0 t3 H K):=lq1 zgw zD0
theorem zUe(h:HSc H→zDW t0 H K):ACalls tP ziy [t0] H K:=
 acb zgw Tryz.func64 zuE h
end
theorem zdl{k:AV→Prop}(a b:AV)(vs:List AV):zaI (.tup (a::b::vs)) 1 k=k b:=propext aG
theorem zdm{k:AV→Prop}(a b c:AV)(vs:List AV):zaI (.tup (a::b::c::vs)) 2 k=k c:=propext aG
def zeS(s:List UInt8):List Tk×Int×Int:=
 if s.length>16384 then ([],0,9) else
 match zbn (kwF kwds) s 0 with
 |.error (p,e)=>([],p,e)
 |.ok l=>(l,0,0)
theorem zzp(s:List UInt8):zfx s=.tup [.sl ((zeS s).1.map Tk.cs) .none,.int .i64 (zeS s).2.1,.int .i64 (zeS s).2.2]:=by
 unfold zfx zeS;split
 ·rfl
 ·split <;> (rename_i h;simp[h])
def zbR(s:List UInt8)(x:List Tk × Int × Int):Bool:=x.2.2 == 0 && match x.1 with
 |[a,_]=>a.kind == 2 && a.text == s
 |_=>false
def zcg(s:List UInt8):Bool:=zbR s (zeS s)
theorem zCn(s:List UInt8)(H:zaa)(K:AV→zaa→Prop)(hK:K (.bool (zcg s)) H):ACalls tP zks [.str s] H K:=by
 refine ACalls.out (zP4 λhs=>?_);have hO:Out H.length K (.bool (zcg s)) H:=Out.bool (J:=[]) (by simp) (aa _) hs hK;simp only[zCm];refine zJT s _ _ ?_;rw[zzp];rw[zcg]at hO;generalize zeS s=x at hO ⊢;obtain⟨l,p,e⟩:=x;clear hK;cases h0:e == 0 with
 |false=>rw[show zbR s (l,p,e)=false by simp[zbR,h0]]at hO;simp[zdl,zdm,h0];exact hO
 |true=>
 match l with
 |[]=>rw[show zbR s ([],p,e)=false by simp[zbR]]at hO;simp[zdl,zdm,h0];exact hO
 |[x]=>rw[show zbR s ([x],p,e)=false by simp[zbR]]at hO;simp[zdl,zdm,h0];exact hO
 |[a,x]=>
  rw[show zbR s ([a,x],p,e)=(a.kind == 2 && a.text == s) by simp[zbR,h0]]at hO;cases hk:a.kind == 2 with
  |false=>rw[hk]at hO;simp[zdl,zdm,h0,Tk.cs,hk];exact hO
  |true=>rw[hk]at hO;simp[zdl,zdm,h0,Tk.cs,hk];exact hO
 |a::b::c::r=>
  rw[show zbR s (a::b::c::r,p,e)=false by simp[zbR]]at hO;have:¬((r.length:Int)+1+1+1=2):=by omega
  have h2:((r.length:Int)+1+1+1 == 2)=false:=by simpa using this
  simp[zdl,zdm,h0,h2];exact hO
theorem zDT(s:List UInt8)(H:zaa)(K:AV→zaa→Prop)(hK:K (.bool (zcg s)) H):ACalls tP zkJ [.str s] H K:=by
 refine ACalls.out (zT2 λhs=>?_);have hO:Out H.length K (.bool (zcg s)) H:=Out.bool (J:=[]) (by simp) (aa _) hs hK;simp only[zDS];refine zJU s _ _ ?_;rw[zzp];rw[zcg]at hO;generalize zeS s=x at hO ⊢;obtain⟨l,p,e⟩:=x;clear hK;cases h0:e == 0 with
 |false=>rw[show zbR s (l,p,e)=false by simp[zbR,h0]]at hO;simp[zdl,zdm,h0];exact hO
 |true=>
 match l with
 |[]=>rw[show zbR s ([],p,e)=false by simp[zbR]]at hO;simp[zdl,zdm,h0];exact hO
 |[x]=>rw[show zbR s ([x],p,e)=false by simp[zbR]]at hO;simp[zdl,zdm,h0];exact hO
 |[a,x]=>
  rw[show zbR s ([a,x],p,e)=(a.kind == 2 && a.text == s) by simp[zbR,h0]]at hO;cases hk:a.kind == 2 with
  |false=>rw[hk]at hO;simp[zdl,zdm,h0,Tk.cs,hk];exact hO
  |true=>rw[hk]at hO;simp[zdl,zdm,h0,Tk.cs,hk];exact hO
 |a::b::c::r=>
  rw[show zbR s (a::b::c::r,p,e)=false by simp[zbR]]at hO;have:¬((r.length:Int)+1+1+1=2):=by omega
  have h2:((r.length:Int)+1+1+1 == 2)=false:=by simpa using this
  simp[zdl,zdm,h0,h2];exact hO
def zcf(l:List (List UInt8)):Bool:=!decide l.Nodup
def strs(l:List (List UInt8)):List (List AV):=l.map λs=>[.str s]
@[simp] theorem yaX(l:List (List UInt8)):(strs l).length=l.length:=by simp[strs]
theorem zJ5{l:List (List UInt8)}{i:Nat}(h:i<(strs l).length):(strs l)[i]=[.str (l[i]'(by simpa using h))]:=by simp[strs]
theorem zyT{l:List (List UInt8)}{i j:Nat}(hi:i<l.length)(hj:j<i)(h:l[i]=l[j]):zcf l=true:=by simp only[zcf,bY,bv];intro hn;exact(cu.mp hn) j i (by omega) hi hj h.symm
theorem zUg(l:List (List UInt8))(hl:l.length≤1000000)(H:zaa)(K:AV→zaa→Prop)(hK:K (.bool (zcf l)) H):ACalls tP ziy [.sl (strs l) .none] H K:=by
 refine ACalls.out (zUe λhs=>?_);have hO:Out H.length K (.bool (zcf l)) H:=Out.bool (J:=[]) (by simp) (aa _) hs hK;simp[zDW];refine zUb (Inv:=λq t3 H'=>∃i:Nat,i≤l.length∧q=l.length-i∧t3=.int .i64 i∧(∀a b (ha:a<i) (hb:b<a) (h':a<l.length),l[a]≠l[b])∧H=H') l.length ?_ ?_
 ·intro _;exact⟨0,by omega,by omega,rfl,by omega,rfl⟩
 ·rintro q t3 H' ⟨i,hi,rfl,rfl,hne,rfl⟩ hsc hlen hsF Kb hKb;by_cases hlt:i<l.length
  ·simp[zuC,hlt];refine zUc (Inv:=λq t4 H'=>∃j:Nat,j≤i∧q=i-j∧t4=.int .i64 j∧(∀b (hb:b<j) (hb':b<l.length),l[i]≠l[b])∧H=H') i ?_ ?_
   ·intro _;exact⟨0,by omega,by omega,rfl,by omega,rfl⟩
   ·rintro q t4 H' ⟨j,hj,rfl,rfl,hnj,rfl⟩ hsc1 hlen1 hsF1 Kb1 hKb1;by_cases hjl:j<i
    ·simp[zuD,hjl,hlt,show j<l.length by omega,zJ5];cases he:l[i] == l[j] with
     |true=>rw[zyT hlt hjl (by simpa using he)]at hO;simpa using hO
     |false=>
      simp;rw[zaz (by omega) (by omega)];refine hKb1 _ _ ⟨i-(j+1),by omega,Back.at (J:=[]) (H2:=H) (by simp) (aa _) hs ?_ ⟨_,rfl,j+1,by omega,rfl,by simp,?_,rfl⟩⟩
      ·simp[zn3,AV.sc,AV.scV,AV.scA,AV.scB]
      ·intro b hb hb';by_cases hbj:b=j
       ·subst hbj;simpa using he
       ·exact hnj b (by omega) hb'
    ·obtain rfl:j=i:=by omega
     simp[zuD];rw[zaz (by omega) (by omega)];refine hKb _ _ ⟨l.length-(j+1),by omega,Back.at (J:=[]) (H2:=H) (by simp) (aa _) hs ?_ ⟨_,rfl,j+1,by omega,rfl,by simp,?_,rfl⟩⟩
     ·simp[zn2,AV.sc,AV.scV,AV.scA,AV.scB]
     ·intro a b ha hb h';by_cases haj:a=j
      ·subst haj;exact hnj b hb (by omega)
      ·exact hne a b (by omega) hb h'
  ·obtain rfl:i=l.length:=by omega
   have:zcf l=false:=by simp only[zcf,Bool.not_eq_false',aH];refine cu.mpr λa b ha hb hab he=>?_;exact hne b a hb hab hb he.symm
   rw[this]at hO;simp[zuC];exact hO
section
variable (t0 t1 t2 t3 t4 t5 t8 t14 t15 t27 t28 t29 t76 t77 t78:AV) (H:zaa) (K:Kt) (Kb5 Kb6 Kb13:Lt)
def zgm:Nat→List Bool|5=>rl false [0,1,2,2,9,2,89]|13=>rl false [0,1,2,3,8,2,60,3,26]|_=>[]
noncomputable def zsP:=Tryz.f131.body.getD .skip
noncomputable def zM4:=Tryz.f131.results.toList
def zmi:=t0::ux 2 (t3::t4::ux 9 (t14::t15::ux 89 []))
def zA9:=zgm 5
noncomputable def zsQ:=zas [1,1,1,0,1,0,0] zsP
def zA6:=zat tP zgm [1,1,1,0,1,0] zsP (zaA tP zM4 K)
def zA8:=ALoop tP zsQ (zA6 K) (zmi t0 t3 t4 t14 t15) H
def zmh:=t0::ux 2 (t3::t4::t5::ux 8 (t14::t15::ux 60 (t76::t77::t78::ux 26 [])))
def zM2:=zgm 13
noncomputable def zMZ:=zas [1,1,0,0,1,1,1,1,1,0,0] zsQ
def zMX:=zat tP zgm [1,1,0,0,1,1,1,1,1,0] zsQ (zbp zA9 Kb5 (zA6 K))
def zA7:=ALoop tP zMZ (zMX K Kb5) (zmh t0 t3 t4 t5 t14 t15 t76 t77 t78) H
def zsN:=zab .lss false t78 t77 λt79=>zag t79 (zai 2 t76 t78 λt81=>zae true 2 t81 H λt82=>zay [(.str []),.snil] H λt7 H=>zam 2 t7 t82 H λH=>zaf 0 t7 λt83=>zae false 1 t83 H λt84=>ACalls tP zks [t84] H λt85 H=>aUn .not t85 λt86=>zac t86 false H (λK'=>K' t4 H) λt88 H=>zac t86 false H (λK'=>zaf 0 t7 (K' · H)) λt89 H=>zac t86 false H (λK'=>zae false 1 t89 H (K' · H)) λt90 H=>zac t86 false H (λK'=>zdC (.bool false) false t88 t90 H (K' · H)) λt91 H=>zak t86 (.bool true) t91 λt92=>zac t92 false H (λK'=>K' t0 H) λt94 H=>zac t92 false H (λK'=>K' t5 H) λt95 H=>zac t92 false H (λK'=>K' t78 H) λt96 H=>zac t92 false H (λK'=>ACalls tP zqA [t94,t95,t96] H K') λt97 H=>zac t92 false H (λK'=>aUn .not t97 (K' · H)) λt98 H=>zak t92 (.bool true) t98 λt99=>zag t99 (K (.bool false) H) (zaf 0 t7 λt101=>zae false 1 t101 H λt102=>zcR t4 t102 (.bool true) H λH=>zab .add false t78 (.int .i64 1) λt103=>Kb13 (zmh t0 t3 t4 t5 t14 t15 t76 t77 t103) H)) (zab .add false t15 (.int .i64 1) λt104=>Kb5 (zmi t0 t3 t4 t14 t104) H)
def zsO:=zab .lss false t15 t14 λt16=>zag t16 (zai 3 t0 t15 λt20=>zaf 0 t20 λt21=>zae false 1 t21 H λt22=>ACalls tP zks [t22] H λt23 H=>aUn .not t23 λt24=>zac t24 false H (λK'=>K' t3 H) λt26 H=>zac t24 false H (λK'=>K' t0 H) λt27 H=>zac t24 false H (λK'=>K' t15 H) λt28 H=>zac t24 false H (λK'=>zai 3 t27 t28 (K' · H)) λt29 H=>zac t24 false H (λK'=>zaf 0 t29 (K' · H)) λt30 H=>zac t24 false H (λK'=>zae false 1 t30 H (K' · H)) λt31 H=>zac t24 false H (λK'=>zdC (.bool false) false t26 t31 H (K' · H)) λt32 H=>zak t24 (.bool true) t32 λt33=>zac t33 false H (λK'=>K' t0 H) λt35 H=>zac t33 false H (λK'=>K' t15 H) λt36 H=>zac t33 false H (λK'=>zai 3 t35 t36 (K' · H)) λt37 H=>zac t33 false H (λK'=>zaf 1 t37 (K' · H)) λt38 H=>zac t33 false H (λK'=>zae false 1 t38 H (K' · H)) λt39 H=>zac t33 false H (λK'=>zab .lss false t39 (.int .i64 0) (K' · H)) λt40 H=>zak t33 (.bool true) t40 λt41=>zac t41 false H (λK'=>K' t0 H) λt43 H=>zac t41 false H (λK'=>K' t15 H) λt44 H=>zac t41 false H (λK'=>zai 3 t43 t44 (K' · H)) λt45 H=>zac t41 false H (λK'=>zaf 1 t45 (K' · H)) λt46 H=>zac t41 false H (λK'=>zae false 1 t46 H (K' · H)) λt47 H=>zac t41 false H (λK'=>zab .gtr false t47 (.int .i64 6) (K' · H)) λt48 H=>zak t41 (.bool true) t48 λt49=>zag t49 (K (.bool false) H) (zai 3 t0 t15 λt53=>zaf 0 t53 λt54=>zae false 1 t54 H λt55=>zcR t3 t55 (.bool true) H λH=>zai 3 t0 t15 λt58=>zaf 2 t58 λt59=>zae false 1 t59 H λt60=>zah 1 t60 λt61=>zab .lss false t61 (.int .i64 1) λt62=>zac t62 false H (λK'=>K' t0 H) λt64 H=>zac t62 false H (λK'=>K' t15 H) λt65 H=>zac t62 false H (λK'=>zai 3 t64 t65 (K' · H)) λt66 H=>zac t62 false H (λK'=>zaf 2 t66 (K' · H)) λt67 H=>zac t62 false H (λK'=>zae false 1 t67 H (K' · H)) λt68 H=>zac t62 false H (λK'=>zah 1 t68 (K' · H)) λt69 H=>zac t62 false H (λK'=>zab .gtr false t69 (.int .i64 8) (K' · H)) λt70 H=>zak t62 (.bool true) t70 λt71=>zag t71 (K (.bool false) H) (zai 3 t0 t15 λt74=>zaf 2 t74 λt75=>zae false 1 t75 H λt76=>zah 1 t76 λt77=>zA7 t0 t3 t4 t15 t14 t15 t76 t77 (.int .i64 0) H K Kb5))) (K (.bool true) H)
def zsM:=zah 1 t0 λt9=>zab .gtr false t9 (.int .i64 12) λt10=>zag t10 (K (.bool false) H) (zd1 H λt11 H=>zd1 H λt12 H=>zah 1 t0 λt14=>zA8 t0 t11 t12 t14 (.int .i64 0) H K)
def zm1:Nat→List Bool|6=>rl false [0,2,6,1,18,3,29]|_=>[]
noncomputable def ztE:=Tryz.f170.body.getD .skip
noncomputable def zQb:=Tryz.f170.results.toList
def zjc:=t0::t1::ux 6 (t8::ux 18 (t27::t28::t29::ux 29 []))
def zP9:=zm1 6
noncomputable def zP7:=zas [1,1,1,1,0,1,0,0] ztE
def zP5:=zat tP zm1 [1,1,1,1,0,1,0] ztE (zaA tP zQb K)
def zCp:=ALoop tP zP7 (zP5 K) (zjc t0 t1 t8 t27 t28 t29) H
def ztD:=zab .lss false t29 t28 λt30=>zag t30 (zai 3 t27 t29 λt32=>zae true 3 t32 H λt33=>zay [(.int .i64 0),(.int .i64 0),.snil] H λt10 H=>zam 3 t10 t33 H λH=>apm H t0 λt34=>apm H t1 λt35=>apu H (zab .add false t35 (.int .i64 1)) λt36=>apu H (za1 1 3 t34 none (some t36)) λt37=>apu H (zan true 3 t10 H) λt38=>apm H t0 λt39=>apm H t1 λt40=>apu H (zai 3 t39 t40) λt41=>apu H (zaf 1 t41) λt42=>apu H (zan false 1 t42 H) λt43=>zaF H (λH K'=>ACalls tP zga [t37,t38,t43] H K') λt44=>apu H (aUn .not t44) λt45=>apm H t45 λt46=>zac t46 false H (λK'=>zad H (λK''=>K'' t8 H) (K' · H)) λt47 H=>zac t46 false H (λK'=>zad H (λK''=>K'' t29 H) (K' · H)) λt48 H=>zac t46 false H (λK'=>zad H (λK''=>zai 1 t47 t48 (K'' · H)) (K' · H)) λt49 H=>zac t46 false H (λK'=>zad H (λK''=>zan false 1 t49 H (K'' · H)) (K' · H)) λt50 H=>zac t46 false H (λK'=>zad H (λK''=>aUn .not t50 (K'' · H)) (K' · H)) λt51 H=>zac t46 false H (λK'=>zad H (λK''=>K'' t51 H) (K' · H)) λt52 H=>zac t52 true H (λK'=>zad H (λK''=>zan true 3 t10 H (K'' · H)) (K' · H)) λt53 H=>zac t52 true H (λK'=>zad H (λK''=>K'' t1 H) (K' · H)) λt54 H=>zac t52 true H (λK'=>zaF H (λH K''=>ACalls tP zku [t53,t54] H K'') (K' · H)) λt55 H=>zac t46 false H (λK'=>zad H (λK''=>zak t52 t55 (.bool false) (K'' · H)) (K' · H)) λt56 H=>apu H (zak t46 (.bool true) t56) λt57=>zag t57 (K (.bool false) H) (zab .add false t29 (.int .i64 1) λt58=>Kb6 (zjc t0 t1 t8 t27 t28 t58) H)) (K (.bool true) H)
def zCo:=zai 3 t0 t1 λt13=>zaf 2 t13 λt14=>zae false 1 t14 H λt15=>zai 2 t15 t2 λt17=>zaf 1 t17 λt18=>zae false 1 t18 H λt19=>zah 1 t19 λt21=>zab .gtr false t21 (.int .i64 6) λt22=>zag t22 (K (.bool false) H) (ACalls tP zqC [t0,t1,t2] H λt26 H=>zah 1 t19 λt28=>zCp t0 t1 t26 t19 t28 (.int .i64 0) H K)
variable {t0 t1 t2 t3 t4 t5 t8 t14 t15 t27 t28 t29 t76 t77 t78} {H} {K} {Kb5 Kb6 Kb13}
theorem zM0:Lo1 (λt78=>zmh t0 t3 t4 t5 t14 t15 t76 t77 t78) (λt78 H Kb13=>zsN t0 t3 t4 t5 t14 t15 t76 t77 t78 H K Kb5 Kb13) t78 H (zA7 t0 t3 t4 t5 t14 t15 t76 t77 t78 H K Kb5):=lq1 zgm zM2
theorem zM1:Lo1 (λt15=>zmi t0 t3 t4 t14 t15) (λt15 H Kb5=>zsO t0 t3 t4 t14 t15 H K Kb5) t15 H (zA8 t0 t3 t4 t14 t15 H K):=lq1 zgm zA9
theorem zM3(h:HSc H→zsM t0 H K):ACalls tP zqk [t0] H K:=
 acb zgm Tryz.func131 zsP h
theorem zP8:Lo1 (λt29=>zjc t0 t1 t8 t27 t28 t29) (λt29 H Kb6=>ztD t0 t1 t8 t27 t28 t29 H K Kb6) t29 H (zCp t0 t1 t8 t27 t28 t29 H K):=lq1 zm1 zP9
theorem zQa(h:HSc H→zCo t0 t1 t2 H K):ACalls tP zqA [t0,t1,t2] H K:=
 acb zm1 Tryz.func170 ztE h
end
def zc6(data:List Dat)(d:Nat)(vars:Int)(t:VT):Bool:=zaD (data.take (d+1)) vars t && (zcb d vars t || !zcv d t)
def zbP(l:List (List UInt8)):List (List UInt8×AV):=l.map λs=>(s,.bool true)
theorem zgg(s:List UInt8):∀ l:List (List UInt8),(zbZ (zbP l) s).getD (.bool false)=.bool (decide (s∈l))
 |[]=>by simp[zbP,zbZ]
 |a::l=>by
  have:=zgg s l;cases h:a == s with
  |true=>
   have h':a=s:=by simpa using h
   simp[zbP,zbZ,h,h']
  |false=>
   have h':a≠s:=by simpa using h
   have h'':s≠a:=λe=>h' e.symm;simp only[zbP,aA,zbZ,h]at this ⊢;rw[this];simp[h'']
theorem zrs(s:List UInt8):∀ l:List (List UInt8),s ∉ l→zcX (zbP l) s (.bool true)=zbP (l++[s])
 |[],_=>rfl
 |a::l,h=>by
  have h1:(a == s)=false:=by simp at h;simpa usingλe=>h.1 e.symm
  have:=zrs s l (by simp at h;exact h.2);simp only[zbP,aA,zcX,h1,List.cons_append]at this ⊢;rw[this]
theorem zIZ(m:Nat)(l:List (List UInt8)):(AB.map (zbP l)).sc m=true:=by simp[AB.sc,zbP,AV.scV]
def zbo(data:List Dat):List (List UInt8):=data.map Dat.name
def za2(data:List Dat):List (List UInt8):=data.flatMap λD=>D.cons.map Con.name
def zcU(data:List Dat)(d:Nat)(vars:Int)(c:Con):Bool:=zcg c.name && (decide (c.args.length≤6) && c.args.all (zc6 data d vars))
def zca(data:List Dat)(d:Nat)(D:Dat):Bool:=zcg D.name && decide (0≤D.vars) && decide (D.vars≤6) && decide (1≤D.cons.length) && decide (D.cons.length≤8) && D.cons.all (zcU data d D.vars)
def zck(data:List Dat):List Dat→Nat→Bool
 |[],_=>true
 |D::l,d=>zca data d D && zck data l (d+1)
def zaB(data:List Dat):Bool:=decide (data.length≤12) && zck data data 0 && !zcf (zbo data) && !zcf (za2 data)
theorem zyR{A R:List (List UInt8)}{s:List UInt8}(h:s∈A):zcf (A++s::R)=true:=by simp only[zcf,bY,bv,da];rintro⟨_,_,h3⟩;exact h3 s h s (by simp) rfl
theorem zrl{l:List (List UInt8)}(h:l.Nodup):zcf l=false:=by simp[zcf,h]
theorem zyg{A:List (List UInt8)}{s:List UInt8}(h:A.Nodup)(hs:s ∉ A):(A++[s]).Nodup:=by rw[da];refine⟨h,by simp,?_⟩;intro a ha b hb;simp at hb;subst hb;exactλe=>hs (e ▸ ha)
theorem zxT{α:Type}{l:List α}{i:Nat}(h:i<l.length){p:α→Prop}(h1:∀x∈l.take i,p x)(h2:p l[i]):∀x∈l.take (i+1),p x:=by
 rw[aj h];intro x hx;rcases aP.1 hx with hx|hx
 ·exact h1 x hx
 ·simp at hx;subst hx;exact h2
theorem vt3(v:VT):∃a b c,v.cs=[a,b,c]∧a.known=true∧b.known=true∧c.known=true:=by obtain⟨k,n,ks⟩:=v;exact⟨_,_,_,rfl,rfl,rfl,rfl⟩
def zeO(data:List Dat)(d:Nat)(vars:Int)(t:VT):Bool:=zcb d vars t || zaD (data.take d) vars t
structure RCon (data:List Dat) (d:Nat) (vars:Int) (c:Con):Prop where
 up:zcg c.name=true
 len:c.args.length≤6
 args:∀x∈c.args,zeO data d vars x=true
structure RDat (data:List Dat) (d:Nat) (D:Dat):Prop where
 v0:0≤D.vars
 v6:D.vars≤6
 c1:1≤D.cons.length
 c8:D.cons.length≤8
 up:zcg D.name=true
 cons:∀c∈D.cons,RCon data d D.vars c
structure RData (data:List Dat):Prop where
 len:data.length≤12
 dats:∀d (h:d<data.length),RDat data d data[d]
 names:(zbo data).Nodup
 cons:(za2 data).Nodup
theorem zrH{α:Type}{l:List α}{i:Nat}(h:i<l.length):l.take (i+1)=l.take i++[l[i]]:=by rw[cC h]
theorem zwD:∀ l:List Dat,(∀ D∈l,D.cons.length≤10)→(za2 l).length≤l.length*10
 |[],_=>by simp[za2]
 |D::l,h=>by have h1:=zwD l (λD hD=>h D (by simp[hD]));have h2:=h D (by simp);rw[za2]at h1 ⊢;rw[bg,ao,aS,List.length_cons];omega
theorem zGX{data:List Dat}{d:Nat}(h:d<data.length):zbo (data.take (d+1))=zbo (data.take d)++[(data[d]).name]:=by rw[zbo,zrH h,bj];rfl
theorem zGt{data:List Dat}{d:Nat}(h:d<data.length):za2 (data.take (d+1))=za2 (data.take d)++(data[d]).cons.map Con.name:=by rw[za2,zrH h,bt];simp[za2]
theorem zzz(l:List (List UInt8))(s:List UInt8):strs (l++[s])=strs l++[[.str s]]:=by simp[strs]
theorem zws{s:List UInt8}{k:AV→Prop}:zau 1 [.str []] 1 [(0,.str s)] k=k (.sl [[.str s]] .full):=propext aG
theorem zyS(l:List (List UInt8))(hl:l.length≤1000000){tok:Tok}(H:zaa)(K:AV→zaa→Prop)(hK:K (.bool (zcf l)) H):ACalls tP ziy [.sl (strs l) tok] H K:=
 ACalls.wk (zUg l hl H K hK) ⟨.atom (.sl _ _),trivial⟩
theorem zGA{D:Dat}{i:Nat}(h:i<D.cons.length):(D.cons.map Con.cs)[i]?.getD []=[.str (D.cons[i]).name,.sl (VT.css (D.cons[i]).args) .none]:=by simp[h,Con.cs]
end Go.Proofs.YtaifokkaaahdoaaGreatDoor
