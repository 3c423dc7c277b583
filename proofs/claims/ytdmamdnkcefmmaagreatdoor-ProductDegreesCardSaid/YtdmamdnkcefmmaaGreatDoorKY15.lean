import Derived.Test.YtdmamdnkcefmmaaGreatDoorKTW3
import Derived.Test.YtdmamdnkcefmmaaGreatDoorKNum
import Derived.Test.YtdmamdnkcefmmaaGreatDoorProg
import Derived.KernelRfl
set_option linter.unusedSimpArgs false
set_option linter.unusedVariables false
set_option maxRecDepth 8000
namespace Go.Proofs.YtdmamdnkcefmmaaGreatDoor
open Go Go.Abs
theorem zE8 (b:UInt8) (r:List UInt8) (H:zaa) (K:AV→zaa→Prop) (hK:K (.int .i64 (sgn (b::r))) H):ACalls tP zom [.str (b::r)] H K:=by
 refine ACalls.out (zMh fun hs=>?_)
 have hO:=zcM (K:=K) (H:=H) (r:=.int .i64 (sgn (b::r))) hs rfl rfl hK
 have one:zdk (b::r)=false→zrn (.str (b::r)) (.str sgns) (.int .i64 0) H (Out H.length K):=by
  intro h2
  rw[zwt b r h2]at hO
  have hlen:sgns.length=13:=rfl
  generalize sgns=ws at *
  refine zMf (Inv:=fun q t4 H'=>∃ i:Nat,i≤ws.length∧q=ws.length-i∧t4=.int .i64 i∧(ws.drop i).contains b=ws.contains b∧H'=H) ws.length ?_ ?_
  ·intro _;exact⟨0,by omega,by omega,rfl,by simp,rfl⟩
  ·rintro q t8 H' ⟨i,hi,rfl,rfl,ho,rfl⟩ hsc _ hsF Kb hKb
   by_cases hlt:i<ws.length
   ·rw[List.drop_eq_getElem_cons hlt,List.contains_cons]at ho
    have e1:=zco b ws[i]
    cases hz:(b == ws[i]) with
    | true=>
     rw[hz,Bool.true_or]at ho
     rw[←ho]at hO
     simpa[zlp,hlt,e1,hz]using hO
    | false=>
     rw[hz,Bool.false_or]at ho
     simp[zlp,hlt,e1,hz]
     rw[zat (by omega) (by omega)]
     refine hKb _ _ ⟨ws.length-(i+1),by omega,Back.here (Nat.le_refl _) hs ?_ ⟨_,rfl,i+1,by omega,rfl,by simp,ho,rfl⟩⟩
     simp[zlq,AV.sc,AV.scV,AV.scA,AV.scB]
   ·obtain rfl:i=ws.length:=by omega
    rw[List.drop_length]at ho
    rw[←ho]at hO
    simpa[zlp,hlt]using hO
 by_cases hl:2≤(b::r).length
 ·have hl':(2:Int)≤r.length+1:=by simp only[List.length_cons]at hl;omega
  have hl2:1≤r.length:=by simp only[List.length_cons]at hl;omega
  cases h2:zdk (b::r) with
  | true=>
   have h3:sgn (b::r)=2:=by simp[sgn,h2]
   rw[h3]at hO
   unfold zdk at h2
   simp only[List.take_succ_cons]at h2 hO
   cases e1:(b::List.take 1 r == [45,62]) with
   | true=>simpa[zge,hl',hl2,e1]using hO
   | false=>
    cases e2:(b::List.take 1 r == [60,61]) with
    | true=>simpa[zge,hl',hl2,e1,e2]using hO
    | false=>
     rw[e1,e2]at h2
     simp only[Bool.false_or]at h2
     simpa[zge,hl',hl2,e1,e2,h2]using hO
  | false=>
   have ho:=one h2
   unfold sgns at ho
   unfold zdk at h2
   simp only[List.take_succ_cons]at h2
   rw[Bool.or_eq_false_iff,Bool.or_eq_false_iff]at h2
   simpa[zge,hl',hl2,h2.1.1,h2.1.2,h2.2]using ho
 ·have ho:=one (zpj hl)
  unfold sgns at ho
  have:¬ ((2:Int)≤r.length+1):=by simp only[List.length_cons]at hl;omega
  simpa[zge,this]using ho

def Tk.cs (t:Tk):List AV:=[.int .i64 t.kind,.str t.text,.int .i64 t.pos]
def zjq (kw:List UInt8→Bool) (b:UInt8) (r:List UInt8) (i:Nat):AV:=
 match tok kw b r with
 | .error e=>.tup [.agg [.int .i64 0,.str [],.int .i64 0],.int .i64 e]
 | .ok (k,n)=>.tup [.agg (Tk.cs ⟨k,(b::r).take n,i⟩),.int .i64 0]
theorem zjA {p:UInt8→Bool} (b:UInt8) (r:List UInt8):(b::r).take ((r.takeWhile p).length+1)=b::r.takeWhile p:=by
 rw[List.take_succ_cons]
 congr 1
 induction r with
 | nil=>simp
 | cons c r ih=>by_cases h:p c=true <;> simp[h,ih]
theorem zDB:zd1 tP zg5=true:=by kernel_rfl
theorem zDC:zd1 tP ze9=true:=by kernel_rfl
theorem zvM {H J:zaa} {K:AV→zaa→Prop} {k p e:Int} {t:List UInt8} (hs:HSc H) (h:K (.tup [.agg [.int .i64 k,.str t,.int .i64 p],.int .i64 e]) H) :
  Out H.length K (.tup [.agg [.int .i64 k,.str t,.int .i64 p],.int .i64 e]) (H++J):=Out.tup hs h ⟨za3 rfl rfl,za3 rfl rfl,trivial⟩
def zlP (t4 t6:AV) (H:zaa) (K:AV→zaa→Prop):Prop:=
 zaf 1 t6 fun t69=>
 zae false 1 t69 H fun t70=>
 ACalls tP zg6 [t70] H fun t71 H=>
 aUn .not t71 fun t72=>
 zag t72
 (zas [(.int .i64 0),(.str []),(.int .i64 0)] [(0,1),(1,1),(2,1)] [] fun t73=>
 zan 3 t4 t73 H fun H=>
 zae true 3 t4 H fun r0=>
 zaC [r0,(.int .i64 9)] (K · H))
 (zgi t4 t6 H K)
theorem zEZ (s:List UInt8) (hl:s.length≤1000000) (i:Nat) (hi:i<s.length) (H:zaa) (K:AV→zaa→Prop) (hK:K (zjq (kwF kwds) s[i] (s.drop (i+1)) i) H):ACalls tP zoy [.str s,.int .i64 i] H K:=by
 refine ACalls.out (zOh fun hs=>?_)
 have hdr:=List.drop_eq_getElem_cons hi
 have hrl:(s.drop i).length≤1000000:=by simp;omega
 generalize hb:s[i]=b at *
 generalize hr:s.drop (i+1)=r at *
 have hb':s[i]?.getD 0=b:=by simp[hi,hb]
 have post:∀ (k:Int) (n:Nat),tok (kwF kwds) b r=.ok (k,n)→∀ t,(b::r).take n=t→zgi (.ptr H.length 0) (.ptr (H.length+1) 0) (H++[.cells [.int .i64 0,.str [],.int .i64 0],.cells [.int .i64 k,.str t,.int .i64 i]]) (Out H.length K):=by
  intro k n ht t hte
  subst hte
  simp[zjq,ht,Tk.cs]at hK
  simp[zgi,zz6,AV.known,AV.isV]
  exact zvM hs hK
 have bad:∀ e:Int,tok (kwF kwds) b r=.error e→∀ J,Out H.length K (.tup [.agg [.int .i64 0,.str [],.int .i64 0],.int .i64 e]) (H++J):=by
  intro e ht J
  simp[zjq,ht]at hK
  exact zvM hs hK
 have hi':=Nat.le_of_lt hi
 by_cases hLU:(zbT b || bUp b)=true
 ·have hin:bIn b=true:=by simp[bIn,hLU]
  simp[zrY,hi,hb,hi',zas,zaH,AV.known]
  refine znO b _ _ ?_
  have hc:zbT b=true∨(zbT b=false∧bUp b=true):=by cases hL:zbT b <;> simp[hL]at hLU ⊢;exact hLU
  have hpost:=fun k=>post k ((r.takeWhile bIn).length+1)
  simp only[tok,hLU,if_true,zjA]at hpost
  rcases hc with hL | ⟨hL,hU⟩
  case' inl=>simp[hL]
  case' inr=>simp[hL];refine zjH b _ _ ?_;simp[hU]
  all_goals
   rw[hdr]
   refine zv1 bIn zg5 zDB zGB (b::r) (by rw[←hdr];exact hrl) _ _ ?_
   simp[hin,AV.known]
   by_cases hn:(r.takeWhile bIn).length+1>24
   ·have hn':(24:Int)<(r.takeWhile bIn).length+1:=by omega
    have:=bad 9 (by simp only[tok,hLU,if_true];rw[if_pos hn])
    simp[hn',AV.known,AV.isV]
    exact this _
   ·have hn':¬ (24:Int)<(r.takeWhile bIn).length+1:=by omega
    simp[hn']
    refine zjH b _ _ ?_
    rw[if_neg hn]at hpost
    cases hU:bUp b with
    | true=>
     simp[AV.known,zgh]
     exact hpost 2 (by simp[hU]) _ rfl
    | false=>
     simp[AV.known]
     refine zDz _ _ _ ?_
     cases hkw:kwF kwds (b::r.takeWhile bIn) with
     | true=>
      simp[AV.known,zgh]
      exact hpost 4 (by simp[hU,hkw]) _ rfl
     | false=>
      simp[AV.known,zgh]
      exact hpost 1 (by simp[hU,hkw]) _ rfl
 ·have hL:zbT b=false:=by simp at hLU;exact hLU.1
  have hU:bUp b=false:=by simp at hLU;exact hLU.2
  simp[zrY,hi,hb,zas,zaH,AV.known]
  refine znO b _ _ ?_
  simp[hL]
  refine zjH b _ _ ?_
  simp[hU]
  refine znv b _ _ ?_
  cases hD:zaW b with
  | true=>
   simp[hi',AV.known]
   rw[hdr]
   refine zv1 zaW ze9 zDC znv (b::r) (by rw[←hdr];exact hrl) _ _ ?_
   have e1:((b.toNat:Int) == 48)=(b == 48):=zco b 48
   have htk:tok (kwF kwds) b r=if (b == 48 && decide ((r.takeWhile zaW).length+1>1))=true then .error 2 else if zb5 (b::r.takeWhile zaW) 0=true then .ok (3,(r.takeWhile zaW).length+1) else .error 9:=by
    simp only[tok,hLU,hD,if_true,zjA]
    rfl
   have hsm:∀ J,ACalls tP zg6 [.str (b::r.takeWhile zaW)] (H++J) fun t H'=>t=.bool (zb5 (b::r.takeWhile zaW) 0)∧H'=H++J:=by
    intro J
    refine zFk _ ?_ ?_ _ _ ⟨rfl,rfl⟩
    ·intro c hc
     rcases List.mem_cons.1 hc with rfl | hc
     ·exact hD
     ·exact List.all_eq_true.1 (List.all_takeWhile) c hc
    ·have h1:(r.takeWhile zaW).length≤r.length:=(List.takeWhile_sublist _).length_le
     rw[hdr]at hrl
     simp at hrl ⊢
     omega
   simp[hD,AV.known,e1]
   have hpost:=post 3 ((r.takeWhile zaW).length+1)
   rw[zjA]at hpost
   rw[htk]at hpost bad
   have last:∀ J,(¬ (b == 48 && decide ((r.takeWhile zaW).length+1>1))=true)→J=[.cells [.int .i64 0,.str [],.int .i64 0],.cells [.int .i64 3,.str (b::r.takeWhile zaW),.int .i64 i]]→zlP (.ptr H.length 0) (.ptr (H.length+1) 0) (H++J) (Out H.length K):=by
    rintro J hne rfl
    rw[if_neg hne]at hpost bad
    simp[zlP]
    refine (hsm _).mono ?_
    rintro _ _ ⟨rfl,rfl⟩
    cases hv:zb5 (b::r.takeWhile zaW) 0 with
    | true=>
     simp
     exact hpost (by simp[hv]) _ rfl
    | false=>
     simp[AV.known,zas,zaH,AV.isV]
     exact bad 9 (by simp[hv]) _
   cases hz:(b == 48) with
   | true=>
    simp[hz]
    by_cases hn:1<(r.takeWhile zaW).length+1
    ·have hn':(1:Int)<(r.takeWhile zaW).length+1:=by omega
     have hd:decide ((r.takeWhile zaW).length+1>1)=true:=decide_eq_true hn
     have:=bad 2 (by rw[hz,hd];rfl)
     simp[hn',AV.known,AV.isV]
     exact this _
    ·have hn':¬ (1:Int)<(r.takeWhile zaW).length+1:=by omega
     have hd:decide ((r.takeWhile zaW).length+1>1)=false:=decide_eq_false hn
     have:=last _ (by rw[hz,hd];decide) rfl
     simp[zlP,zas,zaH]at this
     simp[hn']
     exact this
   | false=>
    have:=last _ (by simp[hz]) rfl
    simp[zlP,zas,zaH]at this
    simp[hz]
    exact this
  | false=>
   simp[hi',AV.known]
   rw[hdr]
   refine zE9 b r _ _ ?_
   simp[AV.known]
   have htk:tok (kwF kwds) b r=if sgn (b::r)=0 then .error 2 else .ok (5,sgn (b::r)):=by
    simp only[tok,hLU,hD]
    rfl
   by_cases hz:sgn (b::r)=0
   ·have:=bad 2 (by rw[htk,if_pos hz])
    simp[hz,AV.isV]
    exact this _
   ·have:=post 5 (sgn (b::r)) (by rw[htk,if_neg hz]) _ rfl
    have he:(List.take (sgn (b::r)) (b::r)).isEmpty=false:=by
     cases h:sgn (b::r) with
     | zero=>exact absurd h hz
     | succ n=>simp
    simp[he]
    exact this
def cat (l:List Tk):Except (Nat × Int) (List Tk)→Except (Nat × Int) (List Tk)
 | .error e=>.error e
 | .ok m=>.ok (l++m)
theorem zt9 (l m:List Tk) (r:Except (Nat × Int) (List Tk)):cat l (cat m r)=cat (l++m) r:=by cases r <;> simp[cat]
@[simp] theorem zVs (r:Except (Nat × Int) (List Tk)):cat [] r=r:=by cases r <;> rfl
def zee (r:List UInt8):List UInt8:=r.dropWhile (· != 10)
def zef (r:List UInt8):Nat:=(r.takeWhile (· != 10)).length
section
variable (kw:List UInt8→Bool)
theorem zpD (p:Nat):zbs kw [] p=.ok [⟨6,[],p⟩]:=by unfold zbs;rfl
theorem zwZ {b:UInt8} (h:zdc b=true) (r:List UInt8) (p:Nat):zbs kw (b::r) p=zbs kw r (p+1):=by
 conv=>lhs;unfold zbs
 simp[h]
theorem zw1 {b:UInt8} (h0:zdc b=false) (h:(b == 35)=true) (r:List UInt8) (p:Nat):zbs kw (b::r) p=zbs kw (zee r) (p+1+zef r):=by
 conv=>lhs;unfold zbs
 simp only[h0,h,Bool.false_eq_true,if_false,if_true]
 rfl
theorem zw0 {b:UInt8} (h0:zdc b=false) (h:(b == 35)=false) {r:List UInt8} {p:Nat} {e:Int} (ht:tok kw b r=.error e):zbs kw (b::r) p=.error (p,e):=by
 conv=>lhs;unfold zbs
 simp only[h0,h,Bool.false_eq_true,if_false,ht]
theorem zw2 {b:UInt8} (h0:zdc b=false) (h:(b == 35)=false) {r:List UInt8} {p:Nat} {k:Int} {n:Nat} (ht:tok kw b r=.ok (k,n)) :
  zbs kw (b::r) p=cat [⟨k,(b::r).take n,p⟩] (zbs kw ((b::r).drop n) (p+n)):=by
 conv=>lhs;unfold zbs
 have hn:=zpC ht
 obtain⟨m,rfl⟩:∃ m,n=m+1:=⟨n-1,by omega⟩
 simp only[h0,h,Bool.false_eq_true,if_false,ht,Nat.add_sub_cancel,List.drop_succ_cons]
 cases zbs kw (r.drop m) (p+(m+1)) <;> rfl
end
theorem zjs {b:UInt8} (h:(b == 10)=false) (r:List UInt8):zee (b::r)=zee r∧zef (b::r)=1+zef r:=by
 have hb:b≠10:=by simpa using h
 constructor
 ·simp[zee,hb]
 ·simp[zef,hb];omega
theorem zwu {b:UInt8} (h:(b == 10)=true) (r:List UInt8):zee (b::r)=b::r∧zef (b::r)=0:=by
 have hb:b=10:=by simpa using h
 constructor
 ·simp[zee,hb]
 ·simp[zef,hb]
theorem skipC_nil:zee []=[]∧zef []=0:=⟨rfl,rfl⟩
theorem zpB {kw:List UInt8→Bool} {b:UInt8} {r:List UInt8} {k:Int} {n:Nat} (h:tok kw b r=.ok (k,n)):n≤(b::r).length:=by
 have tw:∀ p:UInt8→Bool,(r.takeWhile p).length≤r.length:=fun p=>(List.takeWhile_sublist _).length_le
 unfold tok at h
 split at h
 ·simp only at h;split at h <;> simp at h;have:=tw bIn;simp;omega
 ·split at h
  ·simp only at h;split at h
   ·simp at h
   ·split at h <;> simp at h;have:=tw zaW;simp;omega
  ·simp only at h
   split at h <;> simp at h
   obtain⟨_,rfl⟩:=h
   unfold sgn
   split
   ·rename_i h2
    by_cases hl:2≤(b::r).length
    ·exact hl
    ·rw[zpj hl]at h2;cases h2
   ·split
    ·simp
    ·split <;> simp
theorem zGk {kw:List UInt8→Bool} {b:UInt8} {r:List UInt8} {e:Int} (h:tok kw b r=.error e):e=2∨e=9:=by
 unfold tok at h
 split at h
 ·simp only at h;split at h <;> simp at h;omega
 ·split at h
  ·simp only at h;split at h
   ·simp at h;omega
   ·split at h <;> simp at h;omega
  ·simp only at h
   split at h <;> simp at h;omega
def zeF (s:List UInt8):AV:=
 if s.length>16384 then .tup [.sl [] .none,.int .i64 0,.int .i64 9] else
 match zbs (kwF kwds) s 0 with
 | .error (p,e)=>.tup [.sl [] .none,.int .i64 p,.int .i64 e]
 | .ok l=>.tup [.sl (l.map Tk.cs) .none,.int .i64 0,.int .i64 0]
theorem two {H:zaa} {x y:AB}:H++[x,y]=(H++[x])++[y]:=by simp
theorem zvL {H J:zaa} {K:AV→zaa→Prop} {p e:Int} (hs:HSc H) (hK:K (.tup [.sl [] .none,.int .i64 p,.int .i64 e]) H):Out H.length K (.tup [.snil,.int .i64 p,.int .i64 e]) (H++J):=
 Out.tup hs hK ⟨zdy,za3 rfl rfl,za3 rfl rfl,trivial⟩
theorem zFW (s:List UInt8) (H:zaa) (K:AV→zaa→Prop) (hK:K (zeF s) H):ACalls tP zot [.str s] H K:=by
 refine ACalls.out (zNO fun hs=>?_)
 by_cases hl:s.length>16384
 ·have hl':(16384:Int)<s.length:=by omega
  simp[zrQ,hl',AV.isV]
  unfold zeF at hK
  rw[if_pos hl]at hK
  exact Out.tup0 hs hK ⟨zdy,za3 rfl rfl,za3 rfl rfl,trivial⟩
 have hl':¬ (16384:Int)<s.length:=by omega
 unfold zeF at hK
 rw[if_neg hl]at hK
 simp[zrQ,hl']
 have hperm:∀ n,HSc (H++[.perm zew 3 n]):=fun n=>hs.append rfl
 unfold zlM
 refine ALoop.own 5 zew 3 rfl ?_
 show zlM (.str s) (.sl [] (.own H.length)) (.int .i64 0) (H++[.perm zew 3 0]) (Out H.length K)
 refine zNL (Inv:=fun q t5 t6 H'=>∃ (i:Nat) (l:List Tk),i≤s.length∧l.length≤i∧q=s.length-i∧t6=.int .i64 i∧t5=.sl (l.map Tk.cs) (.own H.length)∧H'=H++[.perm zew 3 l.length]∧cat l (zbs (kwF kwds) (s.drop i) i)=zbs (kwF kwds) s 0) s.length ?_ ?_
 ·intro _;exact⟨0,[],by omega,by simp,by omega,rfl,rfl,rfl,by simp⟩
 ·rintro q t5 t6 H' ⟨i,l,hi,hll,rfl,rfl,rfl,rfl,ho⟩ hsc hlen hsF Kb hKb
  have done:cat l (.ok [⟨6,[],s.length⟩])=zbs (kwF kwds) s 0→zlL (.str s) (.sl (l.map Tk.cs) (.own H.length)) (H++[.perm zew 3 l.length]) (Out H.length K):=by
   intro ho
   rw[←ho]at hK
   simp[zlL,zzY,zas,zaH,zau,zaR,plain,AV.pd,zaw,zaK,zaG,AV.isV]
   refine⟨by omega,?_⟩
   simp[cat,Tk.cs]at hK
   exact Out.tup hs hK ⟨slV,za3 rfl rfl,za3 rfl rfl,trivial⟩
  by_cases hlt:i<s.length
  ·have hdr:=List.drop_eq_getElem_cons hlt
   simp[zrR,hlt]
   refine zCr _ _ _ ?_
   have e35:((s[i].toNat:Int) == 35)=(s[i] == 35):=zco s[i] 35
   cases hbl:zdc s[i] with
   | true=>
    rw[hdr,zwZ _ hbl]at ho
    simp[zgg]
    rw[zat (by omega) (by omega)]
    refine hKb _ _ ⟨s.length-(i+1),by omega,Back.here (by simp) (hperm _) ?_ ⟨_,_,rfl,i+1,l,by omega,by omega,rfl,by simp,rfl,rfl,ho⟩⟩
    simp[zgf,AV.sc,AV.scV,AV.scA,AV.scB]
   | false=>
    simp[e35]
    cases hsh:(s[i] == 35) with
    | true=>
     simp
     rw[hdr,zw1 _ hbl hsh]at ho
     have h10:(s[i] == 10)=false:=by
      rw[beq_iff_eq]at hsh;rw[hsh];rfl
     obtain⟨c1,c2⟩:=zjs h10 (s.drop (i+1))
     rw[Nat.add_assoc,←c1,←c2,←hdr]at ho
     refine zNM (Inv:=fun q t6 H'=>∃ (j:Nat),i≤j∧j≤s.length∧q=s.length-j∧t6=.int .i64 j∧H'=H++[.perm zew 3 l.length]∧cat l (zbs (kwF kwds) (zee (s.drop j)) (j+zef (s.drop j)))=zbs (kwF kwds) s 0) (s.length-i) ?_ ?_
     ·intro _;exact⟨i,by omega,by omega,by omega,rfl,rfl,ho⟩
     ·rintro q t6 H' ⟨j,hij,hj,rfl,rfl,rfl,ho⟩ hsc hlen hsF Kb9 hKb9
      by_cases hjlt:j<s.length
      ·have hdrj:=List.drop_eq_getElem_cons hjlt
       have e10:((s[j].toNat:Int) == 10)=(s[j] == 10):=zco s[j] 10
       simp[zrS,hjlt,e10]
       cases hz:(s[j] == 10) with
       | true=>
        obtain⟨d1,d2⟩:=zwu hz (s.drop (j+1))
        rw[hdrj,d1,d2,←hdrj,Nat.add_zero]at ho
        have hij':i≠j:=by rintro rfl;rw[h10]at hz;cases hz
        simp[zgg]
        refine hKb _ _ ⟨s.length-j,by omega,Back.here (by simp) (hperm _) ?_ ⟨_,_,rfl,j,l,by omega,by omega,rfl,by simp,rfl,rfl,ho⟩⟩
        simp[zgf,AV.sc,AV.scV,AV.scA,AV.scB]
       | false=>
        obtain⟨d1,d2⟩:=zjs hz (s.drop (j+1))
        rw[hdrj,d1,d2,←Nat.add_assoc]at ho
        simp
        rw[zat (by omega) (by omega)]
        refine hKb9 _ _ ⟨s.length-(j+1),by omega,Back.here (by simp) (hperm _) ?_ ⟨_,rfl,j+1,by omega,by omega,rfl,by simp,rfl,ho⟩⟩
        simp[zlK,AV.sc,AV.scV,AV.scA,AV.scB]
      ·obtain rfl:j=s.length:=by omega
       simp[zrS]
       rw[List.drop_length,skipC_nil.1,skipC_nil.2,Nat.add_zero,zpD]at ho
       exact done ho
    | false=>
     simp
     refine zEZ s (by omega) i hlt _ _ ?_
     unfold zjq
     cases ht:tok (kwF kwds) s[i] (s.drop (i+1)) with
     | error e=>
      rw[hdr,zw0 _ hbl hsh ht]at ho
      have he:(e != 0)=true:=by rcases zGk ht with rfl | rfl <;> rfl
      rw[←ho]at hK
      simp[AV.known,AV.isV,he]
      exact zvL hs hK
     | ok kn=>
      obtain⟨k,n⟩:=kn
      rw[hdr,zw2 _ hbl hsh ht,zt9,←hdr]at ho
      have hn:=zpB ht
      rw[←hdr]at hn
      simp at hn
      have hn0:=zpC ht
      simp[Tk.cs,AV.known,zau,zaR,plain,AV.pd,zaw,zaK,zaG,zgg]
      refine⟨by omega,?_⟩
      rw[show min n (s.length-i)=n by omega,zat (by omega) (by omega),two]
      refine hKb _ _ ⟨s.length-(i+n),by omega,Back.same (by simp) (hperm _) ?_ ⟨_,_,rfl,i+n,l++[⟨k,(s.drop i).take n,i⟩],by omega,by simp;omega,rfl,by simp,by simp[Tk.cs],by simp,?_⟩⟩
      ·simp[zgf,AV.sc,AV.scV,AV.scA,AV.scB]
      ·rw[List.drop_drop]at ho;exact ho
  ·obtain rfl:i=s.length:=by omega
   rw[List.drop_length,zpD]at ho
   simpa[zrR]using done ho
theorem zjB (s:List UInt8) (i n:Nat):List.drop i (List.take (i+n) s)=List.take n (List.drop i s):=by
 rw[List.drop_take];congr 1;omega
def zf9 (t0 t5 t6 t7 t8:AV) (H:zaa) (K:AV→zaa→Prop) (Kb5:List AV→zaa→Prop):Prop:=
 zab .gtr false t8 (.int .i64 24) fun t118=>
 zag t118
 (zaC [.snil,t6,(.int .i64 9)] (K · H))
 (ACalls tP zfT [t7] H fun t121 H=>
 zag t121
 (zeI t0 t5 t6 t8 (.int .i64 2) H K Kb5)
 (zab .add false t6 t8 fun t126=>
 zaN 0 0 t0 (some t6) (some t126) fun t127=>
 ACalls tP ziD [t127] H fun t128 H=>
 zag t128
 (zeI t0 t5 t6 t8 (.int .i64 4) H K Kb5)
 (zeI t0 t5 t6 t8 (.int .i64 1) H K Kb5)))
section
variable (s:List UInt8) (hl:¬ s.length>16384) (i:Nat) (hlt:i<s.length) (H:zaa) (l:List Tk) (hll:l.length≤i) (hperm:∀ n,HSc (H++[.perm zbl 3 n])) (K:AV→zaa→Prop) (Kb:List AV→zaa→Prop)
include hl hlt hll hperm
theorem zGC (hLU:(zbT s[i] || bUp s[i])=true)
  (app:∀ (k:Int) (n:Nat),tok (kwF kwds) s[i] (s.drop (i+1))=.ok (k,n)→∀ t,(s.drop i).take n=t→zhE (.str s) (.sl (l.map Tk.cs++[[.int .i64 k,.str t,.int .i64 i]]) (.own H.length)) (.int .i64 i) (.int .i64 n) (H++[.perm zbl 3 (l.length+1)]) (Out H.length K) Kb)
  (bad:∀ e:Int,tok (kwF kwds) s[i] (s.drop (i+1))=.error e→Out H.length K (.tup [.snil,.int .i64 i,.int .i64 e]) (H++[.perm zbl 3 l.length])) :
  zqu (.str s) (.sl (l.map Tk.cs) (.own H.length)) (.int .i64 i) (.int .u8 s[i].toNat) (.int .i64 1) (H++[.perm zbl 3 l.length]) (Out H.length K) Kb:=by
 refine zJe (Inv:=fun q t8 H'=>∃ (j:Nat),i+j≤s.length∧0<j∧q=s.length-j∧t8=.int .i64 j∧H'=H++[.perm zbl 3 l.length]∧j+((s.drop (i+j)).takeWhile bIn).length=((s.drop (i+1)).takeWhile bIn).length+1) (s.length-1) ?_ ?_
 ·intro _;exact⟨1,by omega,by omega,by omega,rfl,rfl,by omega⟩
 ·rintro q t8 H' ⟨j,hij,hj0,rfl,rfl,rfl,hn⟩ hsc hlen hsF Kb18 hKb18
  have w1:IntKind.i64.wrap ((i:Int)+j)=i+j:=zat (by omega) (by omega)
  have w2:IntKind.i64.wrap ((j:Int)+1)=j+1:=zat (by omega) (by omega)
  have fin:((s.drop (i+j)).takeWhile bIn).length=0→zf9 (.str s) (.sl (l.map Tk.cs) (.own H.length)) (.int .i64 i) (.int .u8 s[i].toNat) (.int .i64 j) (H++[.perm zbl 3 l.length]) (Out H.length K) Kb:=by
   intro h0
   rw[h0]at hn
   have htk:tok (kwF kwds) s[i] (s.drop (i+1))=if j>24 then .error 9 else .ok (if bUp s[i]=true then 2 else if kwF kwds ((s.drop i).take j)=true then 4 else 1,j):=by
    rw[List.drop_eq_getElem_cons hlt]
    simp only[tok,hLU,if_true,←hn,Nat.add_zero]
   by_cases h24:j>24
   ·have h24':(24:Int)<j:=by omega
    rw[if_pos h24]at htk
    simp[zf9,h24',AV.isV]
    exact bad 9 htk
   ·have h24':¬ (24:Int)<j:=by omega
    rw[if_neg h24]at htk
    simp[zf9,h24']
    refine zjG _ _ _ ?_
    have fin2:∀ k,k=(if bUp s[i]=true then 2 else if kwF kwds ((s.drop i).take j)=true then 4 else 1:Int)→zeI (.str s) (.sl (l.map Tk.cs) (.own H.length)) (.int .i64 i) (.int .i64 j) (.int .i64 k) (H++[.perm zbl 3 l.length]) (Out H.length K) Kb:=by
     intro k hk
     rw[←hk]at htk
     have:=app k j htk _ rfl
     simp[zeI,w1,w2,zas,zaH,zau,zaR,plain,AV.pd,zaw,zaK,zaG,zeJ]
     refine⟨by omega,by omega,by omega,?_⟩
     rw[show ((i:Int)+j).toNat=i+j by omega,zjB]
     exact this
    cases hU:bUp s[i] with
    | true=>simp;exact fin2 2 (by simp[hU])
    | false=>
     simp[w1,w2]
     refine⟨by omega,by omega,?_⟩
     rw[show ((i:Int)+j).toNat=i+j by omega,zjB]
     refine zDA _ _ _ ?_
     cases hkw:kwF kwds ((s.drop i).take j) with
     | true=>simp;exact fin2 4 (by simp[hU,hkw])
     | false=>simp;exact fin2 1 (by simp[hU,hkw])
  by_cases hjlt:i+j<s.length
  ·have e95:((s[i+j].toNat:Int) == 95)=(s[i+j] == 95):=zco s[i+j] 95
   have hjlt':(i+j:Int)<s.length:=by omega
   rw[List.drop_eq_getElem_cons hjlt,List.takeWhile_cons]at hn fin
   have key:bIn s[i+j]=true→Kb18 (zhD (.str s) (.sl (l.map Tk.cs) (.own H.length)) (.int .i64 i) (.int .u8 s[i].toNat) (.int .i64 (j+1))) (H++[.perm zbl 3 l.length]):=by
    intro hbin
    rw[hbin]at hn
    simp at hn
    refine hKb18 _ _ ⟨s.length-(j+1),by omega,Back.here (by simp) (hperm _) ?_ ⟨_,rfl,j+1,by omega,by omega,rfl,by simp,rfl,by rw[←Nat.add_assoc];omega⟩⟩
    simp[zhD,AV.sc,AV.scV,AV.scA,AV.scB]
   have no:bIn s[i+j]=false→zf9 (.str s) (.sl (l.map Tk.cs) (.own H.length)) (.int .i64 i) (.int .u8 s[i].toNat) (.int .i64 j) (H++[.perm zbl 3 l.length]) (Out H.length K) Kb:=by
    intro hbin
    rw[hbin]at fin
    exact fin (by simp)
   have hget:s[((i:Int)+j).toNat]?.getD 0=s[i+j]:=by
    rw[show ((i:Int)+j).toNat=i+j by omega]
    simp[hjlt]
   unfold bIn at key no
   simp[zqr,w1,w2,hjlt',hget]
   refine⟨by omega,?_⟩
   refine zu6 _ _ _ ?_
   cases hL:zbT s[i+j] with
   | true=>simpa using key (by simp[hL])
   | false=>
    simp[w1,w2,hjlt',hget]
    refine⟨by omega,zjG _ _ _ ?_⟩
    cases hU:bUp s[i+j] with
    | true=>simpa using key (by simp[hU])
    | false=>
     simp[w1,w2,hjlt',hget]
     refine⟨by omega,znu _ _ _ ?_⟩
     cases hD:zaW s[i+j] with
     | true=>simpa using key (by simp[hD])
     | false=>
      simp[w1,w2,hjlt',hget,e95]
      refine⟨by omega,?_⟩
      cases h95:(s[i+j] == 95) with
      | true=>simpa using key (by simp[h95])
      | false=>simpa[zf9,w1]using no (by simp[hL,hU,hD,h95])
  ·have hjlt':¬ (i+j:Int)<s.length:=by omega
   have:s.drop (i+j)=[]:=List.drop_eq_nil_of_le (by omega)
   rw[this]at fin
   have:=fin rfl
   simp[zqr,w1,w2,hjlt']
   simpa[zf9,w1]using this
end
def zku (t0 t5 t6 t8:AV) (H:zaa) (K:AV→zaa→Prop) (Kb5:List AV→zaa→Prop):Prop:=
 zab .add false t6 t8 fun t172=>
 zaN 0 0 t0 (some t6) (some t172) fun t173=>
 ACalls tP zfU [t173] H fun t174 H=>
 zaz t174 0 fun t175=>
 zaz t174 1 fun t176=>
 aUn .not t176 fun t178=>
 zag t178
 (zaC [.snil,t6,(.int .i64 9)] (K · H))
 (zab .add false t6 t8 fun t185=>
 zaN 0 0 t0 (some t6) (some t185) fun t186=>
 zas [(.int .i64 0),(.str []),(.int .i64 0)] [(0,1),(1,1),(2,1)] [(0,(.int .i64 3)),(1,t186),(2,t6)] fun t188=>
 zau 3 [(.int .i64 0),(.str []),(.int .i64 0)] 1 [(0,t188)] fun t189=>
 zaw zbl 3 32 t5 t189 H fun t190 H=>
 zeJ t0 t190 t6 t8 H K Kb5)
def zga (t0 t5 t6 t7 t8:AV) (H:zaa) (K:AV→zaa→Prop) (Kb5:List AV→zaa→Prop):Prop:=
 zab .gtr false t8 (.int .i64 1) fun t161=>
 zac t161 true H (fun K'=>K' t7 H) fun t163 H=>
 zac t161 true H (fun K'=>zab .eql false t163 (.int .u8 48) (K' · H)) fun t164 H=>
 zaj t161 t164 (.bool false) fun t165=>
 zag t165
 (zaC [.snil,t6,(.int .i64 2)] (K · H))
 (zab .add false t6 t8 fun t172=>
 zaN 0 0 t0 (some t6) (some t172) fun t173=>
 ACalls tP zfU [t173] H fun t174 H=>
 zaz t174 0 fun t175=>
 zaz t174 1 fun t176=>
 aUn .not t176 fun t178=>
 zag t178
 (zaC [.snil,t6,(.int .i64 9)] (K · H))
 (zab .add false t6 t8 fun t185=>
 zaN 0 0 t0 (some t6) (some t185) fun t186=>
 zas [(.int .i64 0),(.str []),(.int .i64 0)] [(0,1),(1,1),(2,1)] [(0,(.int .i64 3)),(1,t186),(2,t6)] fun t188=>
 zau 3 [(.int .i64 0),(.str []),(.int .i64 0)] 1 [(0,t188)] fun t189=>
 zaw zbl 3 32 t5 t189 H fun t190 H=>
 zeJ t0 t190 t6 t8 H K Kb5))
section
variable (s:List UInt8) (hl:¬ s.length>16384) (i:Nat) (hlt:i<s.length) (H:zaa) (l:List Tk) (hll:l.length≤i) (hperm:∀ n,HSc (H++[.perm zbl 3 n])) (K:AV→zaa→Prop) (Kb:List AV→zaa→Prop)
include hl hlt hll hperm
theorem zD1 (hLU:¬ (zbT s[i] || bUp s[i])=true) (hD:zaW s[i]=true)
  (app:∀ (k:Int) (n:Nat),tok (kwF kwds) s[i] (s.drop (i+1))=.ok (k,n)→∀ t,(s.drop i).take n=t→zhE (.str s) (.sl (l.map Tk.cs++[[.int .i64 k,.str t,.int .i64 i]]) (.own H.length)) (.int .i64 i) (.int .i64 n) (H++[.perm zbl 3 (l.length+1)]) (Out H.length K) Kb)
  (bad:∀ e:Int,tok (kwF kwds) s[i] (s.drop (i+1))=.error e→Out H.length K (.tup [.snil,.int .i64 i,.int .i64 e]) (H++[.perm zbl 3 l.length])) :
  zqv (.str s) (.sl (l.map Tk.cs) (.own H.length)) (.int .i64 i) (.int .u8 s[i].toNat) (.int .i64 1) (H++[.perm zbl 3 l.length]) (Out H.length K) Kb:=by
 refine zJf (Inv:=fun q t8 H'=>∃ (j:Nat),i+j≤s.length∧0<j∧q=s.length-j∧t8=.int .i64 j∧H'=H++[.perm zbl 3 l.length]∧j+((s.drop (i+j)).takeWhile zaW).length=((s.drop (i+1)).takeWhile zaW).length+1) (s.length-1) ?_ ?_
 ·intro _;exact⟨1,by omega,by omega,by omega,rfl,rfl,by omega⟩
 ·rintro q t8 H' ⟨j,hij,hj0,rfl,rfl,rfl,hn⟩ hsc hlen hsF Kb18 hKb18
  have w1:IntKind.i64.wrap ((i:Int)+j)=i+j:=zat (by omega) (by omega)
  have w2:IntKind.i64.wrap ((j:Int)+1)=j+1:=zat (by omega) (by omega)
  have e48:((s[i].toNat:Int) == 48)=(s[i] == 48):=zco s[i] 48
  have fin:((s.drop (i+j)).takeWhile zaW).length=0→zga (.str s) (.sl (l.map Tk.cs) (.own H.length)) (.int .i64 i) (.int .u8 s[i].toNat) (.int .i64 j) (H++[.perm zbl 3 l.length]) (Out H.length K) Kb:=by
   intro h0
   rw[h0]at hn
   have hdj:(s.drop i).take j=s[i]::(s.drop (i+1)).takeWhile zaW:=by
    rw[List.drop_eq_getElem_cons hlt,show j=((s.drop (i+1)).takeWhile zaW).length+1 by omega,zjA]
   have htk:tok (kwF kwds) s[i] (s.drop (i+1))=if (s[i] == 48 && decide (j>1))=true then .error 2 else if zb5 ((s.drop i).take j) 0=true then .ok (3,j) else .error 9:=by
    rw[List.drop_eq_getElem_cons hlt]
    simp only[tok,hLU,hD,if_true,←hn,Nat.add_zero]
    rfl
   have hval:∀ (K:AV→zaa→Prop) (H:zaa),(∀ n,K (.tup [.int .i64 n,.bool (zb5 ((s.drop i).take j) 0)]) H)→ACalls tP zfU [.str ((s.drop i).take j)] H K:=by
    intro K H hK
    refine zGu _ ?_ (by simp;omega) _ _ hK
    intro c hc
    rw[hdj]at hc
    rcases List.mem_cons.1 hc with rfl | hc
    ·exact hD
    ·exact List.all_eq_true.1 (List.all_takeWhile) c hc
   have rest:¬ (s[i] == 48 && decide (j>1))=true→zku (.str s) (.sl (l.map Tk.cs) (.own H.length)) (.int .i64 i) (.int .i64 j) (H++[.perm zbl 3 l.length]) (Out H.length K) Kb:=by
    intro hne
    rw[if_neg hne]at htk
    simp[zku,w1]
    refine⟨by omega,by omega,?_⟩
    rw[show ((i:Int)+j).toNat=i+j by omega,zjB]
    refine hval _ _ fun n=>?_
    cases hv:zb5 ((s.drop i).take j) 0 with
    | false=>
     rw[hv]at htk
     simp[AV.isV]
     exact bad 9 htk
    | true=>
     rw[hv]at htk
     have:=app 3 j htk _ rfl
     simp[zas,zaH,zau,zaR,plain,AV.pd,zaw,zaK,zaG,zeJ]
     refine⟨by omega,by omega,by omega,?_⟩
     exact this
   by_cases h1:j>1
   ·have h1':(1:Int)<j:=by omega
    have hd:decide (j>1)=true:=decide_eq_true h1
    rw[hd]at rest htk
    cases hz:(s[i] == 48) with
    | true=>
     rw[hz]at htk
     simp[zga,h1',e48,hz,AV.isV]
     exact bad 2 htk
    | false=>
     have:=rest (by rw[hz];decide)
     simp[zga,h1',e48,hz]
     simpa[zku]using this
   ·have h1':¬ (1:Int)<j:=by omega
    have:=rest (by rw[decide_eq_false h1];simp)
    simp[zga,h1']
    simpa[zku]using this
  by_cases hjlt:i+j<s.length
  ·have hjlt':(i+j:Int)<s.length:=by omega
   rw[List.drop_eq_getElem_cons hjlt,List.takeWhile_cons]at hn fin
   have hget:s[((i:Int)+j).toNat]?.getD 0=s[i+j]:=by
    rw[show ((i:Int)+j).toNat=i+j by omega]
    simp[hjlt]
   simp[zqs,w1,w2,hjlt',hget]
   refine⟨by omega,?_⟩
   refine znu _ _ _ ?_
   cases hb:zaW s[i+j] with
   | true=>
    rw[hb]at hn
    simp at hn
    simp[w1,w2]
    refine hKb18 _ _ ⟨s.length-(j+1),by omega,Back.here (by simp) (hperm _) ?_ ⟨_,rfl,j+1,by omega,by omega,rfl,by simp,rfl,by rw[←Nat.add_assoc];omega⟩⟩
    simp[zkw,AV.sc,AV.scV,AV.scA,AV.scB]
   | false=>
    rw[hb]at fin
    have:=fin (by simp)
    simp[w1,w2]
    simpa[zga,w1]using this
  ·have hjlt':¬ (i+j:Int)<s.length:=by omega
   have:s.drop (i+j)=[]:=List.drop_eq_nil_of_le (by omega)
   rw[this]at fin
   have:=fin rfl
   simp[zqs,w1,w2,hjlt']
   simpa[zga,w1]using this
end
theorem zFX (s:List UInt8) (H:zaa) (K:AV→zaa→Prop) (hK:K (zeF s) H):ACalls tP zn9 [.str s] H K:=by
 refine ACalls.out (zJk fun hs=>?_)
 by_cases hl:s.length>16384
 ·have hl':(16384:Int)<s.length:=by omega
  simp[zqp,hl',AV.isV]
  unfold zeF at hK
  rw[if_pos hl]at hK
  exact Out.tup0 hs hK ⟨zdy,za3 rfl rfl,za3 rfl rfl,trivial⟩
 have hl':¬ (16384:Int)<s.length:=by omega
 unfold zeF at hK
 rw[if_neg hl]at hK
 simp[zqp,hl']
 have hperm:∀ n,HSc (H++[.perm zbl 3 n]):=fun n=>hs.append rfl
 unfold zkx
 refine ALoop.own 5 zbl 3 rfl ?_
 show zkx (.str s) (.sl [] (.own H.length)) (.int .i64 0) (H++[.perm zbl 3 0]) (Out H.length K)
 refine zJg (Inv:=fun q t5 t6 H'=>∃ (i:Nat) (l:List Tk),i≤s.length∧l.length≤i∧q=s.length-i∧t6=.int .i64 i∧t5=.sl (l.map Tk.cs) (.own H.length)∧H'=H++[.perm zbl 3 l.length]∧cat l (zbs (kwF kwds) (s.drop i) i)=zbs (kwF kwds) s 0) s.length ?_ ?_
 ·intro _;exact⟨0,[],by omega,by simp,by omega,rfl,rfl,rfl,by simp⟩
 ·rintro q t5 t6 H' ⟨i,l,hi,hll,rfl,rfl,rfl,rfl,ho⟩ hsc hlen hsF Kb hKb
  by_cases hlt:i<s.length
  ·have hdr:=List.drop_eq_getElem_cons hlt
   have e9:((s[i].toNat:Int) == 9)=(s[i] == 9):=zco s[i] 9
   have e10:((s[i].toNat:Int) == 10)=(s[i] == 10):=zco s[i] 10
   have e13:((s[i].toNat:Int) == 13)=(s[i] == 13):=zco s[i] 13
   have e32:((s[i].toNat:Int) == 32)=(s[i] == 32):=zco s[i] 32
   have e35:((s[i].toNat:Int) == 35)=(s[i] == 35):=zco s[i] 35
   cases hbl:zdc s[i] with
   | true=>
    rw[hdr,zwZ _ hbl]at ho
    have key:zeH (.str s) (.sl (l.map Tk.cs) (.own H.length)) (.int .i64 (IntKind.i64.wrap (i+1))) (H++[.perm zbl 3 l.length]) (Out H.length K) Kb:=by
     simp[zeH]
     rw[zat (by omega) (by omega)]
     refine hKb _ _ ⟨s.length-(i+1),by omega,Back.here (by simp) (hperm _) ?_ ⟨_,_,rfl,i+1,l,by omega,by omega,rfl,by simp,rfl,rfl,ho⟩⟩
     simp[zfr,AV.sc,AV.scV,AV.scA,AV.scB]
    unfold zdc at hbl
    cases h9:(s[i] == 9) <;> cases h10:(s[i] == 10) <;> cases h13:(s[i] == 13) <;> cases h32:(s[i] == 32) <;> simp[h9,h10,h13,h32]at hbl <;> simpa[zkt,hlt,e9,e10,e13,e32,h9,h10,h13,h32]using key
   | false=>
    have hbl':=hbl
    unfold zdc at hbl'
    simp only[Bool.or_eq_false_iff]at hbl'
    obtain⟨⟨⟨h9,h10⟩,h13⟩,h32⟩:=hbl'
    have app:∀ (k:Int) (n:Nat),tok (kwF kwds) s[i] (s.drop (i+1))=.ok (k,n)→(s[i] == 35)=false→∀ t,(s.drop i).take n=t→zhE (.str s) (.sl (l.map Tk.cs++[[.int .i64 k,.str t,.int .i64 i]]) (.own H.length)) (.int .i64 i) (.int .i64 n) (H++[.perm zbl 3 (l.length+1)]) (Out H.length K) Kb:=by
     intro k n ht hsh t hte
     subst hte
     rw[hdr,zw2 _ hbl hsh ht,zt9,←hdr]at ho
     have hn:=zpB ht
     rw[←hdr]at hn
     simp at hn
     have hn0:=zpC ht
     simp[zhE,zeH]
     rw[zat (by omega) (by omega)]
     refine hKb _ _ ⟨s.length-(i+n),by omega,Back.here (by simp) (hperm _) ?_ ⟨_,_,rfl,i+n,l++[⟨k,(s.drop i).take n,i⟩],by omega,by simp;omega,rfl,by simp,by simp[Tk.cs],by simp,?_⟩⟩
     ·simp[zfr,AV.sc,AV.scV,AV.scA,AV.scB]
     ·rw[List.drop_drop]at ho;exact ho
    have bad:∀ e:Int,tok (kwF kwds) s[i] (s.drop (i+1))=.error e→(s[i] == 35)=false→Out H.length K (.tup [.snil,.int .i64 i,.int .i64 e]) (H++[.perm zbl 3 l.length]):=by
     intro e ht hsh
     rw[hdr,zw0 _ hbl hsh ht]at ho
     rw[←ho]at hK
     exact zvL hs hK
    simp[zkt,hlt,e9,e10,e13,e32,e35,h9,h10,h13,h32]
    cases hsh:(s[i] == 35) with
    | true=>
     simp
     rw[hdr,zw1 _ hbl hsh]at ho
     obtain⟨c1,c2⟩:=zjs h10 (s.drop (i+1))
     rw[Nat.add_assoc,←c1,←c2,←hdr]at ho
     refine zJd (Inv:=fun q t6 H'=>∃ (j:Nat),i≤j∧j≤s.length∧q=s.length-j∧t6=.int .i64 j∧H'=H++[.perm zbl 3 l.length]∧cat l (zbs (kwF kwds) (zee (s.drop j)) (j+zef (s.drop j)))=zbs (kwF kwds) s 0) (s.length-i) ?_ ?_
     ·intro _;exact⟨i,by omega,by omega,by omega,rfl,rfl,ho⟩
     ·rintro q t6 H' ⟨j,hij,hj,rfl,rfl,rfl,ho⟩ hsc hlen hsF Kb9 hKb9
      by_cases hjlt:j<s.length
      ·have hdrj:=List.drop_eq_getElem_cons hjlt
       have e10:((s[j].toNat:Int) != 10)=!(s[j] == 10):=by rw[←zco s[j] 10];rfl
       simp[zqq,hjlt,e10]
       cases hz:(s[j] == 10) with
       | true=>
        obtain⟨d1,d2⟩:=zwu hz (s.drop (j+1))
        rw[hdrj,d1,d2,←hdrj,Nat.add_zero]at ho
        have hij':i≠j:=by rintro rfl;rw[h10]at hz;cases hz
        simp[zeH]
        refine hKb _ _ ⟨s.length-j,by omega,Back.here (by simp) (hperm _) ?_ ⟨_,_,rfl,j,l,by omega,by omega,rfl,by simp,rfl,rfl,ho⟩⟩
        simp[zfr,AV.sc,AV.scV,AV.scA,AV.scB]
       | false=>
        obtain⟨d1,d2⟩:=zjs hz (s.drop (j+1))
        rw[hdrj,d1,d2,←Nat.add_assoc]at ho
        simp
        rw[zat (by omega) (by omega)]
        refine hKb9 _ _ ⟨s.length-(j+1),by omega,Back.here (by simp) (hperm _) ?_ ⟨_,rfl,j+1,by omega,by omega,rfl,by simp,rfl,ho⟩⟩
        simp[zkv,AV.sc,AV.scV,AV.scA,AV.scB]
      ·obtain rfl:j=s.length:=by omega
       simp[zqq,zeH]
       rw[List.drop_length,skipC_nil.1,skipC_nil.2,Nat.add_zero]at ho
       refine hKb _ _ ⟨0,by omega,Back.here (by simp) (hperm _) ?_ ⟨_,_,rfl,s.length,l,by omega,by omega,by omega,by simp,rfl,rfl,by rw[List.drop_length];exact ho⟩⟩
       simp[zfr,AV.sc,AV.scV,AV.scA,AV.scB]
    | false=>
     replace app:=fun k n h=>app k n h hsh
     replace bad:=fun e h=>bad e h hsh
     simp
     refine zu6 _ _ _ ?_
     by_cases hLU:(zbT s[i] || bUp s[i])=true
     ·have hc:zbT s[i]=true∨(zbT s[i]=false∧bUp s[i]=true):=by cases hL:zbT s[i] <;> simp[hL]at hLU ⊢;exact hLU
      rcases hc with hL | ⟨hL,hU⟩
      case' inl=>simp[hL]
      case' inr=>simp[hL];refine zjG _ _ _ ?_;simp[hU]
      all_goals exact zGC s hl i hlt H l hll hperm K Kb hLU app bad
     ·have hL:zbT s[i]=false:=by simp at hLU;exact hLU.1
      have hU:bUp s[i]=false:=by simp at hLU;exact hLU.2
      simp[hL]
      refine zjG _ _ _ ?_
      simp[hU]
      refine znu _ _ _ ?_
      cases hD:zaW s[i] with
      | true=>
       simp
       exact zD1 s hl i hlt H l hll hperm K Kb hLU hD app bad
      | false=>
       simp
       refine⟨by omega,?_⟩
       have htk:tok (kwF kwds) s[i] (s.drop (i+1))=if sgn (s.drop i)=0 then .error 2 else .ok (5,sgn (s.drop i)):=by
        simp only[tok,hLU,hD,hdr]
        rfl
       rw[hdr]
       refine zE8 _ _ _ _ ?_
       rw[←hdr]
       by_cases hz:sgn (s.drop i)=0
       ·simp[hz,AV.isV]
        exact bad 2 (by rw[htk,if_pos hz])
       ·have hz':((sgn (s.drop i):Int) == 0)=false:=by simpa using hz
        have ht:=htk
        rw[if_neg hz]at ht
        have hn:=zpB ht
        rw[←hdr]at hn
        simp at hn
        have:=app 5 (sgn (s.drop i)) ht _ rfl
        simp[hz']
        rw[zat (by omega) (by omega)]
        simp[zas,zaH,zau,zaR,plain,AV.pd,zaw,zaK,zaG,zeJ]
        refine⟨by omega,by omega,by omega,?_⟩
        rw[show ((i:Int)+(sgn (s.drop i):Int)).toNat=i+sgn (s.drop i) by omega,zjB]
        exact this
  ·obtain rfl:i=s.length:=by omega
   rw[List.drop_length,zpD]at ho
   rw[←ho]at hK
   simp[zkt,zas,zaH,zau,zaR,plain,AV.pd,zaw,zaK,zaG,AV.isV]
   refine⟨by omega,?_⟩
   simp[cat,Tk.cs]at hK
   exact Out.tup hs hK ⟨slV,za3 rfl rfl,za3 rfl rfl,trivial⟩
end Go.Proofs.YtdmamdnkcefmmaaGreatDoor
namespace Go.Proofs.YtdmamdnkcefmmaaGreatDoor
open Go Go.Abs
set_option maxRecDepth 100000
def zdV:Nat→List Bool
 | 5=>rl false [0,1,2,3,115]
 | 12=>rl false [0,1,2,5,113]
 | 18=>rl false [0,1,2,5,85,3,25]
 | _=>[]
noncomputable def zss:Code:=Tryz.f48.body.getD .skip
noncomputable def zPZ:List ResultVar:=Tryz.f48.results.toList
def zmg (t0 t3 t4 t5:AV):List AV:=t0::ux 2 (t3::t4::t5::ux 115 [])
def zAH:List Bool:=zdV 5
noncomputable def zsu:Code:=zaq [1,1,1,0,1,0,0] zss
def zAC (K:Kt):AExit→List AV→zaa→Prop:=zar tP zdV [1,1,1,0,1,0] zss (zax tP zPZ K)
def zmi (t0 t3 t4 t5:AV) (H:zaa) (K:Kt):Prop:=ALoop tP zsu (zAC K) (zmg t0 t3 t4 t5) H
def zme (t0 t3 t4 t5 t6 t7:AV):List AV:=t0::ux 2 (t3::t4::t5::t6::t7::ux 113 [])
def zAG:List Bool:=zdV 12
noncomputable def zst:Code:=zaq [1,0,0,1,1,1,1,0,0] zsu
def zAB (K:Kt) (Kb5:Lt):AExit→List AV→zaa→Prop:=zar tP zdV [1,0,0,1,1,1,1,0] zsu (zb0 zAH Kb5 (zAC K))
def zAE (t0 t3 t4 t5 t6 t7:AV) (H:zaa) (K:Kt) (Kb5:Lt):Prop:=ALoop tP zst (zAB K Kb5) (zme t0 t3 t4 t5 t6 t7) H
def zmf (t0 t3 t4 t5 t6 t7 t93 t94 t95:AV):List AV:=t0::ux 2 (t3::t4::t5::t6::t7::ux 85 (t93::t94::t95::ux 25 []))
def zPX:List Bool:=zdV 18
noncomputable def zPT:Code:=zaq [1,0,0,1,1,1,0,0] zst
def zPS (K:Kt) (Kb5:Lt) (Kb12:Lt):AExit→List AV→zaa→Prop:=zar tP zdV [1,0,0,1,1,1,0] zst (zb0 zAG Kb12 (zAB K Kb5))
def zAF (t0 t3 t4 t5 t6 t7 t93 t94 t95:AV) (H:zaa) (K:Kt) (Kb5:Lt) (Kb12:Lt):Prop:=ALoop tP zPT (zPS K Kb5 Kb12) (zmf t0 t3 t4 t5 t6 t7 t93 t94 t95) H
def zAD (t0 t3 t4 t5 t6 t7 t93 t94 t95:AV) (H:zaa) (K:Kt) (Kb5:Lt) (Kb12:Lt) (Kb18:Lt):Prop:=
 zab .add false t95 (.int .i64 1) fun t112=>
 Kb18 (zmf t0 t3 t4 t5 t6 t7 t93 t94 t112) H
def zmh (t0 t3 t4 t5 t6 t7 t93 t94 t95:AV) (H:zaa) (K:Kt) (Kb5:Lt) (Kb12:Lt) (Kb18:Lt):Prop:=
 zAD t0 t3 t4 t5 t6 t7 t93 t94 t95 H K Kb5 Kb12 Kb18
def zsr (t0 t3 t4 t5 t6 t7 t93 t94 t95:AV) (H:zaa) (K:Kt) (Kb5:Lt) (Kb12:Lt) (Kb18:Lt):Prop:=
 zab .lss false t95 t94 fun t96=>
 zag t96
 (zai 3 t93 t95 fun t97=>
 zae true 3 t97 H fun t98=>
 zay [(.int .i64 0),(.int .i64 0),.snil] H fun t9 H=>
 zan 3 t9 t98 H fun H=>
 zae true 3 t9 H fun t99=>
 zaf 1 t6 fun t101=>
 zae false 1 t101 H fun t102=>
 ACalls tP zi4 [t99,t5,t102] H fun t103 H=>
 zag t103
 (zmh t0 t3 t4 t5 t6 t7 t93 t94 t95 H K Kb5 Kb12 Kb18)
 (zad H (fun K'=>K' t0 H) fun t104=>
 zad H (fun K'=>K' t5 H) fun t105=>
 zad H (fun K'=>zaN 1 3 t104 none (some t105) (K' · H)) fun t106=>
 zad H (fun K'=>zal true 3 t9 H (K' · H)) fun t107=>
 zad H (fun K'=>zaf 1 t6 (K' · H)) fun t108=>
 zad H (fun K'=>zal false 1 t108 H (K' · H)) fun t109=>
 zaF H (fun H K'=>ACalls tP ziR [t106,t107,t109] H K') fun t110=>
 zad H (fun K'=>aUn .not t110 (K' · H)) fun t111=>
 zag t111
 (K (.bool false) H)
 (zmh t0 t3 t4 t5 t6 t7 t93 t94 t95 H K Kb5 Kb12 Kb18)))
 (zab .add false t7 (.int .i64 1) fun t60=>
 Kb12 (zme t0 t3 t4 t5 t6 t60) H)
def zsq (t0 t3 t4 t5 t6 t7:AV) (H:zaa) (K:Kt) (Kb5:Lt) (Kb12:Lt):Prop:=
 zaf 2 t6 fun t55=>
 zae false 1 t55 H fun t56=>
 zah 1 t56 fun t57=>
 zab .lss false t7 t57 fun t58=>
 zag t58
 (zaf 2 t6 fun t61=>
 zae false 1 t61 H fun t62=>
 zai 2 t62 t7 fun t64=>
 zaf 0 t64 fun t65=>
 zae false 1 t65 H fun t66=>
 ACalls tP zi3 [t66] H fun t67 H=>
 aUn .not t67 fun t68=>
 zac t68 false H (fun K'=>zaf 2 t6 (K' · H)) fun t70 H=>
 zac t68 false H (fun K'=>zae false 1 t70 H (K' · H)) fun t71 H=>
 zac t68 false H (fun K'=>K' t7 H) fun t72 H=>
 zac t68 false H (fun K'=>zai 2 t71 t72 (K' · H)) fun t73 H=>
 zac t68 false H (fun K'=>zaf 1 t73 (K' · H)) fun t74 H=>
 zac t68 false H (fun K'=>zae false 1 t74 H (K' · H)) fun t75 H=>
 zac t68 false H (fun K'=>zah 1 t75 (K' · H)) fun t76 H=>
 zac t68 false H (fun K'=>zab .gtr false t76 (.int .i64 6) (K' · H)) fun t77 H=>
 zaj t68 (.bool true) t77 fun t78=>
 zag t78
 (K (.bool false) H)
 (zaf 2 t6 fun t80=>
 zae false 1 t80 H fun t81=>
 zai 2 t81 t7 fun t83=>
 zaf 0 t83 fun t84=>
 zae false 1 t84 H fun t85=>
 zau 1 [(.str [])] 1 [(0,t85)] fun t86=>
 zaw zbY 1 16 t4 t86 H fun t87 H=>
 zaf 2 t6 fun t88=>
 zae false 1 t88 H fun t89=>
 zai 2 t89 t7 fun t91=>
 zaf 1 t91 fun t92=>
 zae false 1 t92 H fun t93=>
 zah 1 t93 fun t94=>
 zAF t0 t3 t87 t5 t6 t7 t93 t94 (.int .i64 0) H K Kb5 Kb12))
 (zab .add false t5 (.int .i64 1) fun t18=>
 Kb5 (zmg t0 t3 t4 t18) H)
def zfC (t0 t3 t4 t5:AV) (H:zaa) (K:Kt) (Kb5:Lt):Prop:=
 zah 1 t0 fun t15=>
 zab .lss false t5 t15 fun t16=>
 zag t16
 (zai 3 t0 t5 fun t21=>
 zae true 3 t21 H fun t22=>
 zay [(.str []),(.int .i64 0),.snil] H fun t6 H=>
 zan 3 t6 t22 H fun H=>
 zaf 1 t6 fun t23=>
 zae false 1 t23 H fun t24=>
 zab .lss false t24 (.int .i64 0) fun t25=>
 zac t25 false H (fun K'=>zaf 1 t6 (K' · H)) fun t27 H=>
 zac t25 false H (fun K'=>zae false 1 t27 H (K' · H)) fun t28 H=>
 zac t25 false H (fun K'=>zab .gtr false t28 (.int .i64 6) (K' · H)) fun t29 H=>
 zaj t25 (.bool true) t29 fun t30=>
 zac t30 false H (fun K'=>zaf 2 t6 (K' · H)) fun t32 H=>
 zac t30 false H (fun K'=>zae false 1 t32 H (K' · H)) fun t33 H=>
 zac t30 false H (fun K'=>zah 1 t33 (K' · H)) fun t34 H=>
 zac t30 false H (fun K'=>zab .lss false t34 (.int .i64 1) (K' · H)) fun t35 H=>
 zaj t30 (.bool true) t35 fun t36=>
 zac t36 false H (fun K'=>zaf 2 t6 (K' · H)) fun t38 H=>
 zac t36 false H (fun K'=>zae false 1 t38 H (K' · H)) fun t39 H=>
 zac t36 false H (fun K'=>zah 1 t39 (K' · H)) fun t40 H=>
 zac t36 false H (fun K'=>zab .gtr false t40 (.int .i64 8) (K' · H)) fun t41 H=>
 zaj t36 (.bool true) t41 fun t42=>
 zac t42 false H (fun K'=>zaf 0 t6 (K' · H)) fun t44 H=>
 zac t42 false H (fun K'=>zae false 1 t44 H (K' · H)) fun t45 H=>
 zac t42 false H (fun K'=>ACalls tP zi3 [t45] H K') fun t46 H=>
 zac t42 false H (fun K'=>aUn .not t46 (K' · H)) fun t47 H=>
 zaj t42 (.bool true) t47 fun t48=>
 zag t48
 (K (.bool false) H)
 (zaf 0 t6 fun t50=>
 zae false 1 t50 H fun t51=>
 zau 1 [(.str [])] 1 [(0,t51)] fun t52=>
 zaw zbY 1 16 t3 t52 H fun t53 H=>
 zAE t0 t53 t4 t5 t6 (.int .i64 0) H K Kb5))
 (ACalls tP zhb [t3] H fun t114 H=>
 aUn .not t114 fun t115=>
 zac t115 true H (fun K'=>K' t4 H) fun t117 H=>
 zac t115 true H (fun K'=>ACalls tP zhb [t117] H K') fun t118 H=>
 zac t115 true H (fun K'=>aUn .not t118 (K' · H)) fun t119 H=>
 zaj t115 t119 (.bool false) fun t120=>
 K t120 H)
def zsp (t0:AV) (H:zaa) (K:Kt):Prop:=
 zah 1 t0 fun t11=>
 zab .gtr false t11 (.int .i64 12) fun t12=>
 zag t12
 (K (.bool false) H)
 (zmi t0 .snil .snil (.int .i64 0) H K)
theorem zPV {t0 t3 t4 t5 t6 t7 t93 t94 t95:AV} {H:zaa} {K:Kt} {Kb5:Lt} {Kb12:Lt} (Inv:Nat→AV→zaa→Prop) (n:Nat) (h0:HSc H→Inv n t95 H)
  (round:Rd1 (fun t95=>zmf t0 t3 t4 t5 t6 t7 t93 t94 t95) (fun t95=>fun H Kb18=>zsr t0 t3 t4 t5 t6 t7 t93 t94 t95 H K Kb5 Kb12 Kb18) H Inv):zAF t0 t3 t4 t5 t6 t7 t93 t94 t95 H K Kb5 Kb12:=
 lp1 (M:=zdV) zPX t95 (by kernel_rfl) Inv n h0 round
theorem zPU {t0 t3 t4 t5 t6 t7:AV} {H:zaa} {K:Kt} {Kb5:Lt} (Inv:Nat→AV→AV→zaa→Prop) (n:Nat) (h0:HSc H→Inv n t4 t7 H)
  (round:Rd2 (fun t4=>fun t7=>zme t0 t3 t4 t5 t6 t7) (fun t4=>fun t7=>fun H Kb12=>zsq t0 t3 t4 t5 t6 t7 H K Kb5 Kb12) H Inv):zAE t0 t3 t4 t5 t6 t7 H K Kb5:=
 lp2 (M:=zdV) zAG t4 t7 (by kernel_rfl) Inv n h0 round
theorem zPW {t0 t3 t4 t5:AV} {H:zaa} {K:Kt} (Inv:Nat→AV→AV→AV→zaa→Prop) (n:Nat) (h0:HSc H→Inv n t3 t4 t5 H)
  (round:Rd3 (fun t3=>fun t4=>fun t5=>zmg t0 t3 t4 t5) (fun t3=>fun t4=>fun t5=>fun H Kb5=>zfC t0 t3 t4 t5 H K Kb5) H Inv):zmi t0 t3 t4 t5 H K:=
 lp3 (M:=zdV) zAH t3 t4 t5 (by kernel_rfl) Inv n h0 round
theorem zPY {t0:AV} {H:zaa} {K:Kt} (h:HSc H→zsp t0 H K):ACalls tP zoI [t0] H K:=
 zao (M:=zdV) Tryz.func48 (c:=zss) (by kernel_rfl) (fun hs=>Eq.mpr (by kernel_rfl) (h hs))
def zfE:Nat→List Bool
 | 2=>rl false [0,1,2,1,21]
 | 5=>rl false [0,1,2,2,20]
 | _=>[]
noncomputable def zs0:Code:=Tryz.f94.body.getD .skip
noncomputable def zSf:List ResultVar:=Tryz.f94.results.toList
def zmN (t0 t3:AV):List AV:=t0::ux 2 (t3::ux 21 [])
def zBx:List Bool:=zfE 2
noncomputable def zs1:Code:=zaq [1,0,1,0,0] zs0
def zBu (K:Kt):AExit→List AV→zaa→Prop:=zar tP zfE [1,0,1,0] zs0 (zax tP zSf K)
def zBv (t0 t3:AV) (H:zaa) (K:Kt):Prop:=ALoop tP zs1 (zBu K) (zmN t0 t3) H
def zmO (t0 t3 t4:AV):List AV:=t0::ux 2 (t3::t4::ux 20 [])
def zSd:List Bool:=zfE 5
noncomputable def zSa:Code:=zaq [1,0,0,1,0,0] zs1
def zR9 (K:Kt) (Kb2:Lt):AExit→List AV→zaa→Prop:=zar tP zfE [1,0,0,1,0] zs1 (zb0 zBx Kb2 (zBu K))
def zBw (t0 t3 t4:AV) (H:zaa) (K:Kt) (Kb2:Lt):Prop:=ALoop tP zSa (zR9 K Kb2) (zmO t0 t3 t4) H
def zsZ (t0 t3 t4:AV) (H:zaa) (K:Kt) (Kb2:Lt) (Kb5:Lt):Prop:=
 zab .lss false t4 t3 fun t13=>
 zag t13
 (zad H (fun K'=>K' t0 H) fun t16=>
 zad H (fun K'=>K' t3 H) fun t17=>
 zad H (fun K'=>zai 1 t16 t17 (K' · H)) fun t18=>
 zad H (fun K'=>zal false 1 t18 H (K' · H)) fun t19=>
 zad H (fun K'=>K' t0 H) fun t20=>
 zad H (fun K'=>K' t4 H) fun t21=>
 zad H (fun K'=>zai 1 t20 t21 (K' · H)) fun t22=>
 zad H (fun K'=>zal false 1 t22 H (K' · H)) fun t23=>
 zad H (fun K'=>zab .eql false t19 t23 (K' · H)) fun t24=>
 zag t24
 (K (.bool true) H)
 (zab .add false t4 (.int .i64 1) fun t15=>
 Kb5 (zmO t0 t3 t15) H))
 (zab .add false t3 (.int .i64 1) fun t10=>
 Kb2 (zmN t0 t10) H)
def zsY (t0 t3:AV) (H:zaa) (K:Kt) (Kb2:Lt):Prop:=
 zah 1 t0 fun t7=>
 zab .lss false t3 t7 fun t8=>
 zag t8
 (zBw t0 t3 (.int .i64 0) H K Kb2)
 (K (.bool false) H)
def zBt (t0:AV) (H:zaa) (K:Kt):Prop:=
 zBv t0 (.int .i64 0) H K
theorem zSc {t0 t3 t4:AV} {H:zaa} {K:Kt} {Kb2:Lt} (Inv:Nat→AV→zaa→Prop) (n:Nat) (h0:HSc H→Inv n t4 H)
  (round:Rd1 (fun t4=>zmO t0 t3 t4) (fun t4=>fun H Kb5=>zsZ t0 t3 t4 H K Kb2 Kb5) H Inv):zBw t0 t3 t4 H K Kb2:=
 lp1 (M:=zfE) zSd t4 (by kernel_rfl) Inv n h0 round
theorem zSb {t0 t3:AV} {H:zaa} {K:Kt} (Inv:Nat→AV→zaa→Prop) (n:Nat) (h0:HSc H→Inv n t3 H)
  (round:Rd1 (fun t3=>zmN t0 t3) (fun t3=>fun H Kb2=>zsY t0 t3 H K Kb2) H Inv):zBv t0 t3 H K:=
 lp1 (M:=zfE) zBx t3 (by kernel_rfl) Inv n h0 round
theorem zSe {t0:AV} {H:zaa} {K:Kt} (h:HSc H→zBt t0 H K):ACalls tP zhb [t0] H K:=
 zao (M:=zfE) Tryz.func94 (c:=zs0) (by kernel_rfl) (fun hs=>Eq.mpr (by kernel_rfl) (h hs))
end Go.Proofs.YtdmamdnkcefmmaaGreatDoor

namespace Go.Proofs.YtdmamdnkcefmmaaGreatDoor
open Go Go.Abs
theorem zc6 {k:AV→Prop} (a b:AV) (vs:List AV):zaz (.tup (a::b::vs)) 1 k=k b:=propext Iff.rfl
theorem zc7 {k:AV→Prop} (a b c:AV) (vs:List AV):zaz (.tup (a::b::c::vs)) 2 k=k c:=propext Iff.rfl
def zfg (s:List UInt8):List Tk × Int × Int:=
 if s.length>16384 then ([],0,9) else
 match zbs (kwF kwds) s 0 with
 | .error (p,e)=>([],p,e)
 | .ok l=>(l,0,0)
theorem zwz (s:List UInt8):zeF s=.tup [.sl ((zfg s).1.map Tk.cs) .none,.int .i64 (zfg s).2.1,.int .i64 (zfg s).2.2]:=by
 unfold zeF zfg
 split
 ·rfl
 ·split <;> (rename_i h;simp[h])
def zb1 (s:List UInt8) (x:List Tk × Int × Int):Bool:=x.2.2 == 0 && match x.1 with
 | [a,_]=>a.kind == 2 && a.text == s
 | _=>false
def zcT (s:List UInt8):Bool:=zb1 s (zfg s)
theorem zzJ (s:List UInt8) (H:zaa) (K:AV→zaa→Prop) (hK:K (.bool (zcT s)) H):ACalls tP ziG [.str s] H K:=by
 refine ACalls.out (zMN fun hs=>?_)
 have hO:Out H.length K (.bool (zcT s)) H:=Out.bool (J:=[]) (by simp) (Nat.le_refl _) hs hK
 simp only[zzI]
 refine zFW s _ _ ?_
 rw[zwz]
 rw[zcT]at hO
 generalize zfg s=x at hO ⊢
 obtain⟨l,p,e⟩:=x
 clear hK
 cases h0:e == 0 with
 | false=>
  rw[show zb1 s (l,p,e)=false by simp[zb1,h0]]at hO
  simp[zc6,zc7,h0];exact hO
 | true=>
 match l with
 | []=>
  rw[show zb1 s ([],p,e)=false by simp[zb1]]at hO
  simp[zc6,zc7,h0];exact hO
 | [x]=>
  rw[show zb1 s ([x],p,e)=false by simp[zb1]]at hO
  simp[zc6,zc7,h0];exact hO
 | [a,x]=>
  rw[show zb1 s ([a,x],p,e)=(a.kind == 2 && a.text == s) by simp[zb1,h0]]at hO
  cases hk:a.kind == 2 with
  | false=>rw[hk]at hO;simp[zc6,zc7,h0,Tk.cs,hk];exact hO
  | true=>rw[hk]at hO;simp[zc6,zc7,h0,Tk.cs,hk];exact hO
 | a::b::c::r=>
  rw[show zb1 s (a::b::c::r,p,e)=false by simp[zb1]]at hO
  have:¬ ((r.length:Int)+1+1+1=2):=by omega
  have h2:((r.length:Int)+1+1+1 == 2)=false:=by simpa using this
  simp[zc6,zc7,h0,h2];exact hO
theorem zBq (s:List UInt8) (H:zaa) (K:AV→zaa→Prop) (hK:K (.bool (zcT s)) H):ACalls tP zi3 [.str s] H K:=by
 refine ACalls.out (zR2 fun hs=>?_)
 have hO:Out H.length K (.bool (zcT s)) H:=Out.bool (J:=[]) (by simp) (Nat.le_refl _) hs hK
 simp only[zBp]
 refine zFX s _ _ ?_
 rw[zwz]
 rw[zcT]at hO
 generalize zfg s=x at hO ⊢
 obtain⟨l,p,e⟩:=x
 clear hK
 cases h0:e == 0 with
 | false=>
  rw[show zb1 s (l,p,e)=false by simp[zb1,h0]]at hO
  simp[zc6,zc7,h0];exact hO
 | true=>
 match l with
 | []=>
  rw[show zb1 s ([],p,e)=false by simp[zb1]]at hO
  simp[zc6,zc7,h0];exact hO
 | [x]=>
  rw[show zb1 s ([x],p,e)=false by simp[zb1]]at hO
  simp[zc6,zc7,h0];exact hO
 | [a,x]=>
  rw[show zb1 s ([a,x],p,e)=(a.kind == 2 && a.text == s) by simp[zb1,h0]]at hO
  cases hk:a.kind == 2 with
  | false=>rw[hk]at hO;simp[zc6,zc7,h0,Tk.cs,hk];exact hO
  | true=>rw[hk]at hO;simp[zc6,zc7,h0,Tk.cs,hk];exact hO
 | a::b::c::r=>
  rw[show zb1 s (a::b::c::r,p,e)=false by simp[zb1]]at hO
  have:¬ ((r.length:Int)+1+1+1=2):=by omega
  have h2:((r.length:Int)+1+1+1 == 2)=false:=by simpa using this
  simp[zc6,zc7,h0,h2];exact hO
def zce (l:List (List UInt8)):Bool:=!decide l.Nodup
def strs (l:List (List UInt8)):List (List AV):=l.map fun s=>[.str s]
@[simp] theorem zWt (l:List (List UInt8)):(strs l).length=l.length:=by simp[strs]
theorem zF4 {l:List (List UInt8)} {i:Nat} (h:i<(strs l).length):(strs l)[i]=[.str (l[i]'(by simpa using h))]:=by simp[strs]
theorem zEH {l:List (List UInt8)} {i j:Nat} (hi:i<l.length) (hj:j<i) (h:l[i]=l[j]):zce l=true:=by
 simp only[zce,Bool.not_eq_true',decide_eq_false_iff_not]
 intro hn
 exact (List.pairwise_iff_getElem.mp hn) j i (by omega) hi hj h.symm
theorem zSg (l:List (List UInt8)) (hl:l.length≤1000000) (H:zaa) (K:AV→zaa→Prop) (hK:K (.bool (zce l)) H):ACalls tP zhb [.sl (strs l) .none] H K:=by
 refine ACalls.out (zSe fun hs=>?_)
 have hO:Out H.length K (.bool (zce l)) H:=Out.bool (J:=[]) (by simp) (Nat.le_refl _) hs hK
 simp[zBt]
 refine zSb (Inv:=fun q t3 H'=>∃ i:Nat,i≤l.length∧q=l.length-i∧t3=.int .i64 i∧(∀ a b (ha:a<i) (hb:b<a) (h':a<l.length),l[a]≠l[b])∧H=H') l.length ?_ ?_
 ·intro _;exact⟨0,by omega,by omega,rfl,by omega,rfl⟩
 ·rintro q t3 H' ⟨i,hi,rfl,rfl,hne,rfl⟩ hsc hlen hsF Kb hKb
  by_cases hlt:i<l.length
  ·simp[zsY,hlt]
   refine zSc (Inv:=fun q t4 H'=>∃ j:Nat,j≤i∧q=i-j∧t4=.int .i64 j∧(∀ b (hb:b<j) (hb':b<l.length),l[i]≠l[b])∧H=H') i ?_ ?_
   ·intro _;exact⟨0,by omega,by omega,rfl,by omega,rfl⟩
   ·rintro q t4 H' ⟨j,hj,rfl,rfl,hnj,rfl⟩ hsc1 hlen1 hsF1 Kb1 hKb1
    by_cases hjl:j<i
    ·simp[zsZ,hjl,hlt,show j<l.length by omega,zF4]
     cases he:l[i] == l[j] with
     | true=>
      rw[zEH hlt hjl (by simpa using he)]at hO
      simpa using hO
     | false=>
      simp
      rw[zat (by omega) (by omega)]
      refine hKb1 _ _ ⟨i-(j+1),by omega,Back.at (J:=[]) (H2:=H) (by simp) (Nat.le_refl _) hs ?_ ⟨_,rfl,j+1,by omega,rfl,by simp,?_,rfl⟩⟩
      ·simp[zmO,AV.sc,AV.scV,AV.scA,AV.scB]
      ·intro b hb hb'
       by_cases hbj:b=j
       ·subst hbj;simpa using he
       ·exact hnj b (by omega) hb'
    ·obtain rfl:j=i:=by omega
     simp[zsZ]
     rw[zat (by omega) (by omega)]
     refine hKb _ _ ⟨l.length-(j+1),by omega,Back.at (J:=[]) (H2:=H) (by simp) (Nat.le_refl _) hs ?_ ⟨_,rfl,j+1,by omega,rfl,by simp,?_,rfl⟩⟩
     ·simp[zmN,AV.sc,AV.scV,AV.scA,AV.scB]
     ·intro a b ha hb h'
      by_cases haj:a=j
      ·subst haj;exact hnj b hb (by omega)
      ·exact hne a b (by omega) hb h'
  ·obtain rfl:i=l.length:=by omega
   have:zce l=false:=by
    simp only[zce,Bool.not_eq_false',decide_eq_true_eq]
    refine List.pairwise_iff_getElem.mpr fun a b ha hb hab he=>?_
    exact hne b a hb hab hb he.symm
   rw[this]at hO
   simp[zsY]
   exact hO
end Go.Proofs.YtdmamdnkcefmmaaGreatDoor
namespace Go.Proofs.YtdmamdnkcefmmaaGreatDoor
open Go Go.Abs
set_option maxRecDepth 100000
def zfs:Nat→List Bool
 | 5=>rl false [0,1,2,2,9,2,89]
 | 13=>rl false [0,1,2,3,8,2,60,3,26]
 | _=>[]
noncomputable def zqK:Code:=Tryz.f159.body.getD .skip
noncomputable def zJ7:List ResultVar:=Tryz.f159.results.toList
def zkU (t0 t3 t4 t14 t15:AV):List AV:=t0::ux 2 (t3::t4::ux 9 (t14::t15::ux 89 []))
def zyA:List Bool:=zfs 5
noncomputable def zqL:Code:=zaq [1,1,1,0,1,0,0] zqK
def zyx (K:Kt):AExit→List AV→zaa→Prop:=zar tP zfs [1,1,1,0,1,0] zqK (zax tP zJ7 K)
def zyz (t0 t3 t4 t14 t15:AV) (H:zaa) (K:Kt):Prop:=ALoop tP zqL (zyx K) (zkU t0 t3 t4 t14 t15) H
def zkT (t0 t3 t4 t5 t14 t15 t76 t77 t78:AV):List AV:=t0::ux 2 (t3::t4::t5::ux 8 (t14::t15::ux 60 (t76::t77::t78::ux 26 [])))
def zJ5:List Bool:=zfs 13
noncomputable def zJ2:Code:=zaq [1,1,0,0,1,1,1,1,1,0,0] zqL
def zJ1 (K:Kt) (Kb5:Lt):AExit→List AV→zaa→Prop:=zar tP zfs [1,1,0,0,1,1,1,1,1,0] zqL (zb0 zyA Kb5 (zyx K))
def zyy (t0 t3 t4 t5 t14 t15 t76 t77 t78:AV) (H:zaa) (K:Kt) (Kb5:Lt):Prop:=ALoop tP zJ2 (zJ1 K Kb5) (zkT t0 t3 t4 t5 t14 t15 t76 t77 t78) H
def zqI (t0 t3 t4 t5 t14 t15 t76 t77 t78:AV) (H:zaa) (K:Kt) (Kb5:Lt) (Kb13:Lt):Prop:=
 zab .lss false t78 t77 fun t79=>
 zag t79
 (zai 2 t76 t78 fun t81=>
 zae true 2 t81 H fun t82=>
 zay [(.str []),.snil] H fun t7 H=>
 zan 2 t7 t82 H fun H=>
 zaf 0 t7 fun t83=>
 zae false 1 t83 H fun t84=>
 ACalls tP ziG [t84] H fun t85 H=>
 aUn .not t85 fun t86=>
 zac t86 false H (fun K'=>K' t4 H) fun t88 H=>
 zac t86 false H (fun K'=>zaf 0 t7 (K' · H)) fun t89 H=>
 zac t86 false H (fun K'=>zae false 1 t89 H (K' · H)) fun t90 H=>
 zac t86 false H (fun K'=>zdq (.bool false) false t88 t90 H (K' · H)) fun t91 H=>
 zaj t86 (.bool true) t91 fun t92=>
 zac t92 false H (fun K'=>K' t0 H) fun t94 H=>
 zac t92 false H (fun K'=>K' t5 H) fun t95 H=>
 zac t92 false H (fun K'=>K' t78 H) fun t96 H=>
 zac t92 false H (fun K'=>ACalls tP zoo [t94,t95,t96] H K') fun t97 H=>
 zac t92 false H (fun K'=>aUn .not t97 (K' · H)) fun t98 H=>
 zaj t92 (.bool true) t98 fun t99=>
 zag t99
 (K (.bool false) H)
 (zaf 0 t7 fun t101=>
 zae false 1 t101 H fun t102=>
 zcG t4 t102 (.bool true) H fun H=>
 zab .add false t78 (.int .i64 1) fun t103=>
 Kb13 (zkT t0 t3 t4 t5 t14 t15 t76 t77 t103) H))
 (zab .add false t15 (.int .i64 1) fun t104=>
 Kb5 (zkU t0 t3 t4 t14 t104) H)
def zqJ (t0 t3 t4 t14 t15:AV) (H:zaa) (K:Kt) (Kb5:Lt):Prop:=
 zab .lss false t15 t14 fun t16=>
 zag t16
 (zai 3 t0 t15 fun t20=>
 zaf 0 t20 fun t21=>
 zae false 1 t21 H fun t22=>
 ACalls tP ziG [t22] H fun t23 H=>
 aUn .not t23 fun t24=>
 zac t24 false H (fun K'=>K' t3 H) fun t26 H=>
 zac t24 false H (fun K'=>K' t0 H) fun t27 H=>
 zac t24 false H (fun K'=>K' t15 H) fun t28 H=>
 zac t24 false H (fun K'=>zai 3 t27 t28 (K' · H)) fun t29 H=>
 zac t24 false H (fun K'=>zaf 0 t29 (K' · H)) fun t30 H=>
 zac t24 false H (fun K'=>zae false 1 t30 H (K' · H)) fun t31 H=>
 zac t24 false H (fun K'=>zdq (.bool false) false t26 t31 H (K' · H)) fun t32 H=>
 zaj t24 (.bool true) t32 fun t33=>
 zac t33 false H (fun K'=>K' t0 H) fun t35 H=>
 zac t33 false H (fun K'=>K' t15 H) fun t36 H=>
 zac t33 false H (fun K'=>zai 3 t35 t36 (K' · H)) fun t37 H=>
 zac t33 false H (fun K'=>zaf 1 t37 (K' · H)) fun t38 H=>
 zac t33 false H (fun K'=>zae false 1 t38 H (K' · H)) fun t39 H=>
 zac t33 false H (fun K'=>zab .lss false t39 (.int .i64 0) (K' · H)) fun t40 H=>
 zaj t33 (.bool true) t40 fun t41=>
 zac t41 false H (fun K'=>K' t0 H) fun t43 H=>
 zac t41 false H (fun K'=>K' t15 H) fun t44 H=>
 zac t41 false H (fun K'=>zai 3 t43 t44 (K' · H)) fun t45 H=>
 zac t41 false H (fun K'=>zaf 1 t45 (K' · H)) fun t46 H=>
 zac t41 false H (fun K'=>zae false 1 t46 H (K' · H)) fun t47 H=>
 zac t41 false H (fun K'=>zab .gtr false t47 (.int .i64 6) (K' · H)) fun t48 H=>
 zaj t41 (.bool true) t48 fun t49=>
 zag t49
 (K (.bool false) H)
 (zai 3 t0 t15 fun t53=>
 zaf 0 t53 fun t54=>
 zae false 1 t54 H fun t55=>
 zcG t3 t55 (.bool true) H fun H=>
 zai 3 t0 t15 fun t58=>
 zaf 2 t58 fun t59=>
 zae false 1 t59 H fun t60=>
 zah 1 t60 fun t61=>
 zab .lss false t61 (.int .i64 1) fun t62=>
 zac t62 false H (fun K'=>K' t0 H) fun t64 H=>
 zac t62 false H (fun K'=>K' t15 H) fun t65 H=>
 zac t62 false H (fun K'=>zai 3 t64 t65 (K' · H)) fun t66 H=>
 zac t62 false H (fun K'=>zaf 2 t66 (K' · H)) fun t67 H=>
 zac t62 false H (fun K'=>zae false 1 t67 H (K' · H)) fun t68 H=>
 zac t62 false H (fun K'=>zah 1 t68 (K' · H)) fun t69 H=>
 zac t62 false H (fun K'=>zab .gtr false t69 (.int .i64 8) (K' · H)) fun t70 H=>
 zaj t62 (.bool true) t70 fun t71=>
 zag t71
 (K (.bool false) H)
 (zai 3 t0 t15 fun t74=>
 zaf 2 t74 fun t75=>
 zae false 1 t75 H fun t76=>
 zah 1 t76 fun t77=>
 zyy t0 t3 t4 t15 t14 t15 t76 t77 (.int .i64 0) H K Kb5)))
 (K (.bool true) H)
def zqH (t0:AV) (H:zaa) (K:Kt):Prop:=
 zah 1 t0 fun t9=>
 zab .gtr false t9 (.int .i64 12) fun t10=>
 zag t10
 (K (.bool false) H)
 (zdF H fun t11 H=>
 zdF H fun t12 H=>
 zah 1 t0 fun t14=>
 zyz t0 t11 t12 t14 (.int .i64 0) H K)
theorem zJ3 {t0 t3 t4 t5 t14 t15 t76 t77 t78:AV} {H:zaa} {K:Kt} {Kb5:Lt} (Inv:Nat→AV→zaa→Prop) (n:Nat) (h0:HSc H→Inv n t78 H)
  (round:Rd1 (fun t78=>zkT t0 t3 t4 t5 t14 t15 t76 t77 t78) (fun t78=>fun H Kb13=>zqI t0 t3 t4 t5 t14 t15 t76 t77 t78 H K Kb5 Kb13) H Inv):zyy t0 t3 t4 t5 t14 t15 t76 t77 t78 H K Kb5:=
 lp1 (M:=zfs) zJ5 t78 (by kernel_rfl) Inv n h0 round
theorem zJ4 {t0 t3 t4 t14 t15:AV} {H:zaa} {K:Kt} (Inv:Nat→AV→zaa→Prop) (n:Nat) (h0:HSc H→Inv n t15 H)
  (round:Rd1 (fun t15=>zkU t0 t3 t4 t14 t15) (fun t15=>fun H Kb5=>zqJ t0 t3 t4 t14 t15 H K Kb5) H Inv):zyz t0 t3 t4 t14 t15 H K:=
 lp1 (M:=zfs) zyA t15 (by kernel_rfl) Inv n h0 round
theorem zJ6 {t0:AV} {H:zaa} {K:Kt} (h:HSc H→zqH t0 H K):ACalls tP zoc [t0] H K:=
 zao (M:=zfs) Tryz.func159 (c:=zqK) (by kernel_rfl) (fun hs=>Eq.mpr (by kernel_rfl) (h hs))
def zly:Nat→List Bool
 | 6=>rl false [0,2,6,1,18,3,29]
 | _=>[]
noncomputable def zrz:Code:=Tryz.f201.body.getD .skip
noncomputable def zMT:List ResultVar:=Tryz.f201.results.toList
def zhL (t0 t1 t8 t27 t28 t29:AV):List AV:=t0::t1::ux 6 (t8::ux 18 (t27::t28::t29::ux 29 []))
def zMR:List Bool:=zly 6
noncomputable def zMP:Code:=zaq [1,1,1,1,0,1,0,0] zrz
def zMO (K:Kt):AExit→List AV→zaa→Prop:=zar tP zly [1,1,1,1,0,1,0] zrz (zax tP zMT K)
def zzL (t0 t1 t8 t27 t28 t29:AV) (H:zaa) (K:Kt):Prop:=ALoop tP zMP (zMO K) (zhL t0 t1 t8 t27 t28 t29) H
def zry (t0 t1 t8 t27 t28 t29:AV) (H:zaa) (K:Kt) (Kb6:Lt):Prop:=
 zab .lss false t29 t28 fun t30=>
 zag t30
 (zai 3 t27 t29 fun t32=>
 zae true 3 t32 H fun t33=>
 zay [(.int .i64 0),(.int .i64 0),.snil] H fun t10 H=>
 zan 3 t10 t33 H fun H=>
 zad H (fun K'=>K' t0 H) fun t34=>
 zad H (fun K'=>K' t1 H) fun t35=>
 zad H (fun K'=>zab .add false t35 (.int .i64 1) (K' · H)) fun t36=>
 zad H (fun K'=>zaN 1 3 t34 none (some t36) (K' · H)) fun t37=>
 zad H (fun K'=>zal true 3 t10 H (K' · H)) fun t38=>
 zad H (fun K'=>K' t0 H) fun t39=>
 zad H (fun K'=>K' t1 H) fun t40=>
 zad H (fun K'=>zai 3 t39 t40 (K' · H)) fun t41=>
 zad H (fun K'=>zaf 1 t41 (K' · H)) fun t42=>
 zad H (fun K'=>zal false 1 t42 H (K' · H)) fun t43=>
 zaF H (fun H K'=>ACalls tP zgY [t37,t38,t43] H K') fun t44=>
 zad H (fun K'=>aUn .not t44 (K' · H)) fun t45=>
 zad H (fun K'=>K' t45 H) fun t46=>
 zac t46 false H (fun K'=>zad H (fun K''=>K'' t8 H) (K' · H)) fun t47 H=>
 zac t46 false H (fun K'=>zad H (fun K''=>K'' t29 H) (K' · H)) fun t48 H=>
 zac t46 false H (fun K'=>zad H (fun K''=>zai 1 t47 t48 (K'' · H)) (K' · H)) fun t49 H=>
 zac t46 false H (fun K'=>zad H (fun K''=>zal false 1 t49 H (K'' · H)) (K' · H)) fun t50 H=>
 zac t46 false H (fun K'=>zad H (fun K''=>aUn .not t50 (K'' · H)) (K' · H)) fun t51 H=>
 zac t46 false H (fun K'=>zad H (fun K''=>K'' t51 H) (K' · H)) fun t52 H=>
 zac t52 true H (fun K'=>zad H (fun K''=>zal true 3 t10 H (K'' · H)) (K' · H)) fun t53 H=>
 zac t52 true H (fun K'=>zad H (fun K''=>K'' t1 H) (K' · H)) fun t54 H=>
 zac t52 true H (fun K'=>zaF H (fun H K''=>ACalls tP ziL [t53,t54] H K'') (K' · H)) fun t55 H=>
 zac t46 false H (fun K'=>zad H (fun K''=>zaj t52 t55 (.bool false) (K'' · H)) (K' · H)) fun t56 H=>
 zad H (fun K'=>zaj t46 (.bool true) t56 (K' · H)) fun t57=>
 zag t57
 (K (.bool false) H)
 (zab .add false t29 (.int .i64 1) fun t58=>
 Kb6 (zhL t0 t1 t8 t27 t28 t58) H))
 (K (.bool true) H)
def zzK (t0 t1 t2:AV) (H:zaa) (K:Kt):Prop:=
 zai 3 t0 t1 fun t13=>
 zaf 2 t13 fun t14=>
 zae false 1 t14 H fun t15=>
 zai 2 t15 t2 fun t17=>
 zaf 1 t17 fun t18=>
 zae false 1 t18 H fun t19=>
 zah 1 t19 fun t21=>
 zab .gtr false t21 (.int .i64 6) fun t22=>
 zag t22
 (K (.bool false) H)
 (ACalls tP ze7 [t0,t1,t2] H fun t26 H=>
 zah 1 t19 fun t28=>
 zzL t0 t1 t26 t19 t28 (.int .i64 0) H K)
theorem zMQ {t0 t1 t8 t27 t28 t29:AV} {H:zaa} {K:Kt} (Inv:Nat→AV→zaa→Prop) (n:Nat) (h0:HSc H→Inv n t29 H)
  (round:Rd1 (fun t29=>zhL t0 t1 t8 t27 t28 t29) (fun t29=>fun H Kb6=>zry t0 t1 t8 t27 t28 t29 H K Kb6) H Inv):zzL t0 t1 t8 t27 t28 t29 H K:=
 lp1 (M:=zly) zMR t29 (by kernel_rfl) Inv n h0 round
theorem zMS {t0 t1 t2:AV} {H:zaa} {K:Kt} (h:HSc H→zzK t0 t1 t2 H K):ACalls tP zoo [t0,t1,t2] H K:=
 zao (M:=zly) Tryz.func201 (c:=zrz) (by kernel_rfl) (fun hs=>Eq.mpr (by kernel_rfl) (h hs))
end Go.Proofs.YtdmamdnkcefmmaaGreatDoor

namespace Go.Proofs.YtdmamdnkcefmmaaGreatDoor
open Go Go.Abs
def zdG (data:List Dat) (d:Nat) (vars:Int) (t:VT):Bool:=zaZ (data.take (d+1)) vars t && (zbU d vars t || !zck d t)
theorem zMU (data:List Dat) (d:Nat) (c:Nat) (hd:d<data.length) (hc:c<(data[d]).cons.length) (hl:data.length≤1000000) (hcl:(data[d]).cons.length≤1000000) (hal:((data[d]).cons[c]).args.length≤1000000)
  (hb:∀ x∈((data[d]).cons[c]).args,x.nodes≤1000000) (H:zaa) (K:AV→zaa→Prop)
  (hK:K (.bool (decide (((data[d]).cons[c]).args.length≤6) && ((data[d]).cons[c]).args.all (zdG data d (data[d]).vars))) H) :
  ACalls tP zoo [.sl (data.map Dat.cs) .none,.int .i64 d,.int .i64 c] H K:=by
 refine ACalls.out (zMS fun hs=>?_)
 have e1:(data.map Dat.cs)[d]?=some (data[d]).cs:=by simp[hd]
 have e2:((data[d]).cons.map Con.cs)[c]?=some ((data[d]).cons[c]).cs:=by simp[hc]
 have hrec:=zrb data d c hd hc hl hcl hal hb
 generalize hD:data[d]=D at *
 generalize hA:D.cons[c]=C at *
 have hO:∀ J,Out H.length K (.bool (decide (C.args.length≤6) && C.args.all (zdG data d D.vars))) (H++J):=fun J=>Out.bool rfl (Nat.le_refl _) hs hK
 simp[zzK,e1,e2,Dat.cs,Con.cs,hd,hD,hc,hA]
 by_cases h6:C.args.length≤6
 ·have h6':¬ (6:Int)<C.args.length:=by omega
  have h6'':¬ 6<C.args.length:=by omega
  simp[h6',h6'']
  refine hrec _ _ ?_
  simp[h6]at hO
  refine zMQ (Inv:=fun q t29 H'=>∃ i:Nat,i≤C.args.length∧q=C.args.length-i∧t29=.int .i64 i∧(C.args.drop i).all (zdG data d D.vars)=C.args.all (zdG data d D.vars)∧H=H') C.args.length ?_ ?_
  ·intro _;exact⟨0,by omega,by omega,rfl,by simp,rfl⟩
  ·rintro q t29 H' ⟨i,hi,rfl,rfl,ho,rfl⟩ hsc hlen hsF Kb hKb
   by_cases hlt:i<C.args.length
   ·rw[List.drop_eq_getElem_cons hlt,List.all_cons]at ho
    have hnb:=hb _ (List.getElem_mem hlt)
    obtain⟨x1,x2,x3,hvx,hx1,hx2,hx3⟩:=zbt C.args[i]
    simp[zry,hlt,hvx,e1,hd,hD,Dat.cs]
    refine⟨⟨hx1,hx2,hx3⟩,?_⟩
    rw[zat (by omega) (by omega),show ((d:Int)+1).toNat=d+1 by omega,←List.map_take]
    refine⟨by omega,by omega,?_⟩
    rw[←hvx]
    refine zaE (.bool (zaZ (data.take (d+1)) D.vars C.args[i])) (fun J=>zxY (data.take (d+1)) D.vars _ (by omega) _ _ ⟨rfl,rfl⟩) ?_
    have hao:zdG data d D.vars C.args[i]=(zaZ (data.take (d+1)) D.vars C.args[i] && (zbU d D.vars C.args[i] || !zck d C.args[i])):=rfl
    rw[hao]at ho
    cases hv:zaZ (data.take (d+1)) D.vars C.args[i] with
    | false=>
     rw[hv]at ho
     simp only[Bool.false_and]at ho
     rw[←ho]at hO
     simp;exact hO _
    | true=>
    rw[hv]at ho
    cases hsf:zbU d D.vars C.args[i] with
    | true=>
     rw[hsf]at ho
     simp[hlt,hsf]
     rw[zat (by omega) (by omega)]
     refine hKb _ _ ⟨C.args.length-(i+1),by omega,Back.same (by simp) hs ?_ ⟨_,rfl,i+1,by omega,rfl,by simp,by simpa using ho,rfl⟩⟩
     simp[zhL,AV.sc,AV.scV,AV.scA,AV.scB]
    | false=>
     rw[hsf]at ho
     simp[hlt,hsf]
     refine zaE (.bool (zck d C.args[i])) (fun J=>zNT d _ _ (Nat.le_refl _) (by omega) _ _ ⟨rfl,rfl⟩) ?_
     cases hm:zck d C.args[i] with
     | true=>
      rw[hm]at ho
      simp only[Bool.not_true,Bool.or_false,Bool.and_false,Bool.false_and]at ho
      rw[←ho]at hO
      simp;exact hO _
     | false=>
      rw[hm]at ho
      simp
      rw[zat (by omega) (by omega)]
      refine hKb _ _ ⟨C.args.length-(i+1),by omega,Back.same (by simp) hs ?_ ⟨_,rfl,i+1,by omega,rfl,by simp,by simpa using ho,rfl⟩⟩
      simp[zhL,AV.sc,AV.scV,AV.scA,AV.scB]
   ·obtain rfl:i=C.args.length:=by omega
    rw[List.drop_length,List.all_nil]at ho
    rw[←ho]at hO
    simp[zry]
    simpa using hO []
 ·have h6':(6:Int)<C.args.length:=by omega
  have h6'':6<C.args.length:=by omega
  simp[h6',h6'']
  simp[h6]at hO
  simpa using hO []
end Go.Proofs.YtdmamdnkcefmmaaGreatDoor
