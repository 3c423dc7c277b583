import Derived.Test.YtaifokkaaahdoaaGreatDoorLJ5
import Derived.Test.YtaifokkaaahdoaaGreatDoorLA3
import Derived.Test.YtaifokkaaahdoaaGreatDoorKP1
import Derived.Test.YtaifokkaaahdoaaGreatDoorLI9
set_option linter.unusedSectionVars false
set_option linter.unusedSimpArgs false
set_option linter.unusedVariables false
set_option maxRecDepth 8000
namespace Go.Proofs.YtaifokkaaahdoaaGreatDoor
open Go Go.Abs
mutual
def nar:VT→Prop
 |.mk _ _ ks=>ks.length≤1000∧zct ks
def zct:List VT→Prop
 |[]=>True
 |v::vs=>nar v∧zct vs
end
theorem zib:∀ {ks:List VT},zct ks→∀ x∈ks,nar x
 |[],_,x,hx=>by simp at hx
 |v::vs,h,x,hx=>by
  rw[zct]at h;rcases List.mem_cons.1 hx with e|hx
  ·rw[e];exact h.1
  ·exact zib h.2 x hx
mutual
theorem zp9{data:List Dat}{vars:Int}(hv:∀ D∈data,D.vars≤6):∀ v:VT,zaz data vars v=true→nar v
 |.mk k n ks,h=>by
  rw[zaz,Bool.and_eq_true]at h;rw[nar];refine⟨?_,zw6 hv ks h.2⟩;have hs:=h.1;unfold zaC at hs;split at hs
  ·simp at hs;have:=hs.2;simp[this]
  split at hs
  ·simp at hs;have:=hs.2;simp[this]
  split at hs
  ·simp at hs;cases hd:data[n.toNat]? with
   |none=>rw[hd]at hs;simp at hs
   |some D=>rw[hd]at hs;have:=hv D (List.mem_of_getElem? hd);have h2:=hs.2;simp at h2;omega
  split at hs
  ·simp at hs;omega
  split at hs
  ·simp at hs;omega
  split at hs
  ·simp at hs;omega
  ·cases hs
theorem zw6{data:List Dat}{vars:Int}(hv:∀ D∈data,D.vars≤6):∀ l:List VT,zaI data vars l=true→zct l
 |[],_=>by rw[zct];trivial
 |v::vs,h=>by rw[zaI,Bool.and_eq_true]at h;rw[zct];exact⟨zp9 hv v h.1,zw6 hv vs h.2⟩
end
mutual
theorem zvB:∀ v:VT,nar v→zaW v
 |.mk _ _ ks,h=>by rw[nar]at h;rw[zaW];exact⟨by omega,zvz ks h.2⟩
theorem zvz:∀ l:List VT,zct l→zci l
 |[],_=>by rw[zci];trivial
 |v::vs,h=>by rw[zct]at h;rw[zci];exact⟨zvB v h.1,zvz vs h.2⟩
end
def wsz(v:VT):Int:=IntKind.i64.wrap v.nodes
theorem zcV(n:Int):IntKind.i64.wrap n=(if n % 18446744073709551616≥9223372036854775808 then n % 18446744073709551616-18446744073709551616 else n % 18446744073709551616):=by show (if (true && decide (n % 18446744073709551616≥9223372036854775808))=true then n % 18446744073709551616-18446744073709551616 else n % 18446744073709551616)=_;simp
theorem zxs(a b:Int):IntKind.i64.wrap (IntKind.i64.wrap a+IntKind.i64.wrap b)=IntKind.i64.wrap (a+b):=by simp only[zcV];omega
theorem zAg:∀(m:Nat) (v:VT),v.nodes≤m→zaW v→∀(H:zaa) (K:AV→zaa→Prop),K (.int .i64 (wsz v)) H→ACalls tP zgE [.agg v.cs] H K:=by
 intro m;induction m with
 |zero=>intro v h;have:=v.nodes_pos;omega
 |succ m ih=>
  intro v hv hb H K hK;obtain⟨k,n,ks⟩:=v;have hfit:ks.length≤9223372036854775807∧zci ks:=by rw[zaW]at hb;exact hb
  have hw:wsz (.mk k n ks)=IntKind.i64.wrap ((1+VT.nodesL ks:Nat):Int):=by unfold wsz;simp[VT.nodes,Nat.add_comm]
  rw[hw]at hK;refine ACalls.out (zAj λhs=>?_);simp[VT.cs,zsw];refine zAi (Inv:=λq t3 t4 H'=>∃i:Nat,i≤ks.length∧q=ks.length-i∧t4=.int .i64 i∧t3=.int .i64 (IntKind.i64.wrap ((1+VT.nodesL (ks.take i):Nat):Int))∧H'=H++[.cells [.int .i64 k,.int .i64 n,.sl (VT.css ks) .none]]) ks.length ?_ ?_
  ·intro _;exact⟨0,by omega,by omega,rfl,by simp[VT.nodesL,zcV],rfl⟩
  ·rintro q t3 t4 H' ⟨i,hi,rfl,rfl,rfl,rfl⟩ hsc hlen hsF Kb hKb;by_cases hlt:i<ks.length
   ·have hki:=VT.kid_lt (k:=k) (n:=n) hlt;have h1:=VT.nodesL_take hlt;have he:IntKind.i64.wrap (IntKind.i64.wrap ((1+VT.nodesL (ks.take i):Nat):Int)+wsz ks[i])=IntKind.i64.wrap ((1+VT.nodesL (ks.take (i+1)):Nat):Int):=by unfold wsz;rw[zxs,h1];congr 1;omega
    simp only[ziT];simp[hlt];refine ih ks[i] (by omega) (zfC hfit.2 _ (List.getElem_mem hlt)) _ _ ?_;simp only[Int.natCast_add,Int.natCast_one]at he;simp[he];rw[wrM (by omega)];refine hKb _ _ ⟨ks.length-(i+1),by omega,Back.here (by simp) hsc ?_ ⟨_,_,rfl,i+1,by omega,rfl,rfl,by simp,rfl⟩⟩;simp[ziU,AV.sc,AV.scV,AV.scA,AV.scB]
   ·obtain rfl:i=ks.length:=by omega
    rw[List.take_length]at *;simp[ziT];exact Out.int rfl (Nat.le_refl _) hs (by simpa using hK)
theorem zN7(data:List Dat)(hdl:data.length≤1000000)(vars:Int):∀(m:Nat) (v:VT),v.nodes≤m→zaW v→∀(H:zaa) (K:AV→zaa→Prop),K (.bool (zaz data vars v)) H→ACalls tP zh2 [.sl (data.map Dat.cs) .none,.agg v.cs,.int .i64 vars] H K:=by
 intro m;induction m with
 |zero=>intro v h;have:=v.nodes_pos;omega
 |succ m ih=>
  intro v hv hb H K hK;obtain⟨k,n,ks⟩:=v;have hfit:ks.length≤9223372036854775807∧zci ks:=by rw[zaW]at hb;exact hb
  refine ACalls.out (zAm λhs=>?_);have hO:∀J,Out H.length K (.bool (zaC data vars k n ks.length && zaI data vars ks)) (H++J):=λJ=>Out.bool rfl (Nat.le_refl _) hs (by simpa[zaz]using hK);have hF:zaC data vars k n ks.length=false→∀J,Out H.length K (.bool false) (H++J):=λh J=>by have:=hO J;rwa [h,Bool.false_and]at this
  have loop:zaC data vars k n ks.length=true→zmV (.sl (data.map Dat.cs) .none) (.int .i64 vars) (.ptr H.length 0) (.int .i64 ks.length) (.int .i64 0) (H++[.cells [.int .i64 k,.int .i64 n,.sl (VT.css ks) .none]]) (Out H.length K):=by
   intro hsh;rw[hsh]at hO;simp only[Bool.true_and]at hO;refine zAl (Inv:=λq t8 H'=>∃i:Nat,i≤ks.length∧q=ks.length-i∧t8=.int .i64 i∧zaI data vars (ks.drop i)=zaI data vars ks∧H'=H++[.cells [.int .i64 k,.int .i64 n,.sl (VT.css ks) .none]]) ks.length ?_ ?_
   ·intro _;exact⟨0,by omega,by omega,rfl,by simp,rfl⟩
   ·rintro q t8 H' ⟨i,hi,rfl,rfl,ho,rfl⟩ hsc hlen hsF Kb hKb;by_cases hlt:i<ks.length
    ·have hki:=VT.kid_lt (k:=k) (n:=n) hlt;rw[List.drop_eq_getElem_cons hlt,zaI]at ho;simp[ziV,hlt];refine ih ks[i] (by omega) (zfC hfit.2 _ (List.getElem_mem hlt)) _ _ ?_;cases hb:zaz data vars ks[i] with
     |false=>rw[hb,Bool.false_and]at ho;rw[←ho]at hO;simp;exact hO _
     |true=>rw[hb,Bool.true_and]at ho;simp;rw[wrM (by omega)];refine hKb _ _ ⟨ks.length-(i+1),by omega,Back.here (by simp) hsc ?_ ⟨_,rfl,i+1,by omega,rfl,by simp,ho,rfl⟩⟩;simp[ziW,AV.sc,AV.scV,AV.scA,AV.scB]
    ·obtain rfl:i=ks.length:=by omega
     rw[List.drop_length,zaI]at ho;rw[←ho]at hO;simp[ziV];exact hO _
  have prim:(k=1∨k=2∨k=3)→Out H.length K (.bool (n == 0 && ks.length == 0)) (H++[.cells [.int .i64 k,.int .i64 n,.sl (VT.css ks) .none]]):=by
   intro h;have hsh:zaC data vars k n ks.length=(n == 0 && ks.length == 0):=by rcases h with rfl|rfl|rfl <;> rfl
   have:=hO [.cells [.int .i64 k,.int .i64 n,.sl (VT.css ks) .none]];rw[hsh]at this;cases ks with
   |nil=>simpa[zaI]using this
   |cons x l=>simpa using this
  by_cases h123:k=1∨k=2∨k=3
  ·have:=prim h123;cases hn:(n == 0) with
   |false=>rw[hn,Bool.false_and]at this;rcases h123 with rfl|rfl|rfl <;> simp[zbr,VT.cs,za5,hn] <;> exact this
   |true=>
    rw[hn,Bool.true_and]at this;have e:((ks.length:Int) == 0)=(ks.length == 0):=by rw[Bool.eq_iff_iff];simp
    rw[←e]at this;rcases h123 with rfl|rfl|rfl <;> simp only[zbr,VT.cs] <;> simp[za5,hn] <;> simpa using this
  by_cases h4:k=4
  ·subst h4;have hsh:zaC data vars 4 n ks.length=(decide (0≤n) && decide (n<vars) && ks.length == 0):=rfl;have hO':∀J,Out H.length K (.bool (decide (0≤n) && decide (n<vars) && ks.length == 0)) (H++J):=λJ=>by
    have:=hO J;rw[hsh]at this;cases ks with
    |nil=>simpa[zaI]using this
    |cons x l=>simpa using this
   have e:((ks.length:Int) == 0)=(ks.length == 0):=by rw[Bool.eq_iff_iff];simp
   rw[←e]at hO';by_cases g1:0≤n
   ·by_cases g2:n<vars
    ·simp only[zbr,VT.cs];simp[za5,g1,g2];simpa[g1,g2]using hO' _
    ·simp only[zbr,VT.cs];simp[za5,g1,g2];simpa[g1,g2]using hO' _
   ·simp only[zbr,VT.cs];simp[za5,g1];simpa[g1]using hO' _
  by_cases h5:k=5
  ·subst h5;have hsh:zaC data vars 5 n ks.length=(decide (0≤n) && (match data[n.toNat]? with | some d=>(ks.length:Int) == d.vars | none=>false)):=rfl;by_cases g1:0≤n
   ·have g1':¬ n<0:=by omega
    by_cases g2:n<data.length
    ·have hnl:n.toNat<data.length:=by omega
     have g2':¬(data.length:Int)≤n:=by omega
     have hat:(data.map Dat.cs)[n.toNat]?.getD []=[.str data[n.toNat].name,.int .i64 data[n.toNat].vars,.sl (data[n.toNat].cons.map Con.cs) .none]:=by simp[hnl,Dat.cs]
     rw[List.getElem?_eq_getElem hnl]at hsh;simp only[g1,decide_true,Bool.true_and]at hsh;cases hv:((ks.length:Int) == data[n.toNat].vars) with
     |false=>
      rw[hv]at hsh;have hv':((ks.length:Int) != data[n.toNat].vars)=true:=by simp[bne,hv]
      simp only[zbr,VT.cs];simp[za5,g1',g2',g1,g2,hnl,Dat.cs,hv'];exact hF hsh _
     |true=>
      rw[hv]at hsh;have hv':((ks.length:Int) != data[n.toNat].vars)=false:=by simp[bne,hv]
      simp only[zbr,VT.cs];simp[za5,g1',g2',g1,g2,hnl,Dat.cs,hv',zdA,zeQ];exact loop hsh
    ·have g2':(data.length:Int)≤n:=by omega
     rw[List.getElem?_eq_none (by omega)]at hsh;simp only[zbr,VT.cs];simp[za5,g1',g2'];exact hF (by rw[hsh];simp) _
   ·have g1':n<0:=by omega
    simp only[zbr,VT.cs];simp[za5,g1'];exact hF (by rw[hsh];simp[g1]) _
  by_cases h6:k=6
  ·subst h6;have hsh:zaC data vars 6 n ks.length=(n == 0 && decide (2≤ks.length) && decide (ks.length≤6)):=rfl;simp only[zbr,VT.cs];cases hn:(n == 0) with
   |false=>
    have:(n != 0)=true:=by simp[bne,hn]
    simp[za5,this];exact hF (by rw[hsh,hn];rfl) _
   |true=>
    have hn':(n != 0)=false:=by simp[bne,hn]
    by_cases g1:ks.length<2
    ·have:(ks.length:Int)<2:=by omega
     simp[za5,hn',this];exact hF (by rw[hsh];simp;omega) _
    ·have g1':¬ (ks.length:Int)<2:=by omega
     by_cases g2:6<ks.length
     ·have:(6:Int)<ks.length:=by omega
      simp[za5,hn',g1',this];exact hF (by rw[hsh];simp;omega) _
     ·have:¬ (6:Int)<ks.length:=by omega
      simp[za5,hn',g1',this,zdA,zeQ];exact loop (by rw[hsh,hn];simp;omega)
  by_cases h78:k=7∨k=8
  ·have hsh:zaC data vars k n ks.length=(n == 0 && ks.length == 1):=by rcases h78 with rfl | rfl <;> rfl
   cases hn:(n == 0) with
   |false=>
    have:(n != 0)=true:=by simp[bne,hn]
    have fin:=hF (by rw[hsh,hn];rfl);simp only[zbr,VT.cs];rcases h78 with rfl|rfl <;> simp[za5,zck,this] <;> exact fin _
   |true=>
    have hn':(n != 0)=false:=by simp[bne,hn]
    by_cases g1:ks.length=1
    ·have g1':((ks.length:Int) != 1)=false:=by simp[g1]
     have fin:=loop (by rw[hsh,hn,g1];rfl);simp only[zbr,VT.cs];rcases h78 with rfl|rfl <;> simp[za5,zck,hn',g1',zdA,zeQ] <;> exact fin
    ·have g1':((ks.length:Int) != 1)=true:=by simp;omega
     have fin:=hF (by rw[hsh];simp[g1]);simp only[zbr,VT.cs];rcases h78 with rfl|rfl <;> simp[za5,zck,hn',g1'] <;> exact fin _
  have b1:(k == 1)=false:=by simp;omega
  have b2:(k == 2)=false:=by simp;omega
  have b3:(k == 3)=false:=by simp;omega
  have b4:(k == 4)=false:=by simp;omega
  have b5:(k == 5)=false:=by simp;omega
  have b6:(k == 6)=false:=by simp;omega
  have b7:(k == 7)=false:=by simp;omega
  have b8:(k == 8)=false:=by simp;omega
  by_cases h9:k=9
  ·subst h9;have hsh:zaC data vars 9 n ks.length=(n == 0 && decide (1≤ks.length) && decide (ks.length≤7)):=rfl;simp only[zbr,VT.cs];cases hn:(n == 0) with
   |false=>
    have:(n != 0)=true:=by simp[bne,hn]
    simp[za5,zck,this];exact hF (by rw[hsh,hn];rfl) _
   |true=>
    have hn':(n != 0)=false:=by simp[bne,hn]
    by_cases g1:ks.length<1
    ·have:(ks.length:Int)<1:=by omega
     simp[za5,zck,hn',this];exact hF (by rw[hsh];simp;omega) _
    ·have g1':¬ (ks.length:Int)<1:=by omega
     by_cases g2:7<ks.length
     ·have:(7:Int)<ks.length:=by omega
      simp[za5,zck,hn',g1',this];exact hF (by rw[hsh];simp;omega) _
     ·have:¬ (7:Int)<ks.length:=by omega
      simp[za5,zck,hn',g1',this,zdA,zeQ];exact loop (by rw[hsh,hn];simp;omega)
  ·have b9:(k == 9)=false:=by simp;omega
   simp only[zbr,VT.cs];simp[za5,zck,b1,b2,b3,b4,b5,b6,b7,b8,b9];exact hF (by unfold zaC;simp[b1,b2,b3,b4,b5,b6,b7,b8,b9]) _
def zeK(data:List Dat)(vars:Int)(v:VT):Bool:=decide (wsz v≤200) && zaz data vars v
theorem zzu(data:List Dat)(hdl:data.length≤1000000)(vars:Int)(v:VT)(hb:zaW v)(H:zaa)(K:AV→zaa→Prop)(hK:K (.bool (zeK data vars v)) H):ACalls tP zhZ [.sl (data.map Dat.cs) .none,.agg v.cs,.int .i64 vars] H K:=by
 refine ACalls.out (zzv λhs=>?_);have hO:∀J,Out H.length K (.bool (zeK data vars v)) (H++J):=λJ=>Out.bool rfl (Nat.le_refl _) hs hK;unfold zeK at hO;simp[zr4];refine zAg _ v (Nat.le_refl _) hb _ _ ?_;by_cases h:wsz v≤200
 ·simp[h];refine zN7 data hdl vars _ v (Nat.le_refl _) hb _ _ ?_;simpa[h]using hO _
 ·simp[h];simpa[h]using hO _
theorem zCJ:∀(m:Nat) (v:VT),v.nodes≤m→nar v→∀(H:zaa) (K:AV→zaa→Prop),K (.agg v.cs) H→ACalls tP zhT [.agg v.cs] H K:=by
 intro m;induction m with
 |zero=>intro v h;have:=v.nodes_pos;omega
 |succ m ih=>
  intro v hv hb H K hK;obtain⟨k,n,ks⟩:=v;have hfit:ks.length≤1000∧zct ks:=by rw[nar]at hb;exact hb
  have hll:=hfit.1;refine ACalls.out (zyH λhs=>?_);simp[VT.cs,zrw,zao,zaM,Nat.add_assoc];refine zyG (Inv:=λq t4 H'=>∃i:Nat,i≤ks.length∧q=ks.length-i∧t4=.int .i64 i∧H'=H++[.cells [.int .i64 k,.int .i64 n,.sl (VT.css ks) .none],.cells [.int .i64 0,.int .i64 0,.snil],.cells [.int .i64 k,.int .i64 n,zbw (VT.css (ks.take i)) (H.length+3)]]++zbQ za9 3 i) ks.length ?_ ?_
  ·intro _;exact⟨0,by omega,by omega,rfl,by simp[zbQ,zbw,VT.css]⟩
  ·rintro q t4 H' ⟨i,hi,rfl,rfl,rfl⟩ hsc hlen hsF Kb hKb;by_cases hlt:i<ks.length
   ·have hki:=VT.kid_lt (k:=k) (n:=n) hlt;simp[ziz,hlt];refine zaV (.agg (ks[i]).cs) (λJ=>ih ks[i] (by omega) (zib hfit.2 _ (List.getElem_mem hlt)) _ _ ⟨rfl,rfl⟩) ?_;rw[zcX];refine zjf (H0:=H++[.cells [.int .i64 k,.int .i64 n,.sl (VT.css ks) .none],.cells [.int .i64 0,.int .i64 0,.snil],.cells [.int .i64 k,.int .i64 n,zbw (VT.css (ks.take i)) (H.length+3)]]) (n:=i) (by simp;omega) (by simp) (by simp) (by simp) (by simp;omega) (by simp;omega) ?_;rw[←zeY hlt];simp;rw[zav (by omega) (by omega)];refine hKb _ _ ⟨ks.length-(i+1),by omega,Back.here (by simp[zbQ]) ?_ ?_ ⟨_,rfl,i+1,by omega,rfl,by simp,by simp⟩⟩
    ·refine hs.append ?_;simp[AB.sc,zbQ,AV.scA,AV.scB];exact zje _ (.inr (by omega))
    ·simp[ziA,AV.sc,AV.scV,AV.scA,AV.scB]
   ·obtain rfl:i=ks.length:=by omega
    rw[List.take_length]at *;simp[ziz];exact zkq hs hK
theorem zHi(args:List VT)(ha:∀x∈args,nar x)(hal:args.length≤1000000):∀(m:Nat) (v:VT),v.nodes≤m→nar v→∀(H:zaa) (K:AV→zaa→Prop),K (.agg (subst args v).cs) H→ACalls tP zhO [.agg v.cs,.sl (VT.css args) .none] H K:=by
 intro m;induction m with
 |zero=>intro v h;have:=v.nodes_pos;omega
 |succ m ih=>
  intro v hv hb H K hK;obtain⟨k,n,ks⟩:=v;have hfit:ks.length≤1000∧zct ks:=by rw[nar]at hb;exact hb
  have hll:=hfit.1;refine ACalls.out (zxA λhs=>?_);by_cases hvar:k=4∧0≤n∧n<args.length
  ·obtain⟨rfl,h0,h1⟩:=hvar;have hn:n.toNat<args.length:=by omega
   have hK':K (.agg (args[n.toNat]).cs) H:=by rw[subst,if_pos ⟨rfl,h0,h1⟩,List.getElem?_eq_getElem hn]at hK;exact hK
   simp[VT.cs,ziq,h0,h1,hn];refine zCJ _ _ (Nat.le_refl _) (ha _ (List.getElem_mem hn)) _ _ ?_;generalize args[n.toNat]=x at *;obtain⟨k',n',ks'⟩:=x;simp[VT.cs];exact Out.at rfl (Nat.le_refl _) hs .rfl' rfl rfl hK'
  ·have hK':K (.agg (VT.mk k n (zaH args ks)).cs) H:=by rw[subst,if_neg hvar]at hK;exact hK
   have go:∀H1,H1=H++[.cells [.int .i64 k,.int .i64 n,.sl (VT.css ks) .none],.cells [.int .i64 0,.int .i64 0,.snil],.cells [.int .i64 k,.int .i64 n,.snil]]→zlb (.sl (VT.css args) .none) (.ptr H.length 0) (.ptr (H.length+1) 0) (.ptr (H.length+2) 0) (.int .i64 0) H1 (Out H.length K):=by
    rintro _ rfl;refine zxz (Inv:=λq t6 H'=>∃i:Nat,i≤ks.length∧q=ks.length-i∧t6=.int .i64 i∧H'=H++[.cells [.int .i64 k,.int .i64 n,.sl (VT.css ks) .none],.cells [.int .i64 0,.int .i64 0,.snil],.cells [.int .i64 k,.int .i64 n,zbw (VT.css ((zaH args ks).take i)) (H.length+3)]]++zbQ za9 3 i) ks.length ?_ ?_
    ·intro _;exact⟨0,by omega,by omega,rfl,by simp[zbQ,zbw,VT.css]⟩
    ·rintro q t6 H' ⟨i,hi,rfl,rfl,rfl⟩ hsc hlen hsF Kb hKb;by_cases hlt:i<ks.length
     ·have hki:=VT.kid_lt (k:=k) (n:=n) hlt;have hlt':i<(zaH args ks).length:=by rw[zdw];simpa using hlt
      have hsi:(zaH args ks)[i]=subst args ks[i]:=by simp[zdw]
      simp[zir,hlt];refine zaV (.agg (subst args ks[i]).cs) (λJ=>ih ks[i] (by omega) (zib hfit.2 _ (List.getElem_mem hlt)) _ _ ⟨rfl,rfl⟩) ?_;rw[zcX,←hsi];refine zjf (H0:=H++[.cells [.int .i64 k,.int .i64 n,.sl (VT.css ks) .none],.cells [.int .i64 0,.int .i64 0,.snil],.cells [.int .i64 k,.int .i64 n,zbw (VT.css ((zaH args ks).take i)) (H.length+3)]]) (n:=i) (by simp;omega) (by simp) (by simp) (by simp) (by simp;omega) (by simp;omega) ?_;rw[←zeY hlt'];simp;rw[zav (by omega) (by omega)];refine hKb _ _ ⟨ks.length-(i+1),by omega,Back.here (by simp[zbQ]) ?_ ?_ ⟨_,rfl,i+1,by omega,rfl,by simp,by simp⟩⟩
      ·refine hs.append ?_;simp[AB.sc,zbQ,AV.scA,AV.scB];exact zje _ (.inr (by omega))
      ·simp[zis,AV.sc,AV.scV,AV.scA,AV.scB]
     ·obtain rfl:i=ks.length:=by omega
      have e:(zaH args ks).take ks.length=zaH args ks:=List.take_of_length_le (by rw[zdw];simp);rw[e];simp[zir];exact zkq hs hK'
   simp only[VT.cs,ziq];by_cases h4:k=4
   ·subst h4;by_cases h0:0≤n
    ·have h1:¬n<args.length:=λh=>hvar ⟨rfl,h0,h⟩;simp[h0,h1,zao,zaM,Nat.add_assoc];exact go _ rfl
    ·simp[h0,zao,zaM,Nat.add_assoc];exact go _ rfl
   ·have h4':(k == 4)=false:=by simpa using h4
    simp[h4',zao,zaM,Nat.add_assoc];exact go _ rfl
theorem zBu(v:VT)(d vars:Int)(hb:zaW v)(H:zaa)(K:AV→zaa→Prop)(hK:K (.bool (zbT d vars v)) H):ACalls tP zkc [.agg v.cs,.int .i64 d,.int .i64 vars] H K:=by
 refine ACalls.out (zAa λhs=>?_);obtain⟨k,n,ks⟩:=v;have hll:ks.length≤9223372036854775807:=by rw[zaW]at hb;exact hb.1
 have hO:∀J,Out H.length K (.bool (k == 5 && n == d && (ks.length:Int) == vars && zcf ks 0)) (H++J):=λJ=>Out.bool rfl (Nat.le_refl _) hs (by simpa[zbT]using hK);simp only[VT.cs,zsq];cases h5:(k == 5) with
 |false=>
  have:(k != 5)=true:=by simp[bne,h5]
  rw[h5]at hO;simp[this];exact hO _
 |true=>
 have h5':(k != 5)=false:=by simp[bne,h5]
 cases hn:(n == d) with
 |false=>
  have:(n != d)=true:=by simp[bne,hn]
  rw[h5,hn]at hO;simp[h5',this];exact hO _
 |true=>
 have hn':(n != d)=false:=by simp[bne,hn]
 cases hv:((ks.length:Int) == vars) with
 |false=>
  have:((ks.length:Int) != vars)=true:=by simp[bne,hv]
  rw[h5,hn,hv]at hO;simp[h5',hn',this];exact hO _
 |true=>
 have hv':((ks.length:Int) != vars)=false:=by simp[bne,hv]
 rw[h5,hn,hv]at hO;simp only[Bool.true_and]at hO;simp[h5',hn',hv'];refine zz9 (Inv:=λq t7 H'=>∃i:Nat,i≤ks.length∧q=ks.length-i∧t7=.int .i64 i∧zcf (ks.drop i) i=zcf ks 0∧H'=H++[.cells [.int .i64 k,.int .i64 n,.sl (VT.css ks) .none]]) ks.length ?_ ?_
 ·intro _;exact⟨0,by omega,by omega,rfl,by simp,rfl⟩
 ·rintro q t7 H' ⟨i,hi,rfl,rfl,ho,rfl⟩ hsc hlen hsF Kb hKb;by_cases hlt:i<ks.length
  ·rw[List.drop_eq_getElem_cons hlt,zcf]at ho;obtain⟨k',n',ks',hx⟩:∃ k' n' ks',ks[i]=.mk k' n' ks':=by cases h:ks[i] with | mk a b c=>exact⟨a,b,c,rfl⟩
   rw[hx,zhE]at ho;cases g1:(k' == 4) with
   |false=>
    have:(k' != 4)=true:=by simp[bne,g1]
    rw[g1]at ho;simp only[Bool.false_and]at ho;rw[←ho]at hO;simp[zdP,hlt,hx,VT.cs,this];exact hO _
   |true=>
   have g1':(k' != 4)=false:=by simp[bne,g1]
   cases g2:(n' == (i:Int)) with
   |false=>
    have:(n' != (i:Int))=true:=by simp[bne,g2]
    rw[g1,g2]at ho;simp only[Bool.false_and,Bool.and_false]at ho;rw[←ho]at hO;simp[zdP,hlt,hx,VT.cs,g1',this];exact hO _
   |true=>
   have g2':(n' != (i:Int))=false:=by simp[bne,g2]
   by_cases g3:ks'.length=0
   ·have g3':¬ (0:Int)<ks'.length:=by omega
    have g3'':¬ 0<ks'.length:=by omega
    rw[g1,g2,g3]at ho;simp only[Bool.true_and,BEq.rfl]at ho;simp[zdP,hlt,hx,VT.cs,g1',g2',g3',g3''];rw[wrM (by omega)];refine hKb _ _ ⟨ks.length-(i+1),by omega,Back.here (by simp) hsc ?_ ⟨_,rfl,i+1,by omega,rfl,by simp,ho,rfl⟩⟩;simp[ziS,AV.sc,AV.scV,AV.scA,AV.scB]
   ·have g3':(0:Int)<ks'.length:=by omega
    have g3'':0<ks'.length:=by omega
    have g4:(ks'.length == 0)=false:=by simpa using g3
    rw[g4]at ho;simp only[Bool.and_false,Bool.false_and]at ho;rw[←ho]at hO;simp[zdP,hlt,hx,VT.cs,g1',g2',g3',g3''];exact hO _
  ·obtain rfl:i=ks.length:=by omega
   rw[List.drop_length,zcf]at ho;rw[←ho]at hO;simp[zdP];exact hO _
def zfb(data:List Dat)(d:Nat)(vars:Int)(t:VT):Bool:=zbT d vars t || zeK (data.take d) vars t
structure RConW (data:List Dat) (d:Nat) (vars:Int) (c:Con):Prop where
 up:zbO c.name=true
 len:c.args.length≤6
 args:∀x∈c.args,zfb data d vars x=true
structure RDatW (data:List Dat) (d:Nat) (D:Dat):Prop where
 v0:0≤D.vars
 v6:D.vars≤6
 c1:1≤D.cons.length
 c8:D.cons.length≤8
 up:zbO D.name=true
 cons:∀c∈D.cons,RConW data d D.vars c
structure RDataW (data:List Dat):Prop where
 len:data.length≤12
 dats:∀d (h:d<data.length),RDatW data d data[d]
 names:(za8 data).Nodup
 cons:(zaE data).Nodup
def znA(data:List Dat):Prop:=data.length≤14∧∀D∈data,D.cons.length≤10∧∀c∈D.cons,c.args.length≤8∧∀x∈c.args,zaW x
theorem zMc(data:List Dat)(hkd:znA data)(H:zaa)(K:AV→zaa→Prop)(hK:∀b,(b=true↔RDataW data)→K (.bool b) H):ACalls tP zj4 [.sl (data.map Dat.cs) .none] H K:=by
 refine ACalls.out (zzt λhs=>?_);obtain⟨kl,kd⟩:=hkd;have hF:¬RDataW data→∀J,Out H.length K (.bool false) (H++J):=λh J=>Out.bool rfl (Nat.le_refl _) hs (hK _ (by simp[h]));have hT:∀b:Bool,(b=true↔RDataW data)→∀J,Out H.length K (.bool b) (H++J):=λb h J=>Out.bool rfl (Nat.le_refl _) hs (hK _ h);by_cases h12:data.length>12
 ·have h12':(12:Int)<data.length:=by omega
  simp[ziH,h12'];have:=hF (λh=>by have:=h.len;omega) [];simpa using this
 have h12':¬(12:Int)<data.length:=by omega
 simp[ziH,h12'];unfold zha;refine ALoop.own 3 za0 1 rfl ?_;refine ALoop.own 4 za0 1 rfl ?_;rw[List.append_assoc];have hcn:∀d,(zaE (data.take d)).length≤140:=λd=>by have:=znY (data.take d) (λD hD=>(kd D (List.mem_of_mem_take hD)).1);rw[List.length_take]at this;have:min d data.length*10≤14*10:=Nat.mul_le_mul_right _ (by omega);omega
 have hl1:(H++[AB.perm za0 1 0]).length=H.length+1:=by simp
 rw[hl1];show zha (.sl (data.map Dat.cs) .none) (.sl [] (.own H.length)) (.sl [] (.own (H.length+1))) (.int .i64 0) (H++[.perm za0 1 0,.perm za0 1 0]) (Out H.length K);have hsP:∀m n,HSc (H++[.perm za0 1 m,.perm za0 1 n]):=λm n=>hs.append rfl;refine zzq (Inv:=λq t3 t4 t5 H'=>∃d:Nat,d≤data.length∧q=data.length-d∧t5=.int .i64 d∧t3=.sl (strs (za8 (data.take d))) (.own H.length)∧t4=.sl (strs (zaE (data.take d))) (.own (H.length+1))∧(∀j (h:j<data.length),j<d→RDatW data j data[j])∧H'=H++[.perm za0 1 d,.perm za0 1 (zaE (data.take d)).length]) data.length ?_ ?_
 ·intro _;exact⟨0,by omega,by omega,rfl,by simp[za8,strs],by simp[zaE,strs],by omega,by simp[zaE]⟩
 ·rintro q t3 t4 t5 H' ⟨d,hd,rfl,rfl,rfl,rfl,hok,rfl⟩ hsc hlen hsF Kb hKb;by_cases hlt:d<data.length
  ·have hbad:¬ RDatW data d data[d]→∀ J,Out H.length K (.bool false) (H++J):=λh=>hF λhh=>h (hh.dats d hlt);have hcd:=hcn d;have hds:=zuk hlt;have hcs:=zt9 hlt;obtain⟨kc,kcc⟩:=kd _ (List.getElem_mem hlt);have hdl:(za8 (data.take d)).length=d:=by simp[za8];omega
   generalize hD:data[d]=D at *;have hge:(data.map Dat.cs)[d]?.getD []=[.str D.name,.int .i64 D.vars,.sl (D.cons.map Con.cs) .none]:=by simp[hlt,hD,Dat.cs]
   by_cases hv0:D.vars<0
   ·simp[zda,hlt,hD,Dat.cs,hv0];exact hbad (λh=>by have:=h.v0;omega) _
   by_cases hv6:6<D.vars
   ·simp[zda,hlt,hD,Dat.cs,hv0,hv6];exact hbad (λh=>by have:=h.v6;omega) _
   by_cases hc1:D.cons.length<1
   ·have hc1':(D.cons.length:Int)<1:=by omega
    simp[zda,hlt,hD,Dat.cs,hv0,hv6,hc1'];exact hbad (λh=>by have:=h.c1;omega) _
   have hc1':¬(D.cons.length:Int)<1:=by omega
   by_cases hc8:8<D.cons.length
   ·have hc8':(8:Int)<D.cons.length:=by omega
    simp[zda,hlt,hD,Dat.cs,hv0,hv6,hc1',hc8'];exact hbad (λh=>by have:=h.c8;omega) _
   have hc8':¬(8:Int)<D.cons.length:=by omega
   simp[zda,hlt,hD,Dat.cs,hv0,hv6,hc1',hc8'];refine zmP _ _ _ ?_;cases hup:zbO D.name with
   |false=>simp;exact hbad (λh=>by have:=h.up;rw[hup]at this;cases this) _
   |true=>
   simp[zjn];simp[zax,zbc,za2,hdl];refine⟨by omega,?_⟩;rw[←zkJ,←hds];refine zzo (Inv:=λq t4 t7 H'=>∃k:Nat,k≤D.cons.length∧q=D.cons.length-k∧t7=.int .i64 k∧t4=.sl (strs (zaE (data.take d)++(D.cons.map Con.name).take k)) (.own (H.length+1))∧(∀c∈D.cons.take k,RConW data d D.vars c)∧H'=H++[.perm za0 1 (d+1),.perm za0 1 ((zaE (data.take d)).length+k),.cells [.str D.name,.int .i64 D.vars,.sl (D.cons.map Con.cs) .none]]) D.cons.length ?_ ?_
   ·intro _;exact⟨0,by omega,by omega,rfl,by simp,by simp,by simp⟩
   ·rintro q t4 t7 H' ⟨k,hk,rfl,rfl,rfl,hck,rfl⟩ hsc1 hlen1 hsF1 Kb1 hKb1;have hlk:(zaE (data.take d)++(D.cons.map Con.name).take k).length=(zaE (data.take d)).length+k:=by simp;omega
    by_cases hkl:k<D.cons.length
    ·have hkI:(k:Int)<D.cons.length:=by omega
     have hca:=zua hkl;have hcbad:¬RConW data d D.vars D.cons[k]→∀J,Out H.length K (.bool false) (H++J):=λh=>hbad λhh=>h (hh.cons _ (List.getElem_mem hkl));have hns:zaE (data.take d)++(D.cons.map Con.name).take (k+1)=(zaE (data.take d)++(D.cons.map Con.name).take k)++[(D.cons[k]).name]:=by rw[zkN (by simpa using hkl)];simp
     obtain⟨ka,kan⟩:=kcc _ (List.getElem_mem hkl);generalize hC:D.cons[k]=C at *;simp[ziI,hkl,hC,Con.cs];refine zmP _ _ _ ?_;cases hupc:zbO C.name with
     |false=>simp;exact hcbad (λh=>by have:=h.up;rw[hupc]at this;cases this) _
     |true=>
     by_cases ha6:6<C.args.length
     ·have ha6':(6:Int)<C.args.length:=by omega
      simp[hkl,hC,Con.cs,ha6'];exact hcbad (λh=>by have:=h.len;omega) _
     have ha6':¬(6:Int)<C.args.length:=by omega
     simp[hkl,hC,Con.cs,ha6',zjn];generalize hA:zaE (data.take d)++(D.cons.map Con.name).take k=A at *;have hAl:A.length=(zaE (data.take d)).length+k:=hlk;simp[zax,zbc,za2,hAl,hkl,hC,Con.cs];refine⟨by omega,?_⟩;rw[←zkJ,←hns];refine zzp (Inv:=λq t95 H'=>∃i:Nat,i≤C.args.length∧q=C.args.length-i∧t95=.int .i64 i∧(∀x∈C.args.take i,zfb data d D.vars x=true)∧H'=H++[.perm za0 1 (d+1),.perm za0 1 ((zaE (data.take d)).length+k+1),.cells [.str D.name,.int .i64 D.vars,.sl (D.cons.map Con.cs) .none]]) C.args.length ?_ ?_
     ·intro _;exact⟨0,by omega,by omega,rfl,by simp,rfl⟩
     ·rintro q t95 H' ⟨i,hi,rfl,rfl,hok3,rfl⟩ hsc2 hlen2 hsF2 Kb2 hKb2;by_cases hil:i<C.args.length
      ·have hxn:=kan _ (List.getElem_mem hil);have habad:zfb data d D.vars C.args[i]=false→∀ J,Out H.length K (.bool false) (H++J):=λh=>hcbad λhh=>by have:=hh.args _ (List.getElem_mem hil);rw[h]at this;cases this
       obtain⟨x,y,z,hvx,hx,hy,hz⟩:=vt3 C.args[i];have good:zfb data d D.vars C.args[i]=true→zg9 (.sl (data.map Dat.cs) .none) (.sl (strs (za8 (data.take (d+1)))) (.own H.length)) (.sl (strs (zaE (data.take d)++(D.cons.map Con.name).take (k+1))) (.own (H.length+1))) (.int .i64 d) (.ptr (H.length+2) 0) (.int .i64 k) (.sl (VT.css C.args) .none) (.int .i64 C.args.length) (.int .i64 i) (H++[.perm za0 1 (d+1),.perm za0 1 ((zaE (data.take d)).length+k+1),.cells [.str D.name,.int .i64 D.vars,.sl (D.cons.map Con.cs) .none],.cells [x,y,z]]) (Out H.length K) Kb Kb1 Kb2:=λhg=>by simp[zg9,zr3];rw[zav (by omega) (by omega)];refine hKb2 _ _ ⟨C.args.length-(i+1),by omega,Back.at (J:=[_]) (H2:=H++[.perm za0 1 (d+1),.perm za0 1 ((zaE (data.take d)).length+k+1),.cells [.str D.name,.int .i64 D.vars,.sl (D.cons.map Con.cs) .none]]) (by simp;rfl) (by simp) hsc2 ?_ ⟨_,rfl,i+1,by omega,rfl,by simp,zjM hil hok3 hg,rfl⟩⟩;simp[ziL,AV.sc,AV.scV,AV.scA,AV.scB]
       simp[ziJ,hil,hvx,hx,hy,hz];rw[←hvx];refine zBu _ _ _ hxn _ _ ?_;cases hself:zbT d D.vars C.args[i] with
       |true=>rw[hvx];simp;exact good (by simp[zfb,hself])
       |false=>
        simp[hvx];refine⟨⟨by omega,λa _=>rfl⟩,?_⟩;rw[←List.map_take,←hvx];refine zaV (.bool (zeK (data.take d) D.vars C.args[i])) (λJ=>zzu (data.take d) (by simp;omega) _ _ hxn _ _ ⟨rfl,rfl⟩) ?_;cases hty:zeK (data.take d) D.vars C.args[i] with
        |false=>simp;exact habad (by simp[zfb,hself,hty]) _
        |true=>rw[hvx];simp;exact good (by simp[zfb,hty])
      ·obtain rfl:i=C.args.length:=by omega
       rw[List.take_length]at *;simp[ziJ];rw[zav (by omega) (by omega)];refine hKb1 _ _ ⟨D.cons.length-(k+1),by omega,Back.here (by simp) hsc2 ?_ ⟨_,_,rfl,k+1,by omega,rfl,by simp,rfl,?_,by simp[Nat.add_assoc]⟩⟩
       ·simp[ziK,AV.sc,AV.scV,AV.scA,AV.scB]
       ·exact zjM hkl hck (by rw[hC];exact⟨hupc,by omega,hok3⟩)
    ·obtain rfl:k=D.cons.length:=by omega
     rw[List.take_length]at *;simp[ziI];rw[zav (by omega) (by omega)];refine hKb _ _ ⟨data.length-(d+1),by omega,Back.at (J:=[_]) (H2:=H++[.perm za0 1 (d+1),.perm za0 1 (zaE (data.take (d+1))).length]) (by rw[hcs];simp;rfl) (by simp) (hsP _ _) ?_ ⟨_,_,_,rfl,d+1,by omega,rfl,by simp,rfl,by rw[hcs];exact congrArg (λl=>AV.sl (strs (zaE (data.take d)++l)) (.own (H.length+1))) (List.take_of_length_le (Nat.le_of_eq (List.length_map _))),λj hj hji=>?_,rfl⟩⟩
     ·simp[ziM,AV.sc,AV.scV,AV.scA,AV.scB]
     ·by_cases hjd:j=d
      ·subst hjd;rw[hD];exact⟨by omega,by omega,by omega,by omega,hup,hck⟩
      ·exact hok j hj (by omega)
  ·obtain rfl:d=data.length:=by omega
   rw[List.take_length]at *;have hdn:(za8 data).length=data.length:=by simp[za8]
   have hcn':=hcn data.length;rw[List.take_length]at hcn';simp[zda];refine zkx _ (by omega) _ _ ?_;cases hr:zb0 (za8 data) with
   |true=>simp;refine hT _ ?_ _;simp;intro h;have:=zkw h.names;rw[hr]at this;cases this
   |false=>simp;refine zkx _ (by omega) _ _ ?_;refine hT _ ?_ _;simp only[zb0,Bool.not_eq_false',decide_eq_true_eq,Bool.not_not]at hr ⊢;exact⟨λh=>⟨by omega,λj hj=>hok j hj hj,hr,h⟩,λh=>h.cons⟩
def zBw(c:Con):Prop:=True∧c.args.length≤8∧∀t∈c.args,t.nodes≤1000000
def zBx(d:Dat):Prop:=True∧d.cons.length≤10∧∀c∈d.cons,zBw c
def znB(ds:List Dat):Prop:=ds.length≤14∧∀d∈ds,zBx d
theorem zMd(data:List Dat)(hkd:znB data)(H:zaa)(K:AV→zaa→Prop)(hK:∀b,(b=true↔RData data)→K (.bool b) H):ACalls tP zj4 [.sl (data.map Dat.cs) .none] H K:=by
 refine ACalls.out (zzt λhs=>?_);obtain⟨kl,kd⟩:=hkd;have hF:¬RData data→∀J,Out H.length K (.bool false) (H++J):=λh J=>Out.bool rfl (Nat.le_refl _) hs (hK _ (by simp[h]));have hT:∀b:Bool,(b=true↔RData data)→∀J,Out H.length K (.bool b) (H++J):=λb h J=>Out.bool rfl (Nat.le_refl _) hs (hK _ h);by_cases h12:data.length>12
 ·have h12':(12:Int)<data.length:=by omega
  simp[ziH,h12'];have:=hF (λh=>by have:=h.len;omega) [];simpa using this
 have h12':¬(12:Int)<data.length:=by omega
 simp[ziH,h12'];unfold zha;refine ALoop.own 3 za0 1 rfl ?_;refine ALoop.own 4 za0 1 rfl ?_;rw[List.append_assoc];have hcn:∀d,(zaE (data.take d)).length≤140:=λd=>by have:=znY (data.take d) (λD hD=>(kd D (List.mem_of_mem_take hD)).2.1);rw[List.length_take]at this;have:min d data.length*10≤14*10:=Nat.mul_le_mul_right _ (by omega);omega
 have hl1:(H++[AB.perm za0 1 0]).length=H.length+1:=by simp
 rw[hl1];show zha (.sl (data.map Dat.cs) .none) (.sl [] (.own H.length)) (.sl [] (.own (H.length+1))) (.int .i64 0) (H++[.perm za0 1 0,.perm za0 1 0]) (Out H.length K);have hsP:∀m n,HSc (H++[.perm za0 1 m,.perm za0 1 n]):=λm n=>hs.append rfl;refine zzq (Inv:=λq t3 t4 t5 H'=>∃d:Nat,d≤data.length∧q=data.length-d∧t5=.int .i64 d∧t3=.sl (strs (za8 (data.take d))) (.own H.length)∧t4=.sl (strs (zaE (data.take d))) (.own (H.length+1))∧(∀j (h:j<data.length),j<d→RDat data j data[j])∧H'=H++[.perm za0 1 d,.perm za0 1 (zaE (data.take d)).length]) data.length ?_ ?_
 ·intro _;exact⟨0,by omega,by omega,rfl,by simp[za8,strs],by simp[zaE,strs],by omega,by simp[zaE]⟩
 ·rintro q t3 t4 t5 H' ⟨d,hd,rfl,rfl,rfl,rfl,hok,rfl⟩ hsc hlen hsF Kb hKb;by_cases hlt:d<data.length
  ·have hbad:¬ RDat data d data[d]→∀ J,Out H.length K (.bool false) (H++J):=λh=>hF λhh=>h (hh.dats d hlt);have hcd:=hcn d;have hds:=zuk hlt;have hcs:=zt9 hlt;obtain⟨kn,kc,kcc⟩:=kd _ (List.getElem_mem hlt);have hdl:(za8 (data.take d)).length=d:=by simp[za8];omega
   generalize hD:data[d]=D at *;have hge:(data.map Dat.cs)[d]?.getD []=[.str D.name,.int .i64 D.vars,.sl (D.cons.map Con.cs) .none]:=by simp[hlt,hD,Dat.cs]
   by_cases hv0:D.vars<0
   ·simp[zda,hlt,hD,Dat.cs,hv0];exact hbad (λh=>by have:=h.v0;omega) _
   by_cases hv6:6<D.vars
   ·simp[zda,hlt,hD,Dat.cs,hv0,hv6];exact hbad (λh=>by have:=h.v6;omega) _
   by_cases hc1:D.cons.length<1
   ·have hc1':(D.cons.length:Int)<1:=by omega
    simp[zda,hlt,hD,Dat.cs,hv0,hv6,hc1'];exact hbad (λh=>by have:=h.c1;omega) _
   have hc1':¬(D.cons.length:Int)<1:=by omega
   by_cases hc8:8<D.cons.length
   ·have hc8':(8:Int)<D.cons.length:=by omega
    simp[zda,hlt,hD,Dat.cs,hv0,hv6,hc1',hc8'];exact hbad (λh=>by have:=h.c8;omega) _
   have hc8':¬(8:Int)<D.cons.length:=by omega
   simp[zda,hlt,hD,Dat.cs,hv0,hv6,hc1',hc8'];refine zmP _ _ _ ?_;cases hup:zbO D.name with
   |false=>simp;exact hbad (λh=>by have:=h.up;rw[hup]at this;cases this) _
   |true=>
   simp[zjn];simp[zax,zbc,za2,hdl];refine⟨by omega,?_⟩;rw[←zkJ,←hds];refine zzo (Inv:=λq t4 t7 H'=>∃k:Nat,k≤D.cons.length∧q=D.cons.length-k∧t7=.int .i64 k∧t4=.sl (strs (zaE (data.take d)++(D.cons.map Con.name).take k)) (.own (H.length+1))∧(∀c∈D.cons.take k,RCon data d D.vars c)∧H'=H++[.perm za0 1 (d+1),.perm za0 1 ((zaE (data.take d)).length+k),.cells [.str D.name,.int .i64 D.vars,.sl (D.cons.map Con.cs) .none]]) D.cons.length ?_ ?_
   ·intro _;exact⟨0,by omega,by omega,rfl,by simp,by simp,by simp⟩
   ·rintro q t4 t7 H' ⟨k,hk,rfl,rfl,rfl,hck,rfl⟩ hsc1 hlen1 hsF1 Kb1 hKb1;have hlk:(zaE (data.take d)++(D.cons.map Con.name).take k).length=(zaE (data.take d)).length+k:=by simp;omega
    by_cases hkl:k<D.cons.length
    ·have hkI:(k:Int)<D.cons.length:=by omega
     have hca:=zua hkl;have hcbad:¬RCon data d D.vars D.cons[k]→∀J,Out H.length K (.bool false) (H++J):=λh=>hbad λhh=>h (hh.cons _ (List.getElem_mem hkl));have hns:zaE (data.take d)++(D.cons.map Con.name).take (k+1)=(zaE (data.take d)++(D.cons.map Con.name).take k)++[(D.cons[k]).name]:=by rw[zkN (by simpa using hkl)];simp
     obtain⟨_,ka,kan⟩:=kcc _ (List.getElem_mem hkl);generalize hC:D.cons[k]=C at *;simp[ziI,hkl,hC,Con.cs];refine zmP _ _ _ ?_;cases hupc:zbO C.name with
     |false=>simp;exact hcbad (λh=>by have:=h.up;rw[hupc]at this;cases this) _
     |true=>
     by_cases ha6:6<C.args.length
     ·have ha6':(6:Int)<C.args.length:=by omega
      simp[hkl,hC,Con.cs,ha6'];exact hcbad (λh=>by have:=h.len;omega) _
     have ha6':¬(6:Int)<C.args.length:=by omega
     simp[hkl,hC,Con.cs,ha6',zjn];generalize hA:zaE (data.take d)++(D.cons.map Con.name).take k=A at *;have hAl:A.length=(zaE (data.take d)).length+k:=hlk;simp[zax,zbc,za2,hAl,hkl,hC,Con.cs];refine⟨by omega,?_⟩;rw[←zkJ,←hns];refine zzp (Inv:=λq t95 H'=>∃i:Nat,i≤C.args.length∧q=C.args.length-i∧t95=.int .i64 i∧(∀x∈C.args.take i,zeD data d D.vars x=true)∧H'=H++[.perm za0 1 (d+1),.perm za0 1 ((zaE (data.take d)).length+k+1),.cells [.str D.name,.int .i64 D.vars,.sl (D.cons.map Con.cs) .none]]) C.args.length ?_ ?_
     ·intro _;exact⟨0,by omega,by omega,rfl,by simp,rfl⟩
     ·rintro q t95 H' ⟨i,hi,rfl,rfl,hok3,rfl⟩ hsc2 hlen2 hsF2 Kb2 hKb2;by_cases hil:i<C.args.length
      ·have hxn:=kan _ (List.getElem_mem hil);have habad:zeD data d D.vars C.args[i]=false→∀ J,Out H.length K (.bool false) (H++J):=λh=>hcbad λhh=>by have:=hh.args _ (List.getElem_mem hil);rw[h]at this;cases this
       obtain⟨x,y,z,hvx,hx,hy,hz⟩:=vt3 C.args[i];have good:zeD data d D.vars C.args[i]=true→zg9 (.sl (data.map Dat.cs) .none) (.sl (strs (za8 (data.take (d+1)))) (.own H.length)) (.sl (strs (zaE (data.take d)++(D.cons.map Con.name).take (k+1))) (.own (H.length+1))) (.int .i64 d) (.ptr (H.length+2) 0) (.int .i64 k) (.sl (VT.css C.args) .none) (.int .i64 C.args.length) (.int .i64 i) (H++[.perm za0 1 (d+1),.perm za0 1 ((zaE (data.take d)).length+k+1),.cells [.str D.name,.int .i64 D.vars,.sl (D.cons.map Con.cs) .none],.cells [x,y,z]]) (Out H.length K) Kb Kb1 Kb2:=λhg=>by simp[zg9,zr3];rw[zav (by omega) (by omega)];refine hKb2 _ _ ⟨C.args.length-(i+1),by omega,Back.at (J:=[_]) (H2:=H++[.perm za0 1 (d+1),.perm za0 1 ((zaE (data.take d)).length+k+1),.cells [.str D.name,.int .i64 D.vars,.sl (D.cons.map Con.cs) .none]]) (by simp;rfl) (by simp) hsc2 ?_ ⟨_,rfl,i+1,by omega,rfl,by simp,zjM hil hok3 hg,rfl⟩⟩;simp[ziL,AV.sc,AV.scV,AV.scA,AV.scB]
       simp[ziJ,hil,hvx,hx,hy,hz];rw[←hvx];refine zBv _ _ _ (by omega) _ _ ?_;cases hself:zbT d D.vars C.args[i] with
       |true=>rw[hvx];simp;exact good (by simp[zeD,hself])
       |false=>
        simp[hvx];refine⟨⟨by omega,λa _=>rfl⟩,?_⟩;rw[←List.map_take,←hvx];refine zaV (.bool (zaA (data.take d) D.vars C.args[i])) (λJ=>zzw (data.take d) (by simp;omega) _ _ (by omega) _ _ ⟨rfl,rfl⟩) ?_;cases hty:zaA (data.take d) D.vars C.args[i] with
        |false=>simp;exact habad (by simp[zeD,hself,hty]) _
        |true=>rw[hvx];simp;exact good (by simp[zeD,hty])
      ·obtain rfl:i=C.args.length:=by omega
       rw[List.take_length]at *;simp[ziJ];rw[zav (by omega) (by omega)];refine hKb1 _ _ ⟨D.cons.length-(k+1),by omega,Back.here (by simp) hsc2 ?_ ⟨_,_,rfl,k+1,by omega,rfl,by simp,rfl,?_,by simp[Nat.add_assoc]⟩⟩
       ·simp[ziK,AV.sc,AV.scV,AV.scA,AV.scB]
       ·exact zjM hkl hck (by rw[hC];exact⟨hupc,by omega,hok3⟩)
    ·obtain rfl:k=D.cons.length:=by omega
     rw[List.take_length]at *;simp[ziI];rw[zav (by omega) (by omega)];refine hKb _ _ ⟨data.length-(d+1),by omega,Back.at (J:=[_]) (H2:=H++[.perm za0 1 (d+1),.perm za0 1 (zaE (data.take (d+1))).length]) (by rw[hcs];simp;rfl) (by simp) (hsP _ _) ?_ ⟨_,_,_,rfl,d+1,by omega,rfl,by simp,rfl,by rw[hcs];exact congrArg (λl=>AV.sl (strs (zaE (data.take d)++l)) (.own (H.length+1))) (List.take_of_length_le (Nat.le_of_eq (List.length_map _))),λj hj hji=>?_,rfl⟩⟩
     ·simp[ziM,AV.sc,AV.scV,AV.scA,AV.scB]
     ·by_cases hjd:j=d
      ·subst hjd;rw[hD];exact⟨by omega,by omega,by omega,by omega,hup,hck⟩
      ·exact hok j hj (by omega)
  ·obtain rfl:d=data.length:=by omega
   rw[List.take_length]at *;have hdn:(za8 data).length=data.length:=by simp[za8]
   have hcn':=hcn data.length;rw[List.take_length]at hcn';simp[zda];refine zkx _ (by omega) _ _ ?_;cases hr:zb0 (za8 data) with
   |true=>simp;refine hT _ ?_ _;simp;intro h;have:=zkw h.names;rw[hr]at this;cases this
   |false=>simp;refine zkx _ (by omega) _ _ ?_;refine hT _ ?_ _;simp only[zb0,Bool.not_eq_false',decide_eq_true_eq,Bool.not_not]at hr ⊢;exact⟨λh=>⟨by omega,λj hj=>hok j hj hj,hr,h⟩,λh=>h.cons⟩
mutual
def zcE(S:Nat→Prop):VT→Prop
 |.mk k n ks=>k≠9∧(k=5→S n.toNat)∧zbV S ks
def zbV(S:Nat→Prop):List VT→Prop
 |[]=>True
 |v::vs=>zcE S v∧zbV S vs
end
theorem zgH{S:Nat→Prop}:∀ {l:List VT},zbV S l→∀ x∈l,zcE S x
 |[],_,x,hx=>by simp at hx
 |v::vs,h,x,hx=>by
  rw[zbV]at h;rcases List.mem_cons.1 hx with e|hx
  ·rw[e];exact h.1
  ·exact zgH h.2 x hx
mutual
theorem zvG{S S':Nat→Prop}(h:∀ d,S d→S' d):∀ v:VT,zcE S v→zcE S' v
 |.mk k n ks,hv=>by rw[zcE]at hv ⊢;exact⟨hv.1,λe=>h _ (hv.2.1 e),zkm h ks hv.2.2⟩
theorem zkm{S S':Nat→Prop}(h:∀ d,S d→S' d):∀ l:List VT,zbV S l→zbV S' l
 |[],_=>by rw[zbV];trivial
 |v::vs,hv=>by rw[zbV]at hv ⊢;exact⟨zvG h v hv.1,zkm h vs hv.2⟩
end
def ztn(data:List Dat)(S:Nat→Prop):Prop:=∀d:Nat,S d→∀c∈zbv data (d:Int),zbV S c.args
mutual
theorem zvH{S:Nat→Prop}{ks:List VT}(hk:zbV S ks):∀ a:VT,zcE S a→zcE S (subst ks a)
 |.mk k n al,h=>by
  unfold subst;split
  ·rename_i h4;cases hg:ks[n.toNat]? with
   |none=>exact absurd (List.getElem?_eq_none_iff.1 hg) (by omega)
   |some x=>exact zgH hk _ (List.mem_of_getElem? hg)
  ·rw[zcE]at h ⊢;exact⟨h.1,h.2.1,zvF hk al h.2.2⟩
theorem zvF{S:Nat→Prop}{ks:List VT}(hk:zbV S ks):∀ l:List VT,zbV S l→zbV S (zaH ks l)
 |[],_=>by rw[zaH,zbV];trivial
 |a::l,h=>by rw[zbV]at h;rw[zaH,zbV];exact⟨zvH hk a h.1,zvF hk l h.2⟩
end
mutual
def zcB(xs:List Int):VT→Bool
 |.mk k n ks=>if k=3 then xs.contains n else zey xs ks
def zey(xs:List Int):List VT→Bool
 |[]=>true
 |v::vs=>zcB xs v && zey xs vs
end
theorem zvh{data:List Dat}{g:VT→Nat→List VT}:∀ (vs ts:List VT),zbD data vs ts=true→(∀ (i:Nat) (h1:i<vs.length) (h2:i<ts.length),vs[i]∈g ts[i] (vs[i]).nodes)→vs∈lsL g ts (VT.nodesL vs)
 |[],ts,h,_=>by
  rw[zbD]at h;cases ts with
  |nil=>simp[lsL,VT.nodesL]
  |cons t ts=>simp at h
 |v::vs,[],h,_=>by simp[zbD]at h
 |v::vs,t::ts,h,hm=>by
  rw[zbD,Bool.and_eq_true]at h;have h0:=hm 0 (by simp) (by simp);have ih:=zvh vs ts h.2 λi h1 h2=>hm (i+1) (by simp;omega) (by simp;omega);have hp:=v.nodes_pos;refine lsL_cons.2 ⟨v.nodes-1,?_,v,?_,vs,?_,rfl⟩
  ·rw[VT.nodesL];omega
  ·have e:v.nodes-1+1=v.nodes:=by omega
   rw[e];exact h0
  ·have e:VT.nodesL (v::vs)-(v.nodes-1+1)=VT.nodesL vs:=by rw[VT.nodesL];omega
   rw[e];exact ih
theorem ztM{g:Nat→List VT}:∀ (vs:List VT),(∀ v∈vs,v∈g v.nodes)→vs∈arL g (VT.nodesL vs)
 |[],_=>by simp[VT.nodesL,znP]
 |v::vs,hm=>by
  have hp:=v.nodes_pos;have ih:=ztM vs λx hx=>hm x (by simp[hx]);have h0:=hm v (by simp);obtain⟨N,hN⟩:∃N,VT.nodesL (v::vs)=N+1:=⟨VT.nodesL (v::vs)-1,by rw[VT.nodesL];omega⟩;rw[hN];have hN':N+1=v.nodes+VT.nodesL vs:=by rw[←hN,VT.nodesL]
  refine arL_iff.2 ⟨v.nodes-1,by omega,v,?_,vs,?_,rfl⟩
  ·have e:v.nodes-1+1=v.nodes:=by omega
   rw[e];exact h0
  ·have e:N+1-(v.nodes-1+1)=VT.nodesL vs:=by omega
   rw[e];exact ih
theorem zpv{xs:List Int}:∀ {l:List VT},zey xs l=true→∀ v∈l,zcB xs v=true
 |[],_,v,hv=>by simp at hv
 |a::l,h,v,hv=>by
  rw[zey,Bool.and_eq_true]at h;rcases List.mem_cons.1 hv with e|hv
  ·rw[e];exact h.1
  ·exact zpv h.2 v hv
theorem zGB{data:List Dat}(hD:zaD data=true){xs:List Int}{S:Nat→Prop}(hC:ztn data S):∀(m:Nat) (v t:VT),v.nodes≤m→zaA data 0 t=true→zcE S t→zat data v t=true→zcB xs v=true→v∈vV data xs t v.nodes:=by
 intro m;induction m with
 |zero=>intro v t h;have:=v.nodes_pos;omega
 |succ m ih=>
  intro v t hm htv hn hh ho;obtain⟨vk,vn,vks⟩:=v;obtain⟨k,n,al⟩:=t;have hkids:∀x∈vks,x.nodes≤m:=λx hx=>by obtain⟨i,hi,rfl⟩:=List.mem_iff_getElem.1 hx;have:=VT.kid_lt (k:=vk) (n:=vn) hi;omega
  have hnn:(VT.mk vk vn vks).nodes=VT.nodesL vks+1:=by simp[VT.nodes]
  have hto:=(by simpa[zaA]using htv:(VT.mk k n al).nodes≤200∧zaz data 0 (.mk k n al)=true).2;rw[hnn,zgW];have hkd:(VT.mk k n al).kind=k:=rfl;rw[hkd];rw[zcE]at hn;have fin:∀ (w:Int) (ts:List VT) (kk:Int),(∀ x∈ts,zaA data 0 x=true)→(∀ x∈ts,zcE S x)→zbD data vks ts=true→vk≠3→vn=w→vk=kk →
    VT.mk vk vn vks∈(lsL (vV data xs) ts (VT.nodesL vks)).map λks=>.mk kk w ks:=λw ts kk h1 h2 h3 h4 h5 h6=>by
   subst h5 h6;refine List.mem_map.2 ⟨vks,zvh vks ts h3 λi hi1 hi2=>?_,rfl⟩;rw[zcB,if_neg h4]at ho;exact ih vks[i] ts[i] (hkids _ (List.getElem_mem hi1)) (h1 _ (List.getElem_mem hi2)) (h2 _ (List.getElem_mem hi2)) (zuM h3 i hi1 hi2) (zpv ho _ (List.getElem_mem hi1))
  rcases zkU hto with ⟨rfl,rfl⟩|⟨rfl,rfl⟩|⟨rfl,rfl⟩|rfl|⟨rfl,hk⟩|⟨rfl,hk⟩|⟨rfl,hk⟩|⟨rfl,hk⟩
  ·simp[zat]at hh;obtain⟨⟨⟨rfl,_⟩,_⟩,rfl⟩:=hh;simp[zcB]at ho;simp[VT.nodesL];exact ho
  ·simp[zat]at hh;obtain⟨⟨rfl,h|h⟩,rfl⟩:=hh <;> subst h <;> simp[VT.nodesL]
  ·simp[zat]at hh;obtain⟨⟨rfl,rfl⟩,rfl⟩:=hh;simp[VT.nodesL]
  ·simp[zat]at hh;obtain⟨⟨⟨rfl,h0⟩,h8⟩,hl⟩:=hh;cases hf:zbq data (.mk 5 n al) vn with
   |none=>rw[hf,zoh]at hl;cases hl
   |some ts=>
    rw[hf,zoi]at hl;have hfv:=zjB hD (zdN htv) hf;obtain⟨_,hn0,hc0,hnl,hcl,_,hts,_⟩:=zjA hf;have hcd:zbv data n=(data[n.toNat]).cons:=by unfold zbv;rw[List.getD_eq_getElem?_getD,List.getElem?_eq_getElem hnl];rfl
    have hSn:=hC n.toNat (hn.2.1 rfl);have hnat:((n.toNat:Nat):Int)=n:=by omega
    rw[hnat,hcd]at hSn;have hNt:∀x∈ts,zcE S x:=λx hx=>by rw[hts]at hx;obtain⟨a,ha,rfl⟩:=List.mem_map.1 hx;exact zvH hn.2.2 a (zgH (hSn _ (List.getElem_mem hcl)) a ha)
    rw[if_neg (by omega),if_neg (by omega),if_neg (by omega),if_neg (by omega)];refine List.mem_flatMap.2 ⟨(vn,ts),?_,fin vn ts _ hfv hNt hl (by omega) rfl rfl⟩;rw[zaU,if_neg (by omega),if_pos rfl];have hvn:((vn.toNat:Nat):Int)=vn:=by omega
    refine List.mem_filterMap.2 ⟨vn.toNat,List.mem_range.2 (by rw[hcd];exact hcl),?_⟩;rw[hvn,hf];rfl
  ·simp[zat]at hh;obtain⟨⟨rfl,rfl⟩,hl⟩:=hh;rw[if_neg (by omega),if_neg (by omega),if_neg (by omega),if_neg (by omega)];refine List.mem_flatMap.2 ⟨(0,al),?_,fin 0 al _ (zed htv) (zgH hn.2.2) hl (by omega) rfl rfl⟩;rw[zaU,if_pos (.inl rfl)];simp
  ·simp[zat]at hh;obtain⟨⟨⟨rfl,rfl⟩,_⟩,hl⟩:=hh;rw[if_neg (by omega),if_neg (by omega),if_neg (by omega),if_pos rfl];have ha:zcn (.mk 7 n al)=al.getD 0 (.mk 0 0 []):=rfl;have hmem:al.getD 0 (.mk 0 0 [])∈al:=by rw[List.getD_eq_getElem?_getD,List.getElem?_eq_getElem (show 0<al.length by omega)];exact List.getElem_mem _
   rw[zcB,if_neg (by omega)]at ho;refine List.mem_map.2 ⟨vks,ztM vks λv hv=>?_,rfl⟩;rw[ha];exact ih v _ (hkids v hv) (zed htv _ hmem) (zgH hn.2.2 _ hmem) (zuK (by simpa[List.getD_eq_getElem?_getD]using hl) v hv) (zpv ho v hv)
  ·simp[zat]at hh;obtain⟨⟨rfl,rfl⟩,hl⟩:=hh;rw[if_neg (by omega),if_neg (by omega),if_neg (by omega),if_neg (by omega)];refine List.mem_flatMap.2 ⟨(0,al),?_,fin 0 al _ (zed htv) (zgH hn.2.2) hl (by omega) rfl rfl⟩;rw[zaU,if_pos (.inr rfl)];simp
  ·exact absurd rfl hn.1
def inS(s:List Bool)(d:Nat):Prop:=s.getD d false=true
structure Good (data:List Dat) (s s':List Bool):Prop where
 len:s'.length=s.length
 mono:∀d,inS s d→inS s' d
 new:∀d:Nat,inS s' d→¬inS s d→∀c∈zbv data (d:Int),zbV (inS s') c.args
theorem Good.refl(data:List Dat)(s:List Bool):Good data s s:=⟨rfl,λ_ h=>h,λd h h'=>absurd h h'⟩
theorem Good.trans{data:List Dat}{s s1 s2:List Bool}(h:Good data s s1)(h':Good data s1 s2):Good data s s2:=
 ⟨h'.len.trans h.len,λd hd=>h'.mono d (h.mono d hd),λd hd hn c hc=>by
  by_cases h1:inS s1 d
  ·exact zkm h'.mono _ (h.new d h1 hn c hc)
  ·exact h'.new d hd h1 c hc⟩
theorem zfG{s:List Bool}{i:Nat}(hi:i<s.length)(d:Nat):inS (s.set i true) d↔d=i∨inS s d:=by
 unfold inS;rw[List.getD_eq_getElem?_getD,List.getD_eq_getElem?_getD,List.getElem?_set];by_cases e:i=d
 ·subst e;simp[hi]
 ·simp[e,Ne.symm e]
def FoS(data:List Dat)(g:VT→List Bool→Bool×List Bool):Prop:=∀t s,TyIn data t→s.length=data.length→(g t s).1=true→Good data s (g t s).2∧zcE (inS (g t s).2) t
theorem zod{data:List Dat}{g:VT→List Bool→Bool × List Bool}(hg:FoS data g):∀ (ts:List VT) (s:List Bool),(∀ x∈ts,TyIn data x)→s.length=data.length→(foL g ts s).1=true→Good data s (foL g ts s).2∧zbV (inS (foL g ts s).2) ts
 |[],s,_,_,_=>⟨Good.refl data s,by rw[zbV];trivial⟩
 |t::ts,s,ht,hl,h=>by
  rw[foL]at h ⊢;split at h
  ·rename_i h1;rw[if_pos h1];obtain⟨k1,k2⟩:=hg t s (ht t (by simp)) hl h1;obtain⟨k3,k4⟩:=zod hg ts (g t s).2 (λx hx=>ht x (by simp[hx])) (k1.len.trans hl) h;exact⟨k1.trans k3,by rw[zbV];exact⟨zvG k3.mono t k2,k4⟩⟩
  ·cases h
theorem zuz{data:List Dat}{g:VT→List Bool→Bool × List Bool}(hg:FoS data g):∀ (cs:List Con) (s:List Bool),(∀ c∈cs,∀ x∈c.args,TyIn data x)→s.length=data.length→(foC g cs s).1=true→Good data s (foC g cs s).2∧∀ c∈cs,zbV (inS (foC g cs s).2) c.args
 |[],s,_,_,_=>⟨Good.refl data s,by simp⟩
 |c::cs,s,ht,hl,h=>by
  rw[foC]at h ⊢;split at h
  ·rename_i h1;rw[if_pos h1];obtain⟨k1,k2⟩:=zod hg c.args s (ht c (by simp)) hl h1;obtain⟨k3,k4⟩:=zuz hg cs (foL g c.args s).2 (λx hx=>ht x (by simp[hx])) (k1.len.trans hl) h;refine⟨k1.trans k3,λx hx=>?_⟩;rcases List.mem_cons.1 hx with e | hx
   ·rw[e];exact zkm k3.mono _ k2
   ·exact k4 x hx
  ·cases h
theorem zuB{data:List Dat}(hD:zaD data=true):∀ f,FoS data (fo data f)
 |0,t,s,_,_,h=>by rw[fo]at h;cases h
 |f+1,.mk k n ks,s,ht,hl,h=>by
  have hg:=zuB hD f;rw[fo]at h ⊢;split at h
  ·cases h
  ·rename_i h9;rw[if_neg h9];split at h
   ·rename_i h1;rw[if_pos h1];have hD1:Good data s (foD (fo data f) data k n s).2∧(k=5→inS (foD (fo data f) data k n s).2 n.toNat):=by
     unfold foD at h1 ⊢;split at h1
     ·rename_i h5;rw[if_pos h5];obtain⟨rfl,h0⟩:=h5;obtain⟨hn0,hnl⟩:=ht.num;have hcd:zbv data n=(data[n.toNat]).cons:=by unfold zbv;rw[List.getD_eq_getElem?_getD,List.getElem?_eq_getElem hnl];rfl
      have hsl:n.toNat<s.length:=by omega
      obtain⟨k1,k2⟩:=zuz hg (zbv data n) (s.set n.toNat true) (λc hc x hx=>by
       rw[hcd]at hc;exact(zhq hD hnl c hc).2 x hx) (by simpa using hl) h1
      refine⟨⟨by rw[k1.len];simp,λd hd=>k1.mono d ((zfG hsl d).2 (.inr hd)),λd hd hn c hc=>?_⟩,λ_=>k1.mono _ ((zfG hsl _).2 (.inl rfl))⟩;by_cases e:d=n.toNat
      ·subst e;have:((n.toNat:Nat):Int)=n:=by omega
       rw[this]at hc;exact k2 c hc
      ·exact k1.new d hd (λh=>((zfG hsl d).1 h).elim e hn) c hc
     ·rename_i h5;rw[if_neg h5];refine⟨Good.refl data s,λe=>?_⟩;subst e;unfold inS;cases hb:s.getD n.toNat false with
      |true=>rfl
      |false=>exact absurd ⟨rfl,hb⟩ h5
    obtain⟨k3,k4⟩:=zod hg ks _ (λx hx=>(ht.kid x hx).1) (hD1.1.len.trans hl) h;refine⟨hD1.1.trans k3,?_⟩;rw[zcE];exact⟨h9,λe=>k3.mono _ (hD1.2 e),k4⟩
   ·cases h
theorem zC8{data:List Dat}{t:VT}(h:zce data t=true):∃S:Nat→Prop,ztn data S∧zcE S t:=by unfold zce at h;rw[Bool.and_eq_true]at h;have hf:=zhw h.1;obtain⟨k1,k2⟩:=zuB hf.1 3000 t (List.replicate data.length false) (zut h.1) (by simp) h.2;refine⟨_,λd hd c hc=>k1.new d hd ?_ c hc,k2⟩;unfold inS;simp[List.getD_eq_getElem?_getD,List.getElem?_replicate];split <;> simp
theorem zC7{data:List Dat}{t v:VT}{xs:List Int}(h:zce data t=true)(hh:zat data v t=true)(ho:zcB xs v=true):v∈vV data xs t v.nodes:=by obtain⟨S,h1,h2⟩:=zC8 h;obtain⟨h3,h4⟩:=zhw (by unfold zce at h;rw[Bool.and_eq_true]at h;exact h.1);exact zGB h3 h1 _ v t (Nat.le_refl _) h4 h2 hh ho
def ze3(data:List Dat)(v t:VT):Bool:=zhD data v t && decide (v.nodes≤5000)
theorem zP6(data:List Dat)(hk:znB data)(v t:VT)(ht:t.nodes≤1000000)(H:zaa)(K:Kt)(hK:K (.bool (ze3 data v t)) H):
  ACalls tP zkg [.sl (data.map Dat.cs) .none,.agg v.cs,.agg t.cs] H K:=by
 refine ACalls.out (zBb λhs=>?_);have hO:∀b J,ze3 data v t=b→Out H.length K (.bool b) (H++J):=λb J h=>Out.bool rfl (Nat.le_refl _) hs (h ▸ hK);obtain⟨x,y,z,hvx,hx,hy,hz⟩:=zaL v;obtain⟨x2,y2,z2,hvx2,hx2,hy2,hz2⟩:=zaL t;have hkl:=hk.1;simp[zq8,hvx,hvx2,Nat.add_assoc];refine zMd data hk _ _ λb hb=>?_;have hbd:b=zaD data:=by rw[Bool.eq_iff_iff,hb,zCV]
 subst hbd;cases hd:zaD data with
 |false=>simp;exact hO _ _ (by simp[ze3,zhD,zdm,hd])
 |true=>
  simp[Nat.add_assoc];rw[←hvx2];refine zzw data (by omega) 0 t (by omega) _ _ ?_;cases hf:zaA data 0 t with
  |false=>simp;exact hO _ _ (by simp[ze3,zhD,zdm,hf])
  |true=>
   simp[Nat.add_assoc];rw[←hvx];refine zzz _ v (Nat.le_refl _) 5000 (by omega) (by omega) _ (H.length+2) (by simp) _ (λhle=>?_) (λh=>?_)
   ·simp[Nat.add_assoc];have hle':v.nodes≤5000:=by omega
    refine zMu ⟨hd⟩ _ v (Nat.le_refl _) (by omega) t hf _ _ ?_;exact hO _ _ (by simp[ze3,zhD,zdm,hd,hf,hle'])
   ·intro l';simp;have hle':¬ v.nodes≤5000:=by omega
    exact hO _ _ (by simp[ze3,hle'])
theorem zCI(xs:List Int)(n:Int)(i:Nat)(h:i<xs.length):(xs.take (i+1)).contains n=((xs.take i).contains n || xs[i] == n):=by rw[List.take_succ_eq_append_getElem h,List.contains_eq_any_beq,List.contains_eq_any_beq,List.any_append];simp[Bool.beq_comm]
theorem zEH{xs:List Int}{l:List VT}{i:Nat}(h:i<l.length):zey xs (l.drop i)=(zcB xs l[i] && zey xs (l.drop (i+1))):=by rw[List.drop_eq_getElem_cons h,zey]
theorem zBo(xs:List Int)(hxl:xs.length≤1000000):∀(m:Nat) (v:VT),v.nodes≤m→v.nodes≤1000000→∀(H:zaa) (K:Kt),K (.bool (zcB xs v)) H→ACalls tP zkk [.agg v.cs,.sl (ints xs) .none] H K:=by
 intro m;induction m with
 |zero=>intro v h;have:=v.nodes_pos;omega
 |succ m ih=>
  intro v hm hb H K hK;obtain⟨k,n,ks⟩:=v;have hll:=VT.len_le ks;have hnn:(VT.mk k n ks).nodes=VT.nodesL ks+1:=by simp[VT.nodes]
  refine ACalls.out (zQG λhs=>?_);obtain⟨A,hA⟩:∃A,A=H++[AB.cells [.int .i64 k,.int .i64 n,.sl (VT.css ks) .none]]:=⟨_,rfl⟩;have hAl:A.length=H.length+1:=by rw[hA];simp
  have hAs:HSc A:=by rw[hA];exact hs.snoc (by simp[AB.sc,AV.scA,AV.scB])
  have hg:A[H.length]?=some (.cells [.int .i64 k,.int .i64 n,.sl (VT.css ks) .none]):=by rw[hA];simp
  have hO:∀b J,zcB xs (.mk k n ks)=b→Out H.length K (.bool b) (A++J):=λb J h=>by rw[hA,List.append_assoc];exact Out.bool rfl (Nat.le_refl _) hs (h ▸ hK)
  have hO0:∀b,zcB xs (.mk k n ks)=b→Out H.length K (.bool b) A:=λb h=>by have:=hO b [] h;rwa [List.append_nil]at this
  by_cases h3:k=3
  ·simp[zq9,VT.cs,h3,zdn];subst h3;rw[←hA];rw[zcB,if_pos rfl]at hO0;refine zQD (Inv:=λq t5 t15 H'=>∃i:Nat,i≤xs.length∧xs.length-i=q∧t15=.int .i64 i∧t5=.bool ((xs.take i).contains n)∧H'=A) xs.length ?_ ?_
   ·intro _;exact⟨0,by omega,rfl,rfl,rfl,rfl⟩
   ·rintro q t5 t15 H' ⟨i,hi,rfl,rfl,rfl,rfl⟩ hsc hlen hsF Kb hKb;by_cases hlt:i<xs.length
    ·have g1:=zor hlt;have e1:xs.getD i 0=xs[i]:=by simp[List.getD_eq_getElem?_getD,hlt]
     rw[e1]at g1;have next:Kb (zi9 (.ptr H.length 0) (.bool ((xs.take (i+1)).contains n)) (.sl (ints xs) .none) (.int .i64 xs.length) (.int .i64 (i+1:Nat))) H':=
      hKb _ _ ⟨xs.length-(i+1),by omega,Back.here (Nat.le_refl _) hAs (by simp[zi9,ux,AV.sc,AV.scA,AV.scB,AV.scV,hAl]) ⟨_,_,rfl,i+1,by omega,rfl,rfl,rfl,rfl⟩⟩
     rw[zCI xs n i hlt]at next
     cases hb1:(xs.take i).contains n with
     |true=>
      rw[hb1]at next
      simp[znt,hlt,g1,zdn];rw[wr (by omega)];simpa using next
     |false=>
      rw[hb1]at next
      simp[znt,hlt,g1,zdn,hg];rw[wr (by omega)];simpa using next
    ·obtain rfl:i=xs.length:=by omega
     simp[znt,zdn];exact hO0 _ (by simp)
  ·have b3:(k == 3)=false:=by simpa using h3
   simp[zq9,VT.cs,b3];rw[←hA];rw[zcB,if_neg h3]at hO hO0;refine zQC (Inv:=λq t31 H'=>∃i:Nat,i≤ks.length∧ks.length-i=q∧t31=.int .i64 i∧zey xs (ks.drop i)=zey xs ks∧H'=A) ks.length ?_ ?_
   ·intro _;exact⟨0,by omega,rfl,rfl,rfl,rfl⟩
   ·rintro q t31 H' ⟨i,hi,rfl,rfl,ho,rfl⟩ hsc hlen hsF Kb hKb;by_cases hlt:i<ks.length
    ·obtain⟨x,y,z,hvx,hx,hy,hz⟩:=zaL ks[i];have hkn:=VT.kid_lt (k:=k) (n:=n) hlt;rw[zEH hlt]at ho;simp[ztm,hlt,hvx,hx,hy,hz];rw[←hvx];refine ih ks[i] (by omega) (by omega) _ _ ?_;cases hb1:zcB xs ks[i] with
     |false=>rw[hb1]at ho;simp;exact hO _ _ (by simpa using ho.symm)
     |true=>rw[hb1,Bool.true_and]at ho;simp;rw[wr (by omega)];refine hKb _ _ ⟨ks.length-(i+1),by omega,Back.at (J:=[.cells (ks[i]).cs]) (H2:=H') rfl (by omega) hAs ?_ ⟨_,rfl,i+1,by omega,rfl,rfl,ho,rfl⟩⟩;simp[znu,ux,AV.sc,AV.scA,AV.scB,AV.scV,hAl]
    ·obtain rfl:i=ks.length:=by omega
     rw[List.drop_length]at ho;simp[ztm];exact hO0 _ ho.symm
end Go.Proofs.YtaifokkaaahdoaaGreatDoor
