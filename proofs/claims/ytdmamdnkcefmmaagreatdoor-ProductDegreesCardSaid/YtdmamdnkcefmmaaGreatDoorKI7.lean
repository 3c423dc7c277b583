import Derived.Test.YtdmamdnkcefmmaaGreatDoorKV3
import Derived.Test.YtdmamdnkcefmmaaGreatDoorAbsQ1
import Derived.Lib.AppendStr
import Derived.Lib.UnsafeStr
import Derived.Test.YtdmamdnkcefmmaaGreatDoorVT
import Derived.Sort.Grow
import Derived.Deep.Draws
import Derived.Test.YtdmamdnkcefmmaaGreatDoorKUA
set_option linter.unusedSimpArgs false
set_option linter.unusedVariables false
set_option maxRecDepth 8000
namespace Go.Proofs.YtdmamdnkcefmmaaGreatDoor
open Go Go.Abs
theorem znD (data:List Dat):∀ vs ts:List VT,zcs data vs ts=zcB (zaP data) vs ts
 | [],[]=>by simp[zcs,zcB]
 | [],_::_=>by simp[zcs,zcB]
 | _::_,[]=>by simp[zcs,zcB]
 | v::vs,t::ts=>by simp[zcs,zcB,znD data vs ts]
theorem zGs {data:List Dat} {k n:Int} {ks:List VT} (h:zaY data 0 (.mk k n ks)=true):(k=1∧ks=[])∨(k=2∧ks=[])∨(k=3∧ks=[])∨k=5∨(k=6∧2≤ks.length)∨(k=7∧ks.length=1)∨(k=8∧ks.length=1)∨(k=9∧1≤ks.length):=by
 rw[zaY,Bool.and_eq_true]at h
 have h:=h.1
 unfold zba at h
 by_cases h1:k=1
 ·subst h1;simp at h;simp[h.2]
 by_cases h2:k=2
 ·subst h2;simp at h;simp[h.2]
 by_cases h3:k=3
 ·subst h3;simp at h;simp[h.2]
 by_cases h4:k=4
 ·subst h4;simp at h;omega
 by_cases h5:k=5
 ·subst h5;simp
 by_cases h6:k=6
 ·subst h6;simp at h;simp;omega
 by_cases h7:k=7
 ·subst h7;simp at h;simp;omega
 by_cases h8:k=8
 ·subst h8;simp at h;simp;omega
 by_cases h9:k=9
 ·subst h9;simp at h;simp;omega
 simp[h1,h2,h3,h4,h5,h6,h7,h8,h9]at h
structure DOk (data:List Dat):Prop where
 ok:zbq data=true
 k:zbG data
theorem DOk.small {data:List Dat} (h:DOk data):zgl data:=fun D hD=>by
 obtain⟨_,h2⟩:=h.k
 obtain⟨_,h3,h4⟩:=h2 D hD
 refine⟨by omega,fun c hc=>?_⟩
 obtain⟨_,h5,h6⟩:=h4 c hc
 exact⟨by omega,fun x hx=>by have:=h6 x hx;omega⟩
theorem zeZ {data:List Dat} (h:zbG data):data.length≤1000000∧(∀ d∈data,∀ c∈d.cons,c.args.length≤1000∧∀ x∈c.args,x.nodes≤1000)∧∀ d∈data,d.cons.length≤1000000:=by
 obtain⟨h1,h2⟩:=h
 refine⟨by omega,fun D hD c hc=>?_,fun D hD=>?_⟩
 ·obtain⟨_,h3,h4⟩:=h2 D hD
  obtain⟨_,h5,h6⟩:=h4 c hc
  exact⟨by omega,fun x hx=>by have:=h6 x hx;omega⟩
 ·obtain⟨_,h3,h4⟩:=h2 D hD
  omega
section
variable {data:List Dat} (hD:DOk data)
theorem i0 (n:Nat):((n:Int) == 0)=(n == 0):=by
 rw[Bool.eq_iff_iff];simp
theorem zDe {ks:List VT} (h:0<ks.length):ks.getD 0 (.mk 0 0 [])=ks[0]:=by simp[List.getD_eq_getElem?_getD,h]
theorem zDi {data:List Dat} {t:VT} {vs:List VT} {i:Nat} (h:i<vs.length):zds data (vs.drop i) t=(zaP data vs[i] t && zds data (vs.drop (i+1)) t):=by rw[List.drop_eq_getElem_cons h,zds]
include hD in
end
theorem zvU:∀ (a:List VT) (b:List Bool) (x:VT) (y:Bool),a.length=b.length→pick (a++[x]) (b++[y])=pick a b++(if y then [] else [x])
 | [],[],x,y,_=>by cases y <;> rfl
 | [],_::_,_,_,h=>by cases h
 | _::_,[],_,_,h=>by cases h
 | c::a,d::b,x,y,h=>by
  have:=zvU a b x y (by simpa using h)
  cases d <;> simp[pick,this]
theorem zoX {l:List VT} {bs:List Bool} {i:Nat} (h:l.length=bs.length) (hi:i<l.length):pick (l.take (i+1)) (bs.take (i+1))=pick (l.take i) (bs.take i)++(if bs[i]'(by omega) then [] else [l[i]]):=by
 rw[List.take_succ_eq_append_getElem hi,List.take_succ_eq_append_getElem (by omega:i<bs.length)]
 exact zvU _ _ _ _ (by simp;omega)
theorem zje:∀ (a:List VT) (b:List Bool),(pick a b).length≤a.length
 | [],b=>by simp[pick]
 | _::_,[]=>by simp[pick]
 | c::a,d::b=>by
  have:=zje a b
  cases d <;> simp[pick] <;> omega
theorem zgw {l:List Bool} {i:Nat} (h:i<(zbI l).length):(zbI l)[i]=[.bool (l[i]'(by simpa[zbI]using h))]:=by simp[zbI]
theorem zes (l:List Bool):(zbI l).length=l.length:=by simp[zbI]
theorem zvS {data:List Dat} {k n:Int} {ks:List VT} {c:Int} {l:List VT} (hk:zbG data) (hf:zbe data (.mk k n ks) c=some l) :
  ∃ bs,l.length=bs.length∧l.length≤8∧za6 data (.mk k n ks) c=some (pick l bs)∧(∀ x∈l,x.nodes≤200)∧k=5 ∧
   (∀ H K,K (.sl (zbI bs) .none) H→ACalls tP ze7 [.sl (data.map Dat.cs) .none,.int .i64 n,.int .i64 c] H K) ∧
   (∀ H K,K (.sl (zbI bs) .none) H→ACalls tP zfV [.sl (data.map Dat.cs) .none,.int .i64 n,.int .i64 c] H K):=by
 obtain⟨k5,n0,c0,hn,hc,hv,rfl,h200⟩:=zgF hf
 obtain⟨f1,f2,f3⟩:=zeZ hk
 have hd:=List.getElem_mem hn
 have hcm:=List.getElem_mem hc
 obtain⟨g1,g2⟩:=f2 _ hd _ hcm
 have g3:=f3 _ hd
 have h8:=((hk.2 _ hd).2.2 _ hcm).2.1
 refine⟨zcm n.toNat data[n.toNat] (data[n.toNat]).cons[c.toNat],by simp[zcm],by simpa using h8,?_,h200,k5,fun H K hK=>?_,fun H K hK=>?_⟩
 ·simp[za6,hf,zdw,hn,hc,List.getD_eq_getElem?_getD,VT.num]
 ·have:=zrb data n.toNat c.toNat hn hc f1 g3 (by omega) (fun x hx=>by have:=g2 x hx;omega) H K (by simpa[zbI,zcm,Function.comp_def]using hK)
  rwa [Int.toNat_of_nonneg n0,Int.toNat_of_nonneg c0]at this
 ·have:=zzA data n.toNat c.toNat hn hc f1 g3 (by omega) (fun x hx=>by have:=g2 x hx;omega) H K hK
  rwa [Int.toNat_of_nonneg n0,Int.toNat_of_nonneg c0]at this
theorem zvR {data:List Dat} {t:VT} {c:Int} (hf:zbe data t c=none):za6 data t c=none:=by simp[za6,hf]
theorem zH8 (data:List Dat) (hk:zbG data) (t:VT) (ht:t.nodes≤1000) (c:Int) (H:zaa) (K:Kt) (hK:K (zcr (za6 data t c)) H) :
  ACalls tP znZ [.sl (data.map Dat.cs) .none,.agg t.cs,.int .i64 c] H K:=by
 refine ACalls.out (zH6 fun hs=>?_)
 obtain⟨f1,f2,f3⟩:=zeZ hk
 obtain⟨k,n,ks⟩:=t
 simp[zx1,VT.cs,Nat.add_assoc]
 refine zze data f1 f2 f3 (.mk k n ks) ht c _ _ ?_
 cases hf:zbe data (.mk k n ks) c with
 | none=>
  rw[zvR hf]at hK
  simp[zcr]
  refine⟨⟨rfl,rfl⟩,?_⟩
  exact Out.tup (bs:=[.sl [] .none,.bool false]) hs hK ⟨zdy,za3 rfl rfl,trivial⟩
 | some l=>
  obtain⟨bs,hlb,hl8,hpay,h200,k5,hsc,_⟩:=zvS hk hf
  rw[hpay]at hK
  simp[zcr]
  refine hsc _ _ ?_
  simp[zes]
  unfold zkb
  refine ALoop.own 10 zaV 3 rfl ?_
  have hl1:(H++[AB.cells [AV.int IntKind.i64 k,AV.int IntKind.i64 n,AV.sl (VT.css ks) Tok.none]]).length=H.length+1:=by simp
  rw[hl1]
  show zkb (.sl (VT.css l) .none) (.sl [] (.own (H.length+1))) (.sl (zbI bs) .none) (.int .i64 bs.length) (.int .i64 0) (H++[.cells [.int .i64 k,.int .i64 n,.sl (VT.css ks) .none]]++[.perm zaV 3 0]) (Out H.length K)
  have hperm:∀ m,HSc (H++[.cells [.int .i64 k,.int .i64 n,.sl (VT.css ks) .none],.perm zaV 3 m]):=fun m=>hs.append (by simp[AB.sc,AV.scA,AV.scB])
  refine zH4 (Inv:=fun q t10 t28 H'=>∃ i:Nat,i≤bs.length∧q=bs.length-i∧t28=.int .i64 i∧t10=.sl (VT.css (pick (l.take i) (bs.take i))) (.own (H.length+1))∧H'=H++[.cells [.int .i64 k,.int .i64 n,.sl (VT.css ks) .none],.perm zaV 3 (pick (l.take i) (bs.take i)).length]) bs.length ?_ ?_
  ·intro _;exact⟨0,by omega,by omega,rfl,by simp[pick,VT.css],by simp[pick]⟩
  ·rintro q t10 t28 H' ⟨i,hi,rfl,rfl,rfl,rfl⟩ hsc' hlen hsF Kb hKb
   by_cases hlt:i<bs.length
   ·have hps:=zoX hlb (by omega:i<l.length)
    have hpl:=zje (l.take i) (bs.take i)
    rw[List.length_take]at hpl
    have hnext:∀ J,zka (.sl (VT.css l) .none) (.sl (VT.css (pick (l.take (i+1)) (bs.take (i+1)))) (.own (H.length+1))) (.sl (zbI bs) .none) (.int .i64 bs.length) (.int .i64 i)
      (H++.cells [.int .i64 k,.int .i64 n,.sl (VT.css ks) .none]::.perm zaV 3 (pick (l.take (i+1)) (bs.take (i+1))).length::J) (Out H.length K) Kb:=by
     intro J
     simp[zka,zx2]
     rw[zat (by omega) (by omega)]
     refine hKb _ _ ⟨bs.length-(i+1),by omega,Back.at (J:=J) (H2:=H++[.cells [.int .i64 k,.int .i64 n,.sl (VT.css ks) .none],.perm zaV 3 (pick (l.take (i+1)) (bs.take (i+1))).length]) (by simp) (by simp) (hperm _) ?_ ⟨_,_,rfl,i+1,by omega,rfl,by simp,rfl,rfl⟩⟩
     simp[zj9,AV.sc,AV.scV,AV.scA,AV.scB]
    simp[zqb,zes,hlt,zgw]
    cases hbi:bs[i] with
    | true=>
     rw[hbi]at hps
     simp at hps
     simp
     have:=hnext []
     rw[hps]at this
     exact this
    | false=>
     rw[hbi]at hps
     simp only[Bool.false_eq_true,if_false]at hps
     simp[show i<l.length by omega]
     rw[zeU]
     simp[zaw,zaK,zaG]
     have:=hnext []
     rw[hps]at this
     rw[show VT.css (pick (l.take i) (bs.take i)++[l[i]])=VT.css (pick (l.take i) (bs.take i))++[l[i].cs] by simp[VT.css_map],show (pick (l.take i) (bs.take i)++[l[i]]).length=(pick (l.take i) (bs.take i)).length+1 by simp]at this
     exact⟨⟨by omega,by omega⟩,this⟩
   ·obtain rfl:i=bs.length:=by omega
    rw[List.take_of_length_le (by omega),List.take_length]at *
    simp[zqb]
    refine⟨⟨rfl,rfl⟩,?_⟩
    exact Out.tup (bs:=[.sl (VT.css (pick l bs)) .none,.bool true]) hs hK ⟨slV,za3 rfl rfl,trivial⟩
def pos (v:Bool) (bs:List Bool) (i:Nat):List Nat:=(List.range i).filter fun j=>bs.getD j false == v
def zbP (l:List Nat):List (List AV):=l.map fun (n:Nat)=>[AV.int .i64 (Int.ofNat n)]
theorem zo2 (v:Bool) (bs:List Bool) (i:Nat) (h:i<bs.length):pos v bs (i+1)=pos v bs i++(if bs[i] == v then [i] else []):=by
 unfold pos
 rw[List.range_succ,List.filter_append]
 congr 1
 simp[List.filter_cons,List.getD_eq_getElem?_getD,h]
theorem zo1 (v:Bool) (bs:List Bool) (i:Nat):(pos v bs i).length≤i:=by
 have:=List.length_filter_le (fun j=>bs.getD j false == v) (List.range i)
 simpa[pos]using this
theorem zEy {v:Bool} {bs:List Bool} {i j:Nat} (h:j∈pos v bs i):j<i:=by
 simp[pos]at h
 exact h.1
theorem zvT {l:List VT} {bs:List Bool} (h:l.length=bs.length) (d:VT):∀ i,i≤l.length→pick (l.take i) (bs.take i)=(pos false bs i).map fun j=>l.getD j d
 | 0,_=>by simp[pick,pos]
 | i+1,hi=>by
  rw[zoX h (by omega),zo2 false bs i (by omega),List.map_append,zvT h d i (by omega)]
  congr 1
  cases hb:bs[i]'(by omega) <;> simp[List.getD_eq_getElem?_getD,show i<l.length by omega]
theorem zhe (l:List Nat):(zbP l).length=l.length:=by simp[zbP]
theorem zD0 {l:List Nat} {i:Nat} (h:i<(zbP l).length):(zbP l)[i]=[.int .i64 ((l[i]'(by simpa[zbP]using h):Nat):Int)]:=by simp[zbP]
theorem zvv (l m:List Nat):zbP (l++m)=zbP l++zbP m:=by simp[zbP]
theorem zJz (data:List Dat) (hk:zbG data) (k n:Int) (ks:List VT) (ht:(VT.mk k n ks).nodes≤1000) (c:Int) {l:List VT} {bs:List Bool} (hf:zbe data (.mk k n ks) c=some l)
  (hlb:l.length=bs.length) (hl8:l.length≤8) (hrec:∀ H K,K (.sl (zbI bs) .none) H→ACalls tP zfV [.sl (data.map Dat.cs) .none,.int .i64 n,.int .i64 c] H K) (H:zaa) (K:Kt)
  (hK:K (.tup [.sl (zbP (pos false bs bs.length)) .none,.sl (zbP (pos true bs bs.length)) .none,.bool true]) H) :
  ACalls tP zoa [.sl (data.map Dat.cs) .none,.agg (VT.mk k n ks).cs,.int .i64 c] H K:=by
 refine ACalls.out (zJx fun hs=>?_)
 obtain⟨f1,f2,f3⟩:=zeZ hk
 simp[zyn,VT.cs,Nat.add_assoc]
 refine ztc data f1 f2 f3 (.mk k n ks) ht c _ _ ?_
 rw[hf]
 simp[zcr]
 refine hrec _ _ ?_
 simp[zes]
 unfold zkF
 refine ALoop.own 11 zcA 1 rfl ?_
 refine ALoop.own 12 zcA 1 rfl ?_
 have hl1:(H++[AB.cells [AV.int IntKind.i64 k,AV.int IntKind.i64 n,AV.sl (VT.css ks) Tok.none]]).length=H.length+1:=by simp
 have hl2:(H++[AB.cells [AV.int IntKind.i64 k,AV.int IntKind.i64 n,AV.sl (VT.css ks) Tok.none]]++[AB.perm zcA 1 0]).length=H.length+2:=by simp
 rw[hl1,hl2]
 show zkF (.sl [] (.own (H.length+1))) (.sl [] (.own (H.length+2))) (.sl (zbI bs) .none) (.int .i64 bs.length) (.int .i64 0) (H++[.cells [.int .i64 k,.int .i64 n,.sl (VT.css ks) .none]]++[.perm zcA 1 0]++[.perm zcA 1 0]) (Out H.length K)
 have hperm:∀ m m2,HSc (H++[.cells [.int .i64 k,.int .i64 n,.sl (VT.css ks) .none],.perm zcA 1 m,.perm zcA 1 m2]):=fun m m2=>hs.append (by simp[AB.sc,AV.scA,AV.scB])
 refine zJv (Inv:=fun q t11 t12 t30 H'=>∃ i:Nat,i≤bs.length∧q=bs.length-i∧t30=.int .i64 i∧t11=.sl (zbP (pos false bs i)) (.own (H.length+1))∧t12=.sl (zbP (pos true bs i)) (.own (H.length+2)) ∧
  H'=H++[.cells [.int .i64 k,.int .i64 n,.sl (VT.css ks) .none],.perm zcA 1 (pos false bs i).length,.perm zcA 1 (pos true bs i).length]) bs.length ?_ ?_
 ·intro _;exact⟨0,by omega,by omega,rfl,by simp[pos,zbP],by simp[pos,zbP],by simp[pos]⟩
 ·rintro q t11 t12 t30 H' ⟨i,hi,rfl,rfl,rfl,rfl,rfl⟩ hsc' hlen hsF Kb hKb
  by_cases hlt:i<bs.length
  ·have hp1:=zo2 false bs i hlt
   have hp2:=zo2 true bs i hlt
   have hn1:=zo1 false bs i
   have hn2:=zo1 true bs i
   have hnext:zkE (.sl (zbP (pos false bs (i+1))) (.own (H.length+1))) (.sl (zbP (pos true bs (i+1))) (.own (H.length+2))) (.sl (zbI bs) .none) (.int .i64 bs.length) (.int .i64 i)
     (H++[.cells [.int .i64 k,.int .i64 n,.sl (VT.css ks) .none],.perm zcA 1 (pos false bs (i+1)).length,.perm zcA 1 (pos true bs (i+1)).length]) (Out H.length K) Kb:=by
    simp[zkE,zyo]
    rw[zat (by omega) (by omega)]
    refine hKb _ _ ⟨bs.length-(i+1),by omega,Back.at (J:=[]) (H2:=H++[.cells [.int .i64 k,.int .i64 n,.sl (VT.css ks) .none],.perm zcA 1 (pos false bs (i+1)).length,.perm zcA 1 (pos true bs (i+1)).length]) (by simp) (by simp) (hperm _ _) ?_ ⟨_,_,_,rfl,i+1,by omega,rfl,by simp,rfl,rfl,rfl⟩⟩
    simp[zkD,AV.sc,AV.scV,AV.scA,AV.scB]
   cases hbi:bs[i] with
   | true=>
    rw[hbi]at hp1 hp2
    simp at hp1 hp2
    rw[hp1,hp2]at hnext
    simp[zkC,zes,hlt,zgw,hbi,zau,zaR,plain,AV.pd,zaw,zaK,zaG,zhe]
    refine⟨⟨by omega,by omega⟩,?_⟩
    simpa[zvv,zbP]using hnext
   | false=>
    rw[hbi]at hp1 hp2
    simp at hp1 hp2
    rw[hp1,hp2]at hnext
    simp[zkC,zes,hlt,zgw,hbi,zau,zaR,plain,AV.pd,zaw,zaK,zaG,zhe]
    refine⟨⟨by omega,by omega⟩,?_⟩
    simpa[zvv,zbP]using hnext
  ·obtain rfl:i=bs.length:=by omega
   simp[zkC]
   refine⟨⟨rfl,rfl,rfl⟩,?_⟩
   exact Out.tup (bs:=[.sl (zbP (pos false bs bs.length)) .none,.sl (zbP (pos true bs bs.length)) .none,.bool true]) hs hK ⟨slV,slV,za3 rfl rfl,trivial⟩
end Go.Proofs.YtdmamdnkcefmmaaGreatDoor
namespace Go.Abs
open Go Go.RowKit
variable {P:Program} {B:Nat} {w:World} {G:Gh} {H:zaa}
theorem HRel.frz (h:HRel B w G H) {id:Nat} {cs:List AV} (hH:H[id]?=some (.cells cs)) :
  ∃ G',Ext B w G w G'∧HRel B w G' (H.set id .dead)∧∃ b,G.μ[id]?=some (.blk b)∧G'.L b=cs.length∧∃ (vs:Array Value) (e:TypeId),w.heap[b]?=some (.cells vs e (0,0))∧All2 (ARel w G) vs.toList cs:=by
 have hlt:id<G.μ.length:=by rw[h.len];exact (List.getElem?_eq_some_iff.1 hH).1
 obtain⟨gi,hgi⟩:∃ gi,G.μ[id]?=some gi:=⟨_,List.getElem?_eq_getElem hlt⟩
 have hok:=h.ok id _ _ hH hgi
 cases gi with
 | gap=>exact hok.elim
 | own v s n=>exact hok.elim
 | blk b=>
  obtain⟨hB,hL,vs,e,hw,hcs⟩:=hok
  have hl:vs.size=cs.length:=by simpa using hcs.length
  have he:Ext B w G w ⟨fun x=>if x=b then cs.length else G.L x,G.μ⟩:=
   ⟨Nat.le_refl _,Below.refl _ _,fun x=>by by_cases hx:x=b <;> simp[hx,hL],fun _ _ _=>rfl,fun _ gi h=>⟨gi,h,gi.le_refl⟩⟩
  refine⟨_,he,⟨by simp[h.len],?_,h.dist,fun x hx=>?_,h.lt,h.base⟩,b,hgi,by simp,vs,e,hw,hcs⟩
  ·intro id' ab gi h1 h2
   by_cases hid:id'=id
   ·subst hid
    rw[List.getElem?_set_self (List.getElem?_eq_some_iff.1 hH).1]at h1
    cases h1
    have h2:G.μ[id']?=some gi:=h2
    rw[hgi]at h2
    cases h2
    exact⟨vs,e,(0,0),hw,by simp[hl]⟩
   ·rw[List.getElem?_set_ne (fun h=>hid h.symm)]at h1
    refine (h.ok id' ab gi h1 h2).keep he (fun x hx=>⟨rfl,?_⟩)
    have:¬ x=b:=fun hxb=>hid (h.dist id' id gi _ b h2 hgi (by rw[hx,hxb]) rfl)
    simp[this]
  ·have:=h.lt id _ b hgi rfl
   have h3:¬ x=b:=by omega
   simp[h3,h.fresh x hx]
inductive FzA (id off len cap:Nat) (es:List (List AV)):AV→AV→Prop
 | refl (a:AV):FzA id off len cap es a a
 | ms:FzA id off len cap es (.ms id off len cap) (.sl es .none)
inductive FzT (id off len cap:Nat) (es:List (List AV)):AV→AV→Prop
 | one {a b:AV} (h:FzA id off len cap es a b):FzT id off len cap es a b
 | agg {asx bs:List AV} (h:All2 (FzA id off len cap es) asx bs):FzT id off len cap es (.agg asx) (.agg bs)
theorem FzA.rel {id off len cap size:Nat} {cs:List AV} {es:List (List AV)} (hfit:off+len*size≤cs.length)
  (hp:plain ((cs.drop off).take (len*size))=some es.flatten) (hlen:es.length=len) (hsz:∀ c∈es,c.length=size) (hcap:len≤cap) {G':Gh} (hE:Ext B w G w G') {b:Nat} (hμ:G.μ[id]?=some (.blk b)) (hLb:G'.L b=cs.length)
  {vs0:Array Value} {e:TypeId} (hw:w.heap[b]?=some (.cells vs0 e (0,0))) (hcs:All2 (ARel w G) vs0.toList cs) {v:Value} {a b':AV} (hab:FzA id off len cap es a b') (hr:ARel w G v a):ARel w G' v b':=by
 cases hab with
 | refl a=>exact hE.arel hr
 | ms=>
  obtain⟨b2,hb2,rfl⟩:=hr
  rw[hμ]at hb2
  cases hb2
  show DRel w G'.L _ _
  subst hlen
  by_cases hne:es=[]
  ·subst hne;exact .slE _ _
  ·have hl:=hcs.length
   have hd:=zdh ((hcs.drop off).take (es.length*size)) hp
   refine DRel.of_flat_at (zs:=(vs0.toList.drop off).take (es.length*size)) hsz hne hcap (by rw[hLb];exact hfit) (hd.mono fun _ _=>hE.drel) ?_
   intro j u hj
   rw[List.getElem?_take]at hj
   split at hj
   ·simp only[World.cell?,hw]
    simpa using hj
   ·cases hj
theorem znc {R R':Value→AV→Prop} {S:AV→AV→Prop} (h:∀ v a b,S a b→R v a→R' v b) {vs:List Value} {asx bs:List AV} (hr:All2 R vs asx) (hs:All2 S asx bs):All2 R' vs bs:=
 All2.of_get (hr.length.trans hs.length) fun i x y hx hy=>by
  obtain⟨a,ha,hxa⟩:=All2.get' hr hx
  obtain⟨y',hy',hay⟩:=All2.get' hs ha
  rw[hy]at hy'
  cases hy'
  exact h _ _ _ hay hxa
theorem ACalls.frz {f:FuncId} {args args':List AV} {K:Kt} (id off len cap size:Nat) (cs:List AV) (es:List (List AV)) (hH:H[id]?=some (.cells cs)) (hfit:off+len*size≤cs.length)
  (hp:plain ((cs.drop off).take (len*size))=some es.flatten) (hlen:es.length=len) (hsz:∀ c∈es,c.length=size) (hcap:len≤cap) (ha:All2 (FzT id off len cap es) args args')
  (h:ACalls P f args' (H.set id .dead) K):ACalls P f args H K:=by
 intro B w G vs hR hv
 obtain⟨G',hE,hR',b,hμ,hLb,vs0,e,hw,hcs⟩:=hR.frz hH
 have h1:∀ v a b,FzA id off len cap es a b→ARel w G v a→ARel w G' v b:=fun v a b' hab hr=>FzA.rel hfit hp hlen hsz hcap hE hμ hLb hw hcs hab hr
 have h2:∀ v a b,FzT id off len cap es a b→TRel w G v a→TRel w G' v b:=by
  intro v a b' hab hr
  cases hab with
  | one hab=>
   cases hab with
   | refl a=>exact hE.trel hr
   | ms=>exact TRel.of_v (VRel.of_a (h1 _ _ _ .ms hr))
  | agg hab=>
   obtain⟨us,hu,hr⟩:=hr
   exact⟨us,hu,znc h1 hr hab⟩
 refine (h B w G' vs hR' (znc h2 hv ha)).mono fun e w' ⟨v,r,H',G'',k1,k2,k3,k4,k5⟩=>⟨v,r,H',G'',k1,hE.trans k2,k3,k4,k5⟩
theorem AWp.frz {c:Code} {Q:AExit→List AV→zaa→Prop} {F:List AV} (id off len cap size:Nat) (cs:List AV) (es:List (List AV)) (id2:Nat) (cs2 cs2':List AV) (hH:H[id]?=some (.cells cs)) (hfit:off+len*size≤cs.length)
  (hp:plain ((cs.drop off).take (len*size))=some es.flatten) (hlen:es.length=len) (hsz:∀ c∈es,c.length=size) (hcap:len≤cap) (hne:id≠id2) (hH2:H[id2]?=some (.cells cs2)) (ha:All2 (FzA id off len cap es) cs2 cs2')
  (h:AWp P c Q F ((H.set id .dead).set id2 (.cells cs2'))):AWp P c Q F H:=by
 intro B w G a hR hF hd
 obtain⟨G',hE,hR',b,hμ,hLb,vs0,e,hw,hcs⟩:=hR.frz hH
 have h1:∀ v a b,FzA id off len cap es a b→ARel w G v a→ARel w G' v b:=fun v a b' hab hr=>FzA.rel hfit hp hlen hsz hcap hE hμ hLb hw hcs hab hr
 have hlt2:id2<G.μ.length:=by rw[hR.len];exact (List.getElem?_eq_some_iff.1 hH2).1
 have hH2':(H.set id .dead)[id2]?=some (.cells cs2):=by rw[List.getElem?_set_ne hne];exact hH2
 have hR2:HRel B w G' ((H.set id .dead).set id2 (.cells cs2')):=by
  refine⟨by simp[hR'.len],?_,hR'.dist,hR'.fresh,hR'.lt,hR'.base⟩
  intro i ab gi k1 k2
  by_cases hi:i=id2
  ·subst hi
   rw[List.getElem?_set_self (List.getElem?_eq_some_iff.1 hH2').1]at k1
   cases k1
   have hok:=hR'.ok i _ _ hH2' k2
   have hgi:G.μ[i]?=some gi:=by
    obtain⟨gi0,hgi0⟩:∃ gi0,G.μ[i]?=some gi0:=⟨_,List.getElem?_eq_getElem hlt2⟩
    have hok0:=hR.ok i _ _ hH2 hgi0
    obtain⟨gi1,hg1,hle⟩:=hE.ids i gi0 hgi0
    rw[k2]at hg1
    cases hg1
    cases gi0 with
    | blk x=>cases gi with
     | blk y=>obtain rfl:x=y:=hle;exact hgi0
     | own v s n=>exact hle.elim
     | gap=>exact hle.elim
    | own v s n=>exact hok0.elim
    | gap=>exact hok0.elim
   have hok0:=hR.ok i _ _ hH2 hgi
   cases gi with
   | blk x=>
    obtain⟨k3,k4,vs,e',k5,k6⟩:=hok
    obtain⟨_,_,vs1,e1,k7,k8⟩:=hok0
    rw[k5]at k7
    cases k7
    exact⟨k3,k4,vs,e',k5,znc h1 k8 ha⟩
   | own v s n=>exact hok.elim
   | gap=>exact hok.elim
  ·rw[List.getElem?_set_ne (fun h=>hi h.symm)]at k1
   exact hR'.ok i ab gi k1 k2
 refine wp_mono (h B w G' a hR2 (hF.ext hE) hd) fun e a' w' hp=>?_
 obtain⟨F',H',G'',e',rfl,k1,k2,k3,k4,k5⟩:=hp
 exact⟨F',H',G'',e',rfl,hE.trans k1,k2,k3,k4,k5⟩
end Go.Abs
namespace Go.Abs
open Go Go.RowKit
variable {P:Program} {B:Nat} {w:World} {G:Gh} {H:zaa}
inductive OutW (H:zaa) (n:Nat):AV→AV→Prop
 | one {a b:AV} (h:OutV H n a b):OutW H n a b
 | rows (id e m:Nat) (cs:List AV) (rs:List (List (List AV))) (hid:n≤id) (hH:H[id]?=some (.vec e 1 m cs)) (hm:rs.length=m)
   (hall:All2 (OutV H n) cs (rs.map fun r=>.sl r .none)):OutW H n (.ov id m) (.sl (rs.map fun r=>[.sl r .none]) .none)
theorem OutW.vrel (hH:HRel B w G H) {n:Nat} {v:Value} {a b:AV} (h:OutW H n a b) (hr:TRel w G v a):VRel w (G.cut w n) v b:=by
 cases h with
 | one h=>exact h.vrel hH hr
 | rows id e m cs rs hid hHid hm hall=>
  obtain⟨⟨a,cap0,rfl,_⟩,v',s0,n',hμ,_,heq⟩:=hr
  obtain⟨rfl,rfl,⟨xs,hown,hcs⟩,_⟩:=hH.ok id _ _ hHid hμ
  obtain rfl:=heq rfl
  subst hm
  show DRel w (G.cut w n).L _ _
  by_cases hne:rs=[]
  ·subst hne;exact .slE _ _
  ·have hown2:=hown
   obtain⟨hl,hrow⟩:=hown2
   have hd:All2 (DRel w (G.cut w n).L) xs (rs.map fun r=>AV.sl r .none):=All2.of_get (hcs.length.trans hall.length) fun i x y hx hy=>by
    obtain⟨a,ha,hxa⟩:=All2.get' hcs hx
    obtain⟨y',hy',hay⟩:=All2.get' hall ha
    rw[hy]at hy'
    cases hy'
    obtain⟨r,hr,rfl⟩:∃ r,rs[i]?=some r∧AV.sl r .none=y:=by simpa using hy
    exact hay.vrel hH (TRel.of_v (VRel.of_a hxa))
   rcases hrow with ⟨h1,h2⟩ | ⟨g,cap,cur,h1,h2,h3,h4,h5,h6,h7⟩
   ·cases rs <;> simp_all
   ·simp at h1
    obtain⟨rfl,rfl⟩:=h1
    obtain⟨_,_,_,hcell⟩:=zdg hown
    have hfl:∀ l:List (List (List AV)),(l.map fun r=>[AV.sl r .none]).flatten=l.map fun r=>AV.sl r .none:=by
     intro l
     induction l with
     | nil=>rfl
     | cons r l ih=>simp[ih]
    have:=DRel.of_flat_at (w:=w) (L:=(G.cut w n).L) (g:=g) (off:=0) (size:=1) (cap:=cap0) (es:=rs.map fun r=>[AV.sl r .none]) (zs:=xs) (by simp) (by simpa using hne) (by simpa using h4) ?_ (by rw[hfl rs];exact hd) ?_
    ·simpa using this
    ·have:(G.cut w n).L g=cur.size:=by
      simp only[Gh.cut]
      rw[if_pos (cut_dropped.2 ⟨id,_,hid,hμ,rfl⟩),h3]
     rw[this,h6]
     simpa using h4
    ·intro j u hj
     rw[Nat.zero_add,hcell j (by rw[←hl];exact (List.getElem?_eq_some_iff.1 hj).1)]
     exact hj
inductive OutT2 (H:zaa) (n:Nat):AV→AV→Prop
 | one {a b:AV} (h:OutW H n a b):OutT2 H n a b
 | tup {asx bs:List AV} (h:All2 (OutW H n) asx bs):OutT2 H n (.tup asx) (.tup bs)
def zBN (n:Nat) (K:AV→zaa→Prop) (r:AV) (H':zaa):Prop:=∃ r2 H2 J,H'=H2++J∧n≤H2.length∧HSc H2∧OutT2 H' H2.length r r2∧K r2 H2
theorem Out.two {n:Nat} {K:AV→zaa→Prop} {r:AV} (h:Out n K r H):zBN n K r H:=by
 obtain⟨r2,H2,J,hJ,hn,hsc,ho,hk⟩:=h
 refine⟨r2,H2,J,hJ,hn,hsc,?_,hk⟩
 cases ho with
 | one h=>exact .one (.one h)
 | tup h=>exact .tup (All2.of_get h.length fun i x y hx hy=>by
   obtain⟨y',hy',hay⟩:=All2.get' h hx
   rw[hy]at hy'
   cases hy'
   exact .one hay)
end Go.Abs
namespace Go.Abs
open Go Go.RowKit Go.Lib
variable {P:Program} {B:Nat} {w:World}
theorem zEm {t u ty e:TypeId} {i:TypeInfo} (ht:P.underlying t=some (.slice e)) (hu:P.underlying u=some .string) (hi:P.info? e=some i) (hz:i.zero=some (.int .u8 0)) (hsize:i.size=1) (hby:i.bytes=1) {v:Value} {n:Nat} {xs:List Value}
  (hown:w.ownsRow B e 1 v n xs) (s:ByteArray) (hm:0<s.size) (h63:n+s.size≤maxLen) (hbytes:n+s.size≤140737488355328) (hbase:B≤w.heap.size) :
  ∃ v' w',(Builtin.append_ #[t,u] ty #[v,.string s]).run P w=.ok v' w'∧w'.ownsRow B e 1 v' (n+s.size) (xs++strCells s) ∧
   ((∃ g,v.ownBlock=some g∧v'.ownBlock=some g∧GrB w w' (some g))∨(v'.ownBlock=some w.heap.size∧GrB w w' none)):=by
 have hxl:xs.length=n:=by simpa using hown.1
 have hlen:(xs++strCells s).length=(n+s.size)*1:=by rw[List.length_append,hxl,strCells_length,Nat.mul_one]
 have grown:∀ (old:Nat),old<n+s.size →
   (w.drew.alloc (.cells (xs.toArray++(strCells s).toArray++Builtin.zeroCells (Value.int .u8 0).cells (grownCap w (n+s.size) old e-(n+s.size))) e)).ownsRow B e 1
    (.slice (some ⟨w.heap.size,0,none⟩) (n+s.size) (grownCap w (n+s.size) old e)) (n+s.size) (xs++strCells s) ∧
   GrB w (w.drew.alloc (.cells (xs.toArray++(strCells s).toArray++Builtin.zeroCells (Value.int .u8 0).cells (grownCap w (n+s.size) old e-(n+s.size))) e)) none:=by
  intro old ho
  have hge:=grownCap_ge w (n+s.size) old e
  have hcm:grownCap w (n+s.size) old e≤maxLen:=grownCap_le_maxLen w (n+s.size) old e h63
  refine⟨⟨hlen,.inr ⟨w.heap.size,_,_,rfl,hbase,zda (w:=w.drew) _,hge,hcm,?_,?_⟩⟩,⟨znx w _,rfl,rfl,rfl,by simp,fun k hk _=>zcy (w:=w.drew) hk⟩⟩
  ·have hz1:(Value.int IntKind.u8 0).cells.size=1:=rfl
   simp only[Array.size_append,List.size_toArray,size_zeroCells,hz1,hxl,strCells_length]
   omega
  ·simp only[Array.toList_append,List.append_assoc]
   rw[←List.append_assoc,←hlen]
   exact List.take_left
 rcases hown.2 with ⟨rfl,rfl⟩ | ⟨g,cap,cur,rfl,hbg,hg,hnc,hcm,hcs,htake⟩
 ·have hx:xs=[]:=List.eq_nil_of_length_eq_zero hxl
  subst hx
  have hr:=run_append_nil_string (P:=P) w t u ty e i (.int .u8 0) ht hu hi hz s hm (by omega) (by rw[hby];omega)
  have hgr:=grown 0 (by omega)
  simp only[Nat.zero_add,List.nil_append,Array.empty_append]at hgr ⊢
  have e1:(s.data.map fun b=>Value.int .u8 b.toNat)=(strCells s).toArray:=by
   apply Array.ext'
   simp[strCells]
  rw[e1]at hr
  exact⟨_,_,hr,hgr.1,.inr ⟨rfl,hgr.2⟩⟩
 ·by_cases hroom:n+s.size≤cap
  ·have hcs':cur.size=cap:=by simpa using hcs
   have hr:=run_append_room_string (P:=P) w t u ty e i ht hu hi hsize g n cap cur hg s hroom (by omega)
   refine⟨_,_,hr,⟨hlen,.inr ⟨g,cap,_,rfl,hbg,setRow_heap w g cur _ e _ hg,hroom,hcm,?_,?_⟩⟩,.inl ⟨g,rfl,rfl,⟨Nat.le_refl _,rfl,rfl,rfl,by simp,fun k _ hk=>setRow_other w g k _ (fun e=>hk (by simp[e]))⟩⟩⟩
   ·simp only[List.size_toArray,List.length_append,List.length_take,List.length_drop,Array.length_toList,strCells_length]
    omega
   ·have ht':cur.toList.take n=xs:=by simpa using htake
    rw[ht',←hlen]
    exact List.take_left
  ·have holds:∀ j u,xs[j]?=some u→w.cell? ((⟨g,0,none⟩:Addr).add j)=some u:=hown.cells (g:=g) rfl
   have hr:=run_append_grow_string (P:=P) w t u ty e i (.int .u8 0) ht hu hi hz ⟨g,0,none⟩ n cap xs (by rw[hsize];simpa using hxl) holds s (by omega) (by omega) (by rw[hby];exact growslice_fits (by omega) (by omega))
   have hgr:=grown cap (by omega)
   exact⟨_,_,hr,hgr.1,.inr ⟨rfl,hgr.2⟩⟩
theorem zEn {t u ty e:TypeId} {i:TypeInfo} (ht:P.underlying t=some (.slice e)) (hu:P.underlying u=some .string) (hi:P.info? e=some i) (hsize:i.size=1) {v:Value} {n:Nat} {xs:List Value}
  (hown:w.ownsRow B e 1 v n xs) (s:ByteArray) (hm:s.size=0):(Builtin.append_ #[t,u] ty #[v,.string s]).run P w=.ok v w:=by
 have hn:strCells s=[]:=List.eq_nil_of_length_eq_zero (by rw[strCells_length];exact hm)
 have hf:=run_firstCells_string (P:=P) w 1 s
 rw[hm,hn]at hf
 have hst:∀ x,(storeCells x [] 0).run P w=.ok () w:=fun x=>rfl
 rcases hown.2 with ⟨rfl,rfl⟩ | ⟨g,cap,cur,rfl,hbg,hg,hnc,hcm,hcs,htake⟩
 ·simp[Builtin.append_,run_underlying ht,run_underlying hu,sizeOf,typeInfo,hi,hsize,Builtin.lenOf,hm,hf]
 ·simp[Builtin.append_,run_underlying ht,run_underlying hu,sizeOf,typeInfo,hi,hsize,Builtin.lenOf,hm,hf,hnc,hst]
theorem wpList_append_str {ops:Array Oper} {rest:List Oper} {o:Oper} {a:Act} {Q:Exit→Act→World→Prop} (hgd:o.guard=none) (sl x:Operand) (t u:TypeId)
  (ho:o.op=.call { callee:=.builtin .append,args:=#[sl,x],argTypes:=#[t,u] }) {v v':Value} {w':World} {s:ByteArray} (hs:a.eval sl=v) (hx:a.eval x=.string s)
  (hr:∀ ty,(Builtin.append_ #[t,u] ty #[v,.string s]).run P w=.ok v' w') (h:wpList P ops Q rest (a.put o.dst v') w'):wpList P ops Q (o::rest) a w:=by
 refine wpList_plain hgd fun K hK=>?_
 unfold Oper.wp execOp
 simp only[ho,resolve,invoke,builtin,Sem.run_bind,Sem.run_pure,Result.andThen_ok,List.map_toArray,List.map_cons,List.map_nil,hs,hx,hr]
 exact hK _ _ h
end Go.Abs
namespace Go.Abs
open Go Go.RowKit Go.Lib
variable {P:Program} {B:Nat} {w:World} {G:Gh} {H:zaa}
theorem HRel.storeB (h:HRel B w G H) {id b:Nat} {t:TypeId} {cs cs':List AV} {vs vs':Array Value} (hH:H[id]?=some (.bld t cs)) (hμ:G.μ[id]?=some (.blk b))
  (hw:w.heap[b]?=some (.cells vs t (0,0))) (hc:All2 (ARel w G) vs'.toList cs') :
  Ext B w G (w.setRow b vs') G∧HRel B (w.setRow b vs') G (H.set id (.bld t cs')):=by
 obtain⟨hB,hL,_⟩:=h.ok id _ _ hH hμ
 have hsz:(w.setRow b vs').heap.size=w.heap.size:=by simp[World.setRow]
 have he:Ext B w G (w.setRow b vs') G:=by
  refine⟨Nat.le_refl _,⟨rfl,rfl,rfl,by rw[hsz];exact Nat.le_refl _,fun k hk=>zd5 _ (by omega)⟩,fun _=>Nat.le_refl _,fun x off ho=>?_,fun _ gi h=>⟨gi,h,gi.le_refl⟩⟩
  have:x≠b:=by intro hx;subst hx;omega
  exact zeV (zd5 _ this)
 refine⟨he,by simp[h.len],?_,h.dist,by rw[hsz];exact h.fresh,by rw[hsz];exact h.lt,by rw[hsz];exact h.base⟩
 intro id' ab gi h1 h2
 by_cases hid:id'=id
 ·subst hid
  rw[hμ]at h2
  cases h2
  have hlt:id'<H.length:=(List.getElem?_eq_some_iff.1 hH).1
  rw[List.getElem?_set_self hlt]at h1
  cases h1
  exact⟨hB,hL,vs',setRow_heap w b vs vs' t _ hw,hc.mono fun _ _=>he.arel⟩
 ·rw[List.getElem?_set_ne (fun h=>hid h.symm)]at h1
  refine (h.ok id' ab gi h1 h2).keep he (fun x hx=>⟨zd5 _ ?_,rfl⟩)
  intro hxb
  subst hxb
  exact hid (h.dist id' id gi _ x h2 hμ hx rfl)
theorem HRel.reCellB (h:HRel B w G H) {id:Nat} {t:TypeId} {cs cs':List AV} (hid:H[id]?=some (.bld t cs)) (hc:∀ vs:List Value,All2 (ARel w G) vs cs→All2 (ARel w G) vs cs'):HRel B w G (H.set id (.bld t cs')):=by
 refine⟨by simp[h.len],?_,h.dist,h.fresh,h.lt,h.base⟩
 intro i ab gi h1 h2
 by_cases hi:i=id
 ·subst hi
  rw[List.getElem?_set_self (List.getElem?_eq_some_iff.1 hid).1]at h1
  cases h1
  have hok:=h.ok i _ _ hid h2
  cases gi with
  | blk b=>
   obtain⟨k1,k2,vs,k3,k4⟩:=hok
   exact⟨k1,k2,vs,k3,hc _ k4⟩
  | own v s n=>exact hok.elim
  | gap=>exact hok.elim
 ·rw[List.getElem?_set_ne (fun h=>hi h.symm)]at h1
  exact h.ok i ab gi h1 h2
theorem HRel.ownCellB (h:HRel B w G H) {id:Nat} {t:TypeId} {p:AV} (e size:Nat) (hid:H[id]?=some (.bld t [p,.snil])) :
  ∃ G',Ext B w G w G'∧HRel B w G' (H.set id (.bld t [p,.sl [] (.own H.length)])++[.perm e size 0]):=by
 obtain⟨hE,hH'⟩:=h.newOwn e size
 refine⟨_,hE,?_⟩
 have hlt:=(List.getElem?_eq_some_iff.1 hid).1
 have:=hH'.reCellB (id:=id) (t:=t) (cs:=[p,.snil]) (cs':=[p,.sl [] (.own H.length)]) (by rw[List.getElem?_append_left hlt];exact hid) (fun vs hvs=>by
  match vs,hvs with
  | [v1,v2],⟨h1,h2,_⟩=>
   have h2:v2=.slice none 0 0:=h2
   subst h2
   refine⟨h1,⟨.slE _ _,.slice none 0 0,size,0,?_,Nat.le_refl _,fun _=>⟨rfl,by simp⟩⟩,trivial⟩
   rw[←h.len]
   simp)
 rwa [List.set_append_left _ _ hlt]at this
theorem ACalls.ownB {f:FuncId} {args:List AV} {K:AV→zaa→Prop} {id:Nat} {t:TypeId} {p:AV} (e size:Nat) (hid:H[id]?=some (.bld t [p,.snil]))
  (h:ACalls P f args (H.set id (.bld t [p,.sl [] (.own H.length)])++[.perm e size 0]) K):ACalls P f args H K:=by
 intro B w G vs hH hv
 obtain⟨G',hE,hH'⟩:=hH.ownCellB e size hid
 refine (h B w G' vs hH' (hv.mono fun _ _=>hE.trel)).mono fun e' w' hp=>?_
 obtain⟨v,r,H',G'',h1,h2,h3⟩:=hp
 exact⟨v,r,H',G'',h1,hE.trans h2,h3⟩
def bcs (l:List UInt8):List (List AV):=l.map fun b=>[.int .u8 b.toNat]
theorem zd0 (l:List UInt8):(bcs l).length=l.length:=by simp[bcs]
theorem ztX (l m:List UInt8):bcs l++bcs m=bcs (l++m):=by simp[bcs]
theorem zeT (l:List UInt8):∀ c∈bcs l,c.length=1:=by
 intro c hc
 simp only[bcs,List.mem_map]at hc
 obtain⟨b,_,rfl⟩:=hc
 rfl
theorem zCl (l:List UInt8):All2 (DRel w G.L) (strCells ⟨l.toArray⟩) (bcs l).flatten:=by
 have:strCells ⟨l.toArray⟩=l.map fun b=>Value.int .u8 b.toNat:=by simp[strCells]
 rw[this]
 induction l with
 | nil=>trivial
 | cons b l ih=>exact⟨.int _ _,ih (by simp[strCells])⟩
theorem HRel.freezeG (h:HRel B w G H) {id g n cap e:Nat} (hH:H[id]?=some (.frz e 1 n)) (hμ:G.μ[id]?=some (.own (.slice (some ⟨g,0,none⟩) n cap) 1 n)) (k:Nat) :
  Ext B w G (w.freeze ⟨g,0,none⟩ k) G∧HRel B (w.freeze ⟨g,0,none⟩ k) G H:=by
 obtain⟨g',cap',cur,fr0,_,_,hv,hg,hBg,hLg,hc1,hc2,hc3⟩:=h.ok id _ _ hH hμ
 cases hv
 have hoth:∀ b,b≠g→(w.freeze ⟨g,0,none⟩ k).heap[b]?=w.heap[b]?:=by
  intro b hb
  unfold World.freeze
  split
  ·rfl
  ·simp only[Array.getElem?_modify]
   rw[if_neg (fun h=>hb h.symm)]
 have hgg:∃ fr,(w.freeze ⟨g,0,none⟩ k).heap[g]?=some (.cells cur e fr):=by
  unfold World.freeze
  split
  ·exact⟨fr0,hg⟩
  ·simp only[Array.getElem?_modify,hg]
   exact⟨_,rfl⟩
 obtain⟨fr,hgf⟩:=hgg
 have hsz:(w.freeze ⟨g,0,none⟩ k).heap.size=w.heap.size:=by
  unfold World.freeze
  split
  ·rfl
  ·simp
 have hbelow:Below B w (w.freeze ⟨g,0,none⟩ k):=below_freeze (Below.refl B w) (p:=⟨g,0,none⟩) hBg k
 have he:Ext B w G (w.freeze ⟨g,0,none⟩ k) G:=by
  refine⟨by unfold World.freeze;split <;> exact Nat.le_refl _,hbelow,fun _=>Nat.le_refl _,fun x off ho=>?_,fun _ gi h=>⟨gi,h,gi.le_refl⟩⟩
  by_cases hx:x=g
  ·subst hx
   simp[World.cell?,hgf,hg]
  ·exact zeV (hoth x hx)
 refine⟨he,h.len,?_,h.dist,by rw[hsz];exact h.fresh,by rw[hsz];exact h.lt,by rw[hsz];exact h.base⟩
 intro id' ab gi h1 h2
 by_cases hid:id'=id
 ·subst hid
  rw[hμ]at h2
  cases h2
  rw[hH]at h1
  cases h1
  exact⟨g,cap,cur,fr,rfl,rfl,rfl,hgf,hBg,hLg,hc1,hc2,hc3⟩
 ·refine (h.ok id' ab gi h1 h2).keep he (fun x hx=>⟨hoth x ?_,rfl⟩)
  intro hxb
  subst hxb
  exact hid (h.dist id' id gi _ x h2 hμ hx rfl)
theorem HRel.dead (h:HRel B w G H) {id e s n:Nat} (hH:H[id]?=some (.perm e s n)):HRel B w G (H.set id .dead):=by
 refine⟨by simp[h.len],?_,h.dist,h.fresh,h.lt,h.base⟩
 intro i ab gi h1 h2
 by_cases hi:i=id
 ·subst hi
  rw[List.getElem?_set_self (List.getElem?_eq_some_iff.1 hH).1]at h1
  cases h1
  have hok:=h.ok i _ _ hH h2
  cases gi with
  | blk b=>exact hok.elim
  | gap=>exact hok.elim
  | own v s' n'=>
   obtain⟨rfl,rfl,⟨xs,hl,⟨rfl,_⟩ | ⟨g,cap,cur,rfl,k1,k2,k3,k4,k5,k6⟩⟩,hL⟩:=hok
   ·intro b hb
    cases hb
   ·intro b hb
    simp[Value.ownBlock]at hb
    subst hb
    exact⟨cur,e,_,k2,by rw[hL g rfl,k5];exact Nat.mul_le_mul_right _ k3⟩
 ·rw[List.getElem?_set_ne (fun h=>hi h.symm)]at h1
  exact h.ok i ab gi h1 h2
theorem HRel.other (h:HRel B w G H) (o:Obj):Ext B w G (w.alloc o) G∧HRel B (w.alloc o) G H:=by
 have he:=Ext.alloc h o G.L (fun _ _=>rfl) []
 simp only[List.append_nil]at he
 refine⟨he,h.keep he rfl (fun id gi b h1 h2=>⟨zcy (h.lt id gi b h1 h2),rfl⟩) (fun b hb=>?_)⟩
 rw[zbX]at hb
 exact h.fresh b (by omega)
end Go.Abs
namespace Go.Abs
open Go Go.RowKit Go.Sort
variable {P:Program} {B:Nat} {w:World} {G:Gh} {H:zaa}
end Go.Abs
namespace Go.Abs
open Go Go.RowKit
variable {P:Program} {B:Nat} {w:World} {G:Gh} {H:zaa}
theorem HRel.newVec (h:HRel B w G H) (e size:Nat):Ext B w G w ⟨G.L,G.μ++[.own (.slice none 0 0) size 0]⟩∧HRel B w ⟨G.L,G.μ++[.own (.slice none 0 0) size 0]⟩ (H++[.vec e size 0 []]):=by
 obtain⟨hE,hH⟩:=h.newOwn e size
 refine⟨hE,by simpa using hH.len,fun id ab gi h1 h2=>?_,hH.dist,hH.fresh,hH.lt,hH.base⟩
 by_cases hlt:id<H.length
 ·rw[List.getElem?_append_left hlt]at h1
  exact hH.ok id ab gi (by rw[List.getElem?_append_left hlt];exact h1) h2
 ·have hlt2:=(List.getElem?_eq_some_iff.1 h2).1
  simp[h.len]at hlt2
  obtain rfl:id=H.length:=by omega
  simp at h1
  have h2:(G.μ++[GI.own (.slice none 0 0) size 0])[H.length]?=some gi:=h2
  rw[←h.len]at h2
  simp at h2
  subst h1 h2
  exact⟨rfl,rfl,⟨[],World.ownsRow_nil w B e size,trivial⟩,fun b hb=>by simp[Value.ownBlock]at hb⟩
theorem HRel.ovCell (h:HRel B w G H) {id j:Nat} {cs:List AV} (e size:Nat) (hid:H[id]?=some (.cells cs)) (hj:cs[j]?=some .snil) :
  ∃ G',Ext B w G w G'∧HRel B w G' (H.set id (.cells (cs.set j (.ov H.length 0)))++[.vec e size 0 []]):=by
 obtain⟨hE,hH'⟩:=h.newVec e size
 refine⟨_,hE,?_⟩
 have hlt:=(List.getElem?_eq_some_iff.1 hid).1
 have:=hH'.reCell (id:=id) (cs:=cs) (cs':=cs.set j (.ov H.length 0)) (by rw[List.getElem?_append_left hlt];exact hid) (fun vs hvs=>by
  obtain⟨v,h1,h2⟩:=All2.get hvs hj
  have h2:v=.slice none 0 0:=h2
  subst h2
  have hset:vs=vs.set j (.slice none 0 0):=by
   apply List.ext_getElem?
   intro k
   by_cases hk:k=j
   ·subst hk;rw[List.getElem?_set_self (List.getElem?_eq_some_iff.1 h1).1];exact h1
   ·rw[List.getElem?_set_ne (fun h=>hk h.symm)]
  rw[hset]
  refine All2.set j hvs ?_
  refine⟨⟨none,0,rfl,fun h=>absurd h (by omega),Nat.le_refl _⟩,.slice none 0 0,size,0,?_,Nat.le_refl _,fun _=>rfl⟩
  rw[←h.len]
  simp)
 rwa [List.set_append_left _ _ hlt]at this
theorem ACalls.ovC {f:FuncId} {args:List AV} {K:AV→zaa→Prop} {id j:Nat} {cs:List AV} (e size:Nat) (hid:H[id]?=some (.cells cs)) (hj:cs[j]?=some .snil)
  (h:ACalls P f args (H.set id (.cells (cs.set j (.ov H.length 0)))++[.vec e size 0 []]) K):ACalls P f args H K:=by
 intro B w G vs hH hv
 obtain⟨G',hE,hH'⟩:=hH.ovCell e size hid hj
 refine (h B w G' vs hH' (hv.mono fun _ _=>hE.trel)).mono fun e' w' hp=>?_
 obtain⟨v,r,H',G'',h1,h2,h3⟩:=hp
 exact⟨v,r,H',G'',h1,hE.trans h2,h3⟩
end Go.Abs
namespace Go.Abs
open Go Go.RowKit
variable {P:Program} {B:Nat} {w:World} {G:Gh} {H:zaa}
theorem zEl (h:HRel B w G H) (e size:Nat):TRel w ⟨G.L,G.μ++[.own (.slice none 0 0) size 0]⟩ (.slice none 0 0) (.ov H.length 0):=by
 refine⟨⟨none,0,rfl,fun h=>absurd h (by omega),Nat.le_refl _⟩,.slice none 0 0,size,0,?_,Nat.le_refl _,fun _=>rfl⟩
 rw[←h.len]
 simp
theorem ALoop.vec {c:Code} {Q:AExit→List AV→zaa→Prop} {F:List AV} (i e size:Nat) (hi:F[i]?=some .snil)
  (h:ALoop P c Q (F.set i (.ov H.length 0)) (H++[.vec e size 0 []])):ALoop P c Q F H:=by
 intro B w G a hH hF hd
 obtain⟨hE,hH'⟩:=hH.newVec e size
 have hF':FRel w ⟨G.L,G.μ++[.own (.slice none 0 0) size 0]⟩ a.tmps (F.set i (.ov H.length 0)):=by
  unfold FRel
  obtain⟨v,h1,h2⟩:=All2.get hF hi
  have h2:v=.slice none 0 0:=h2
  subst h2
  have hset:a.tmps.toList=a.tmps.toList.set i (.slice none 0 0):=by
   apply List.ext_getElem?
   intro k
   by_cases hk:k=i
   ·subst hk;rw[List.getElem?_set_self (List.getElem?_eq_some_iff.1 h1).1];exact h1
   ·rw[List.getElem?_set_ne (fun h=>hk h.symm)]
  rw[hset]
  exact All2.set i (hF.ext hE) (zEl hH e size)
 refine wp_mono (h B w _ a hH' hF' hd) fun e a' w' hp=>?_
 obtain⟨F'',H'',G'',e'',rfl,k1,k2,k3,k4,k5⟩:=hp
 exact⟨F'',H'',G'',e'',rfl,hE.trans k1,k2,k3,k4,k5⟩
theorem zpK {vs:List Value}:∀ {cs cs':List AV},All2 WkA cs cs'→∀ {vs:List Value},All2 (ARel w G) vs cs→All2 (ARel w G) vs cs'
 | [],[],_,_,hv=>hv
 | x::cs,x'::cs',hw,[],hv=>hv.elim
 | x::cs,x'::cs',hw,v::vs,hv=>⟨hw.1.arel hv.1,zpK (vs:=[]) hw.2 hv.2⟩
 | [],_::_,hw,_,_=>hw.elim
 | _::_,[],hw,_,_=>hw.elim
theorem ALoop.reCell {c:Code} {Q:AExit→List AV→zaa→Prop} {F:List AV} {id:Nat} {cs:List AV} (cs':List AV) (hid:H[id]?=some (.cells cs)) (hw:All2 WkA cs cs') (h:ALoop P c Q F (H.set id (.cells cs'))):ALoop P c Q F H:=by
 intro B w G a hH hF hd
 exact h B w G a (hH.reCell hid fun vs hv=>zpK (vs:=[]) hw hv) hF hd
theorem HRel.frzV (h:HRel B w G H) {id e size n:Nat} {cs:List AV} (hH:H[id]?=some (.vec e size n cs)) {es:List (List AV)} (hp:plain cs=some es.flatten) (hlen:es.length=n) (hsz:∀ c∈es,c.length=size) :
  ∃ G',Ext B w G w G'∧HRel B w G' (H.set id .dead)∧∀ v,ARel w G v (.ov id n)→DRel w G'.L v (.sl es .none):=by
 have hlt:id<G.μ.length:=by rw[h.len];exact (List.getElem?_eq_some_iff.1 hH).1
 obtain⟨gi,hgi⟩:∃ gi,G.μ[id]?=some gi:=⟨_,List.getElem?_eq_getElem hlt⟩
 have hok:=h.ok id _ _ hH hgi
 cases gi with
 | gap=>exact hok.elim
 | blk b=>exact hok.elim
 | own v0 s0 n0=>
  obtain⟨rfl,rfl,⟨xs,hown,hcs⟩,hL0⟩:=hok
  have hown2:=hown
  obtain⟨hl,hrow⟩:=hown2
  rcases hrow with ⟨h1,h2⟩ | ⟨g,cap,cur,h1,hB,hw,hcap,hcm,hcz,htk⟩
  ·subst h1
   refine⟨G,Ext.refl _ _ _,⟨by simp[h.len],?_,h.dist,h.fresh,h.lt,h.base⟩,?_⟩
   ·intro id' ab gi k1 k2
    by_cases hid:id'=id
    ·subst hid
     rw[List.getElem?_set_self (List.getElem?_eq_some_iff.1 hH).1]at k1
     cases k1
     rw[hgi]at k2
     cases k2
     exact fun b hb=>by simp[Value.ownBlock]at hb
    ·rw[List.getElem?_set_ne (fun h=>hid h.symm)]at k1
     exact h.ok id' ab gi k1 k2
   ·intro v hv
    obtain⟨⟨a,cap0,rfl,_⟩,v',s',n',hμ,_,heq⟩:=hv
    have hes:es=[]:=List.eq_nil_of_length_eq_zero (by omega)
    subst hes
    subst hlen
    exact .slE _ _
  ·subst h1
   have hLg:G.L g=0:=hL0 g rfl
   have he:Ext B w G w ⟨fun x=>if x=g then cur.size else G.L x,G.μ⟩:=
    ⟨Nat.le_refl _,Below.refl _ _,fun x=>by by_cases hx:x=g <;> simp[hx,hLg],fun _ _ _=>rfl,fun _ gi h=>⟨gi,h,gi.le_refl⟩⟩
   refine⟨_,he,⟨by simp[h.len],?_,h.dist,fun x hx=>?_,h.lt,h.base⟩,?_⟩
   ·intro id' ab gi k1 k2
    by_cases hid:id'=id
    ·subst hid
     rw[List.getElem?_set_self (List.getElem?_eq_some_iff.1 hH).1]at k1
     cases k1
     have k2:G.μ[id']?=some gi:=k2
     rw[hgi]at k2
     cases k2
     intro b hb
     simp[Value.ownBlock]at hb
     subst hb
     exact⟨cur,e,_,hw,by simp⟩
    ·rw[List.getElem?_set_ne (fun h=>hid h.symm)]at k1
     refine (h.ok id' ab gi k1 k2).keep he (fun x hx=>⟨rfl,?_⟩)
     have:¬ x=g:=fun hxb=>hid (h.dist id' id gi _ g k2 hgi (by rw[hx,hxb]) rfl)
     simp[this]
   ·have:=h.lt id _ g hgi rfl
    have h3:¬ x=g:=by omega
    simp[h3,h.fresh x hx]
   ·intro v hv
    obtain⟨⟨a,cap0,rfl,_⟩,v',s',n',hμ,_,heq⟩:=hv
    rw[hgi]at hμ
    simp only[Option.some.injEq,GI.own.injEq]at hμ
    obtain⟨rfl,rfl,rfl⟩:=hμ
    have hvv:=heq rfl
    simp only[Value.slice.injEq,true_and]at hvv
    obtain⟨rfl,rfl⟩:=hvv
    subst hlen
    by_cases hes:es=[]
    ·subst hes;exact .slE _ _
    ·obtain⟨_,_,_,hcell⟩:=zdg hown
     refine DRel.of_flat_at (zs:=xs) hsz hes hcap ?_ ((zdh hcs hp).mono fun _ _=>he.drel) ?_
     ·simp only[if_true]
      rw[hcz,Nat.zero_add]
      exact Nat.mul_le_mul_right _ hcap
     ·intro j u hj
      rw[Nat.zero_add,hcell j (by rw[←hl];exact (List.getElem?_eq_some_iff.1 hj).1)]
      exact hj
theorem ACalls.frzV {f:FuncId} {x:AV} {K:Kt} (id e size n:Nat) (cs:List AV) (es:List (List AV)) (hH:H[id]?=some (.vec e size n cs)) (hp:plain cs=some es.flatten) (hlen:es.length=n) (hsz:∀ c∈es,c.length=size)
  (h:ACalls P f [.agg [x,.sl es .none]] (H.set id .dead) K):ACalls P f [.agg [x,.ov id n]] H K:=by
 intro B w G vs hR hv
 obtain⟨G',hE,hR',hd⟩:=hR.frzV hH hp hlen hsz
 refine (h B w G' vs hR' ?_).mono fun e w' ⟨v,r,H',G'',k1,k2,k3,k4,k5⟩=>⟨v,r,H',G'',k1,hE.trans k2,k3,k4,k5⟩
 generalize vs.toList=l at *
 match l,hv with
 | [v],⟨⟨us,hu,h1⟩,_⟩=>
  refine⟨⟨us,hu,?_⟩,trivial⟩
  generalize us.toList=m at *
  match m,h1 with
  | [a,b],⟨h2,h3,_⟩=>exact⟨hE.arel h2,hd b h3,trivial⟩
end Go.Abs
namespace Go.Proofs.YtdmamdnkcefmmaaGreatDoor
open Go Go.Abs
def zEK (r:List IT):List AV:=(IT.css r).flatten
def CellR (H:zaa) (lo id:Nat) (c:AV) (r:List IT):Prop:=
 (r=[]∧c=.sl [] .none)∨(r≠[]∧∃ b,c=.ov b r.length∧lo≤b∧b≠id∧H[b]?=some (.vec zbJ 2 r.length (zEK r)))
theorem CellR.keep {H H':zaa} {lo id lo' id':Nat} {c:AV} {r:List IT} (h:CellR H lo id c r) (hlo:lo'≤lo) (hid:∀ b,lo≤b→b≠id→b<H.length→b≠id'∧H'[b]?=H[b]?):CellR H' lo' id' c r:=by
 rcases h with h | ⟨h0,b,rfl,h1,h2,h3⟩
 ·exact .inl h
 ·have:=hid b h1 h2 (List.getElem?_eq_some_iff.1 h3).1
  exact .inr ⟨h0,b,rfl,by omega,this.1,by rw[this.2];exact h3⟩
theorem CellR.sc {H:zaa} {lo id:Nat} {c:AV} {r:List IT} (h:CellR H lo id c r):c.scA H.length=true∧c.known=true:=by
 rcases h with ⟨_,rfl⟩ | ⟨h0,b,rfl,h1,h2,h3⟩
 ·exact⟨rfl,rfl⟩
 ·have:=(List.getElem?_eq_some_iff.1 h3).1
  exact⟨by simpa[AV.scA,AV.scB]using this,rfl⟩
theorem RowA.pre {H X:zaa} {a:AV} {n:Nat} {ds:List AV} (h:RowA H a n ds) (hp:H <+: X):RowA X a n ds:=by
 obtain⟨J,rfl⟩:=hp
 exact h.app
theorem zGV (data:List Dat) (hk:zbG data) (t:VT) (ht:t.nodes≤1000) (c:Int) (H:zaa) (K:Kt) (hK:K (zcr (za6 data t c)) H) :
  ACalls tP znV [.sl (data.map Dat.cs) .none,.agg t.cs,.int .i64 c] H K:=by
 refine ACalls.out (zGT fun hs=>?_)
 obtain⟨f1,f2,f3⟩:=zeZ hk
 obtain⟨k,n,ks⟩:=t
 simp[zxC,VT.cs,Nat.add_assoc]
 refine ztc data f1 f2 f3 (.mk k n ks) ht c _ _ ?_
 cases hf:zbe data (.mk k n ks) c with
 | none=>
  rw[zvR hf]at hK
  simp[zcr]
  refine⟨⟨rfl,rfl⟩,?_⟩
  exact Out.tup (bs:=[.sl [] .none,.bool false]) hs hK ⟨zdy,za3 rfl rfl,trivial⟩
 | some l=>
  obtain⟨bs,hlb,hl8,hpay,h200,k5,_,hrec⟩:=zvS hk hf
  rw[hpay]at hK
  simp[zcr]
  refine zJz data hk k n ks ht c hf hlb hl8 hrec _ _ ?_
  simp[zhe]
  unfold zjO
  refine ALoop.own 13 zaV 3 rfl ?_
  have hl1:(H++[AB.cells [AV.int IntKind.i64 k,AV.int IntKind.i64 n,AV.sl (VT.css ks) Tok.none]]).length=H.length+1:=by simp
  rw[hl1]
  have hpp:=zvT hlb (.mk 0 0 []) l.length (Nat.le_refl _)
  rw[List.take_length,hlb,List.take_length]at hpp
  rw[hpp]at hK
  have hpt:∀ j∈pos false bs bs.length,j<l.length:=fun j hj=>by have:=zEy hj;omega
  have hp8:=zo1 false bs bs.length
  generalize pos false bs bs.length=P at *
  show zjO (.sl (VT.css l) .none) (.sl [] (.own (H.length+1))) (.sl (zbP P) .none) (.int .i64 P.length) (.int .i64 0) (H++[.cells [.int .i64 k,.int .i64 n,.sl (VT.css ks) .none]]++[.perm zaV 3 0]) (Out H.length K)
  have hperm:∀ m,HSc (H++[.cells [.int .i64 k,.int .i64 n,.sl (VT.css ks) .none],.perm zaV 3 m]):=fun m=>hs.append (by simp[AB.sc,AV.scA,AV.scB])
  refine zGR (Inv:=fun q t13 t35 H'=>∃ i:Nat,i≤P.length∧q=P.length-i∧t35=.int .i64 i∧t13=.sl (VT.css ((P.take i).map fun j=>l.getD j (.mk 0 0 []))) (.own (H.length+1))∧H'=H++[.cells [.int .i64 k,.int .i64 n,.sl (VT.css ks) .none],.perm zaV 3 i]) P.length ?_ ?_
  ·intro _;exact⟨0,by omega,by omega,rfl,by simp[VT.css],by simp⟩
  ·rintro q t13 t35 H' ⟨i,hi,rfl,rfl,rfl,rfl⟩ hsc' hlen hsF Kb hKb
   by_cases hlt:i<P.length
   ·have hj:=hpt _ (List.getElem_mem hlt)
    simp[zpP,zhe,zD0,hlt,hj]
    rw[zeU]
    simp[zaw,zaK,zaG,Nat.min_eq_left hi]
    refine⟨⟨by omega,by omega⟩,?_⟩
    rw[zat (by omega) (by omega)]
    have hst:VT.css (List.take i (List.map (fun j=>l[j]?.getD (VT.mk 0 0 [])) P))++[(l[P[i]]'hj).cs]=VT.css ((P.take (i+1)).map fun j=>l.getD j (.mk 0 0 [])):=by
     rw[List.take_succ_eq_append_getElem hlt,VT.css_map,VT.css_map,List.map_append,List.map_append,List.map_take]
     simp[List.getD_eq_getElem?_getD,hj]
    rw[hst]
    refine hKb _ _ ⟨P.length-(i+1),by omega,Back.at (J:=[]) (H2:=H++[.cells [.int .i64 k,.int .i64 n,.sl (VT.css ks) .none],.perm zaV 3 (i+1)]) (by simp) (by simp) (hperm _) ?_ ⟨_,_,rfl,i+1,by omega,rfl,by simp,rfl,rfl⟩⟩
    simp[zjN,AV.sc,AV.scV,AV.scA,AV.scB]
   ·obtain rfl:i=P.length:=by omega
    rw[List.take_length]at *
    simp[zpP,zhe]
    refine⟨⟨rfl,rfl⟩,?_⟩
    exact Out.tup (bs:=[.sl (VT.css (P.map fun j=>l.getD j (.mk 0 0 []))) .none,.bool true]) hs hK ⟨slV,za3 rfl rfl,trivial⟩
theorem it2 (v:IT):∃ a b,v.cs=[a,b]∧a.known=true∧b.known=true:=by
 obtain⟨n,ks⟩:=v;exact⟨_,_,rfl,rfl,rfl⟩
theorem zu9 {data:List Dat} (h8:∀ D∈data,D.cons.length≤8) (v:IT) (t:VT) (h:(zcc data v t).2=true):0≤(zcc data v t).1∧(zcc data v t).1≤6:=by
 obtain⟨e1,e2,e3⟩:=(zgs h8 v t).1 h
 omega
theorem zu8 {data:List Dat} (h8:∀ D∈data,D.cons.length≤8):∀ (vs:List IT) (ts:List VT) (a:Int),0≤a→0≤(zbO data vs ts a).1∧(zbO data vs ts a).1≤a+6*vs.length
 | [],ts,a,h=>by simp[zbO];omega
 | v::vs,[],a,h=>by simp[zbO];omega
 | v::vs,t::ts,a,h=>by
  simp only[zbO]
  split
  ·rename_i hb
   have:=zu9 h8 v t hb
   have:=zu8 h8 vs ts (a+(zcc data v t).1) (by omega)
   simp only[List.length_cons]
   omega
  ·simp;omega
theorem zhi {x:VT}:∀ {l:List VT} {bs:List Bool},x∈pick l bs→x∈l
 | [],_,h=>by simp[pick]at h
 | _::_,[],h=>by simp[pick]at h
 | c::l,b::bs,h=>by
  cases b with
  | true=>simp[pick]at h;exact List.mem_cons_of_mem _ (zhi h)
  | false=>
   simp[pick]at h
   rcases h with rfl | h
   ·exact List.mem_cons_self
   ·exact List.mem_cons_of_mem _ (zhi h)
theorem zvQ {data:List Dat} {t:VT} {c:Int} {ps:List VT} (h:za6 data t c=some ps):∀ x∈ps,x.nodes≤1000:=by
 unfold za6 at h
 obtain⟨k,n,ks⟩:=t
 cases hf:zbe data (.mk k n ks) c with
 | none=>rw[hf]at h;cases h
 | some l=>
  rw[hf]at h
  obtain⟨_,_,_,_,_,_,_,h2⟩:=zgF hf
  simp at h
  subst h
  exact fun x hx=>by have:=h2 x (zhi hx);omega
theorem zDJ (data:List Dat) (n:Int) (ks:List IT) (tk tn:Int) (tks:List VT):zcc data (.mk n ks) (.mk tk tn tks) =
  if tk=6 then (if n=0 then (if tks.length=ks.length then zbO data ks tks 0 else (0,false)) else (0,false))
  else if tk=7 then (n,decide (0≤n) && decide (n≤6) && decide (ks.length=0))
  else if tk=5 then (if n=0 then zcL data ks (.mk tk tn tks) 0 else (0,false))
  else (0,decide (n=0) && decide (ks.length=0)):=by
 rw[zcc]
 rfl
def zcF (data:List Dat) (vs:List IT) (ts:List VT):Int × Bool:=if ts.length=vs.length then zbO data vs ts 0 else (0,false)
def zh2 (data:List Dat) (v:IT):Prop:=∀ t:VT,t.nodes≤1000→∀ (H:zaa) (K:Kt),K (.tup [.int .i64 (zcc data v t).1,.bool (zcc data v t).2]) H→ACalls tP ziW [.sl (data.map Dat.cs) .none,.agg t.cs,.agg v.cs] H K
theorem zcS {H:zaa} {K:Kt} {a:Int} {b:Bool} (hs:HSc H) (h:K (.tup [.int .i64 a,.bool b]) H) (J:zaa):Out H.length K (.tup [.int .i64 a,.bool b]) (H++J):=Out.tup hs h ⟨za3 rfl rfl,za3 rfl rfl,trivial⟩
theorem zx0 {data:List Dat} (h8:∀ D∈data,D.cons.length≤8) (vs:List IT) (hv:vs.length≤1000) (hel:∀ v∈vs,zh2 data v) (ts:List VT) (ht:∀ t∈ts,t.nodes≤1000) (H:zaa) (K:Kt)
  (hK:K (.tup [.int .i64 (zcF data vs ts).1,.bool (zcF data vs ts).2]) H):ACalls tP zip [.sl (data.map Dat.cs) .none,.sl (VT.css ts) .none,.sl (IT.css vs) .none] H K:=by
 refine ACalls.out (zH0 fun hs=>?_)
 have h0:∀ b J,zcF data vs ts=(0,b)→Out H.length K (.tup [.int .i64 0,.bool b]) (H++J):=fun b J h=>by rw[h]at hK;exact zcS hs hK J
 by_cases hl:ts.length=vs.length
 case neg=>
  have:((ts.length:Int) != (vs.length:Int))=true:=by simp[bne];omega
  simp[zp8,this]
  refine⟨⟨rfl,rfl⟩,?_⟩
  simpa using h0 false [] (by simp[zcF,hl])
 have htot:zcF data vs ts=zbO data vs ts 0:=by simp[zcF,hl]
 rw[htot]at hK h0
 simp[zp8,hl]
 refine zHY (Inv:=fun q t8 t20 H'=>∃ (i:Nat) (a:Int),i≤vs.length∧q=vs.length-i∧t20=.int .i64 i∧t8=.int .i64 a∧0≤a∧a≤6*i∧zbO data (vs.drop i) (ts.drop i) a=zbO data vs ts 0∧H'=H) vs.length ?_ ?_
 ·intro _;exact⟨0,0,by omega,by omega,rfl,rfl,by omega,by omega,by simp,rfl⟩
 ·rintro q t8 t20 H' ⟨i,a,hi,rfl,rfl,rfl,ha0,ha6,ho,rfl⟩ hsc' hlen hsF Kb hKb
  by_cases hlt:i<vs.length
  ·have hlt':i<ts.length:=by omega
   rw[List.drop_eq_getElem_cons hlt,List.drop_eq_getElem_cons hlt']at ho
   simp only[zbO]at ho
   obtain⟨x,y,z,hvx,hx,hy,hz⟩:=zbt ts[i]
   obtain⟨x2,y2,hvx2,hx2,hy2⟩:=it2 vs[i]
   have hti:=ht _ (List.getElem_mem hlt')
   have hvi:=hel _ (List.getElem_mem hlt)
   simp[zp9,hl,hlt,hlt',hvx,hvx2,Nat.add_assoc]
   refine⟨⟨hx,hy,hz⟩,?_⟩
   rw[←hvx,←hvx2]
   refine zaE (.tup [.int .i64 (zcc data vs[i] ts[i]).1,.bool (zcc data vs[i] ts[i]).2]) (fun J=>hvi _ hti _ _ ⟨rfl,rfl⟩) ?_
   cases hb:(zcc data vs[i] ts[i]).2 with
   | false=>
    rw[hb]at ho
    simp at ho
    simp
    exact⟨⟨rfl,rfl⟩,h0 _ _ ho.symm⟩
   | true=>
    rw[hb]at ho
    simp at ho
    have hbd:=zu9 h8 _ _ hb
    simp
    rw[zat (by omega) (by omega),zat (by omega) (by omega)]
    refine hKb _ _ ⟨vs.length-(i+1),by omega,Back.at (J:=[_]) rfl (Nat.le_refl _) hs ?_ ⟨_,_,rfl,i+1,_,by omega,rfl,by simp,rfl,by omega,by simp;omega,ho,rfl⟩⟩
    simp[zj7,AV.sc,AV.scV,AV.scA,AV.scB]
  ·obtain rfl:i=vs.length:=by omega
   rw[List.drop_length]at ho
   simp only[zbO]at ho
   rw[←ho]at hK
   simp[zp9,hl]
   refine⟨⟨rfl,rfl⟩,?_⟩
   have:=zcS hs hK []
   simpa using this
theorem zQZ {data:List Dat} (hk:zbG data) (h8:∀ D∈data,D.cons.length≤8):∀ (m:Nat) (v:IT),v.nodes≤m→v.nodes≤900→zh2 data v:=by
 intro m
 induction m with
 | zero=>intro v h;have:=v.nodes_pos;omega
 | succ m ih=>
  intro v hv hb t ht H K hK
  obtain⟨n,ks⟩:=v
  obtain⟨tk,tn,tks⟩:=t
  have hnl:IT.nodesL ks+1≤900:=by simpa[IT.nodes]using hb
  have hll:=IT.len_le ks
  have hkids:∀ v∈ks,zh2 data v:=fun v hvm=>by
   obtain⟨i,hi,rfl⟩:=List.getElem_of_mem hvm
   have:=IT.kid_lt (n:=n) hi
   exact ih _ (by omega) (by omega)
  refine ACalls.out (zQX fun hs=>?_)
  rw[zDJ]at hK
  by_cases h6:tk=6
  ·subst h6
   by_cases hn:n=0
   ·subst hn
    simp[zdo,VT.cs,IT.cs,Nat.add_assoc]
    have htk:∀ t∈tks,t.nodes≤1000:=fun t htm=>by
     obtain⟨i,hi,rfl⟩:=List.getElem_of_mem htm
     have:=VT.kid_lt (k:=6) (n:=tn) hi
     omega
    refine zx0 h8 ks (by omega) hkids tks htk _ _ ?_
    simp
    refine⟨⟨rfl,rfl⟩,?_⟩
    exact zcS hs (by simpa[zcF]using hK) _
   ·have:(n != 0)=true:=by simp[bne,hn]
    simp[zdo,VT.cs,IT.cs,Nat.add_assoc,this]
    simp[hn]at hK
    exact⟨⟨rfl,rfl⟩,zcS hs hK _⟩
  have h6':(tk == 6)=false:=by simp[h6]
  rw[if_neg h6]at hK
  by_cases h7:tk=7
  ·subst h7
   simp only[if_true]at hK
   by_cases g1:0≤n
   ·by_cases g2:n≤6
    ·by_cases g3:ks.length=0
     ·simp[zdo,VT.cs,IT.cs,Nat.add_assoc,g1,g2,g3]
      simp[g1,g2,g3]at hK
      exact⟨⟨rfl,rfl⟩,zcS hs hK _⟩
     ·have g3':((ks.length:Int) == 0)=false:=by simp;exact fun h=>g3 (by simp[h])
      simp[zdo,VT.cs,IT.cs,Nat.add_assoc,g1,g2,g3,g3']
      simp[g1,g2,g3]at hK
      exact⟨⟨rfl,rfl⟩,zcS hs hK _⟩
    ·simp[zdo,VT.cs,IT.cs,Nat.add_assoc,g1,g2]
     simp[g1,g2]at hK
     exact⟨⟨rfl,rfl⟩,zcS hs hK _⟩
   ·simp[zdo,VT.cs,IT.cs,Nat.add_assoc,g1]
    simp[g1]at hK
    exact⟨⟨rfl,rfl⟩,zcS hs hK _⟩
  have h7':(tk == 7)=false:=by simp[h7]
  rw[if_neg h7]at hK
  by_cases h5:tk=5
  case neg=>
   have h5':(tk == 5)=false:=by simp[h5]
   rw[if_neg h5]at hK
   by_cases g1:n=0
   ·by_cases g2:ks.length=0
    ·simp[zdo,VT.cs,IT.cs,Nat.add_assoc,h6',h7',h5',g1,g2,zad]
     simp[g1,g2]at hK
     exact⟨⟨rfl,rfl⟩,zcS hs hK _⟩
    ·have g2':((ks.length:Int) == 0)=false:=by simp;exact fun h=>g2 (by simp[h])
     simp[zdo,VT.cs,IT.cs,Nat.add_assoc,h6',h7',h5',g1,g2,g2',zad]
     simp[g1,g2]at hK
     exact⟨⟨rfl,rfl⟩,zcS hs hK _⟩
   ·have g1':(n == 0)=false:=by simp[g1]
    simp[zdo,VT.cs,IT.cs,Nat.add_assoc,h6',h7',h5',g1,g1',zad]
    simp[g1]at hK
    exact⟨⟨rfl,rfl⟩,zcS hs hK _⟩
  subst h5
  simp only[if_true]at hK
  by_cases hn:n=0
  case neg=>
   have:(n != 0)=true:=by simp[bne,hn]
   simp[zdo,VT.cs,IT.cs,Nat.add_assoc,this]
   simp[hn]at hK
   exact⟨⟨rfl,rfl⟩,zcS hs hK _⟩
  subst hn
  simp only[if_true]at hK
  simp[zdo,VT.cs,IT.cs,Nat.add_assoc]
  have hT:(VT.mk 5 tn tks).nodes≤1000:=ht
  have hT':(VT.mk 5 tn tks).cs=[.int .i64 5,.int .i64 tn,.sl (VT.css tks) .none]:=rfl
  generalize hTg:VT.mk 5 tn tks=T at *
  have hsc2:HSc (H++[.cells [.int .i64 5,.int .i64 tn,.sl (VT.css tks) .none],.cells [.int .i64 0,.sl (IT.css ks) .none]]):=hs.append (by simp[AB.sc,AV.scA,AV.scB])
  have hF:zcL data ks T 0=(0,false)→∀ J,Out H.length K (.tup [.int .i64 0,.bool false]) (H++J):=fun h J=>zcS hs (by rw[h]at hK;exact hK) J
  refine zQV (Inv:=fun q t8 t55 H'=>∃ (i:Nat) (a:Int),i≤ks.length∧q=ks.length-i∧t55=.int .i64 i∧t8=.int .i64 a∧0≤a∧a≤6∧zcL data (ks.drop i) T a=zcL data ks T 0 ∧
   H'=H++[.cells [.int .i64 5,.int .i64 tn,.sl (VT.css tks) .none],.cells [.int .i64 0,.sl (IT.css ks) .none]]) ks.length ?_ ?_
  ·intro _;exact⟨0,0,by omega,by omega,rfl,rfl,by omega,by omega,by simp,rfl⟩
  ·rintro q t8 t55 H' ⟨i,a,hi,rfl,rfl,rfl,ha0,ha6,ho,rfl⟩ hsc' hlen hsF Kb hKb
   by_cases hlt:i<ks.length
   ·rw[List.drop_eq_getElem_cons hlt]at ho
    have hkn:=IT.kid_lt (n:=0) hlt
    obtain⟨c,es,hx⟩:∃ c es,ks[i]=IT.mk c es:=by cases h:ks[i] with | mk a b=>exact⟨a,b,rfl⟩
    rw[hx]at ho hkn
    have hesl:=IT.len_le es
    have hen:IT.nodesL es+1≤900:=by
     have:(IT.mk c es).nodes=IT.nodesL es+1:=by simp[IT.nodes]
     have:(IT.mk 0 ks).nodes=IT.nodesL ks+1:=by simp[IT.nodes]
     omega
    have hes:∀ v∈es,zh2 data v:=fun v hvm=>by
     obtain⟨j,hj,rfl⟩:=List.getElem_of_mem hvm
     have:=IT.kid_lt (n:=c) hj
     exact ih _ (by omega) (by omega)
    simp only[zcL]at ho
    simp[zsG,hlt,hx,IT.cs,Nat.add_assoc]
    rw[←hT']
    refine zH8 data hk T hT c _ _ ?_
    cases hp:za6 data T c with
    | none=>
     rw[hp]at ho
     simp only at ho
     simp[zcr]
     exact⟨⟨rfl,rfl⟩,hF ho.symm _⟩
    | some ps=>
     rw[hp]at ho
     simp only at ho
     simp[zcr]
     have hpn:∀ t∈ps,t.nodes≤1000:=zvQ hp
     refine zx0 h8 es (by omega) hes ps hpn _ _ ?_
     have htb:0≤(zcF data es ps).1∧(zcF data es ps).1≤6*es.length:=by
      unfold zcF
      split
      ·have:=zu8 h8 es ps 0 (by omega);omega
      ·simp;omega
     have ho':(if (zcF data es ps).2 && decide (a+(1+(zcF data es ps).1)≤6) then zcL data (ks.drop (i+1)) T (a+(1+(zcF data es ps).1)) else (0,false))=zcL data ks T 0:=by
      rw[←ho]
      unfold zcF
      by_cases hl:ps.length=es.length
      ·simp only[hl,if_true]
      ·simp only[hl,if_false];rfl
     generalize zcF data es ps=w at *
     obtain⟨w1,w2⟩:=w
     simp only at htb ho'
     simp
     have q1:IntKind.i64.wrap (1+w1)=1+w1:=zat (by omega) (by omega)
     have q2:IntKind.i64.wrap (a+(1+w1))=a+(1+w1):=zat (by omega) (by omega)
     rw[q1,q2]
     cases w2 with
     | false=>
      simp at ho' ⊢
      exact⟨⟨rfl,rfl⟩,hF ho'.symm _⟩
     | true=>
      by_cases hh:a+(1+w1)≤6
      ·have hh':¬ (6:Int)<a+(1+w1):=by omega
       simp[hh]at ho'
       simp[hh']
       rw[zat (by omega) (by omega)]
       refine hKb _ _ ⟨ks.length-(i+1),by omega,Back.at (J:=[.cells [.int .i64 c,.sl (IT.css es) .none]]) (H2:=H++[.cells [.int .i64 5,.int .i64 tn,.sl (VT.css tks) .none],.cells [.int .i64 0,.sl (IT.css ks) .none]]) (by simp[hT']) (by simp) hsc2 ?_ ⟨_,_,rfl,i+1,_,by omega,rfl,by simp,rfl,by omega,by omega,ho',rfl⟩⟩
       simp[zmx,AV.sc,AV.scV,AV.scA,AV.scB]
      ·have hh':(6:Int)<a+(1+w1):=by omega
       simp[hh]at ho'
       simp[hh']
       exact⟨⟨rfl,rfl⟩,hF ho'.symm _⟩
   ·obtain rfl:i=ks.length:=by omega
    rw[List.drop_length]at ho
    simp only[zcL]at ho
    rw[←ho]at hK
    simp[zsG]
    exact⟨⟨rfl,rfl⟩,zcS hs hK _⟩
theorem zv5 (data:List Dat) (n:Int) (ks:List IT) (tk tn:Int) (tks:List VT):rdV data (.mk n ks) (.mk tk tn tks) =
  if tk=6 then (if n=0 then (if tks.length=ks.length then rdA data ks tks 0 else -1) else -1)
  else if tk=7 then (if 0≤n∧n≤6∧ks.length=0 then n else -1)
  else if tk=5 then (if n=0∧ks.length≤6 then rdE data ks (.mk tk tn tks) 0 else -1)
  else (if n=0∧ks.length=0 then 0 else -1):=by
 rw[rdV]
 rfl
theorem ztK {m:Int × Bool} {r:Int} (h:agr m r):-1≤r∧r≤6:=by
 obtain⟨h1,h2⟩:=h
 cases hb:m.2 with
 | true=>have:=h1 hb;omega
 | false=>have:=h2 hb;omega
def zcE (data:List Dat) (vs:List IT) (ts:List VT):Int:=if ts.length=vs.length then rdA data vs ts 0 else -1
theorem zGm {data:List Dat} (h8:∀ D∈data,D.cons.length≤8) (vs:List IT) (ts:List VT):-1≤zcE data vs ts∧zcE data vs ts≤6:=by
 unfold zcE
 split
 ·exact ztK ((zh8 h8 vs ts 0 (by omega)).1 (by omega))
 ·omega
def zhY (data:List Dat) (v:IT):Prop:=∀ t:VT,t.nodes≤1000→∀ (H:zaa) (K:Kt),K (.int .i64 (rdV data v t)) H→ACalls tP ziV [.sl (data.map Dat.cs) .none,.agg t.cs,.agg v.cs] H K
theorem zxN {data:List Dat} (h8:∀ D∈data,D.cons.length≤8) (vs:List IT) (hv:vs.length≤1000) (hel:∀ v∈vs,zhY data v) (ts:List VT) (ht:∀ t∈ts,t.nodes≤1000) (H:zaa) (K:Kt)
  (hK:K (.int .i64 (zcE data vs ts)) H):ACalls tP zio [.sl (data.map Dat.cs) .none,.sl (VT.css ts) .none,.sl (IT.css vs) .none] H K:=by
 refine ACalls.out (zHw fun hs=>?_)
 have hO:∀ r J,zcE data vs ts=r→Out H.length K (.int .i64 r) (H++J):=fun r J h=>by subst h;exact Out.int rfl (Nat.le_refl _) hs hK
 have hO0:∀ r,zcE data vs ts=r→Out H.length K (.int .i64 r) H:=fun r h=>by simpa using hO r [] h
 by_cases hl:ts.length=vs.length
 case neg=>
  have:((ts.length:Int) != (vs.length:Int))=true:=by simp[bne];omega
  simp[zpZ,this]
  exact hO0 _ (by simp[zcE,hl])
 have htot:zcE data vs ts=rdA data vs ts 0:=by simp[zcE,hl]
 simp[zpZ,hl]
 refine zHu (Inv:=fun q t7 t17 H'=>∃ (i:Nat) (a:Int),i≤vs.length∧q=vs.length-i∧t17=.int .i64 i∧t7=.int .i64 a∧0≤a∧a≤6∧rdA data (vs.drop i) (ts.drop i) a=zcE data vs ts∧H'=H) vs.length ?_ ?_
 ·intro _;exact⟨0,0,by omega,by omega,rfl,rfl,by omega,by omega,by simp[htot],rfl⟩
 ·rintro q t7 t17 H' ⟨i,a,hi,rfl,rfl,rfl,ha0,ha6,ho,rfl⟩ hsc' hlen hsF Kb hKb
  by_cases hlt:i<vs.length
  ·have hlt':i<ts.length:=by omega
   rw[List.drop_eq_getElem_cons hlt,List.drop_eq_getElem_cons hlt']at ho
   simp only[rdA]at ho
   have hti:=ht _ (List.getElem_mem hlt')
   have hvi:=hel _ (List.getElem_mem hlt)
   have hbd:=ztK (zgs h8 vs[i] ts[i])
   simp[zp0,hl,hlt,hlt',Nat.add_assoc]
   refine zaE (.int .i64 (rdV data vs[i] ts[i])) (fun J=>hvi _ hti _ _ ⟨rfl,rfl⟩) ?_
   generalize rdV data vs[i] ts[i]=r at *
   by_cases hr:r<0
   ·rw[if_pos (.inl hr)]at ho
    simp[hr]
    exact hO0 _ ho.symm
   ·have q1:IntKind.i64.wrap (a+r)=a+r:=zat (by omega) (by omega)
    by_cases h6:a+r>6
    ·rw[if_pos (.inr h6)]at ho
     simp[hr,q1,h6]
     exact hO0 _ ho.symm
    ·rw[if_neg (by omega)]at ho
     simp[hr,q1,h6]
     rw[zat (by omega) (by omega)]
     refine hKb _ _ ⟨vs.length-(i+1),by omega,Back.at (J:=[]) (by simp) (Nat.le_refl _) hs ?_ ⟨_,_,rfl,i+1,_,by omega,rfl,by simp,rfl,by omega,by omega,ho,rfl⟩⟩
     simp[zj3,AV.sc,AV.scV,AV.scA,AV.scB]
  ·obtain rfl:i=vs.length:=by omega
   rw[List.drop_length]at ho
   simp only[rdA]at ho
   simp[zp0,hl]
   exact hO0 _ ho.symm
end Go.Proofs.YtdmamdnkcefmmaaGreatDoor
