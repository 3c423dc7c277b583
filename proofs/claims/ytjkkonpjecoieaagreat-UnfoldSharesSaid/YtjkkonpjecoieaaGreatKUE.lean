import Derived.Test.YtjkkonpjecoieaaGreatKUA
import Derived.Test.YtjkkonpjecoieaaGreatAbsO3
set_option linter.unusedSimpArgs false
set_option linter.unusedVariables false
namespace Go.Proofs.YtjkkonpjecoieaaGreat
open Go Go.Abs
set_option maxRecDepth 8000
def za6 (r:List IT):List AV:=(IT.css r).flatten
theorem zeo (x:IT) (r:List IT):za6 (x::r)=x.cs++za6 r:=by simp[za6,IT.css_map]
theorem zd4:∀ r:List IT,(za6 r).length=r.length*2
 | []=>rfl
 | x::r=>by rw[zeo,List.length_append,IT.cs_len,zd4 r,List.length_cons];omega
theorem zqd (r:List IT):(za6 r).all AV.known=true:=by
 induction r with
 | nil=>rfl
 | cons x r ih=>rw[zeo,List.all_append,ih];simp
theorem zxg (n:Nat) (r:List IT):(za6 r).all (AV.scA n)=true:=by
 induction r with
 | nil=>rfl
 | cons x r ih=>rw[zeo,List.all_append,ih];simp
theorem zh2:∀ (r:List IT) (p:Nat) (x:IT),p<r.length→(za6 r).take (p*2)++x.cs++(za6 r).drop (p*2+2)=za6 (r.set p x)
 | [],p,x,h=>by simp at h
 | y::r,0,x,h=>by
  rw[zeo,List.set_cons_zero,zeo]
  obtain⟨a,b,hy,_,_⟩:=zb2 y
  simp[hy]
 | y::r,p+1,x,h=>by
  have ih:=zh2 r p x (by simpa using h)
  rw[zeo,List.set_cons_succ,zeo,←ih]
  obtain⟨a,b,hy,_,_⟩:=zb2 y
  rw[show (p+1)*2=p*2+2 by omega,hy]
  simp
def CellR (H:zaa) (lo id:Nat) (c:AV) (r:List IT):Prop:=
 (r=[]∧c=.sl [] .none)∨(r≠[]∧∃ b,c=.ov b r.length∧lo≤b∧b≠id∧H[b]?=some (.vec zbl 2 r.length (za6 r)))
def RowsH (H:zaa) (lo id:Nat) (rows:List (List IT)):Prop:=
 lo≤id∧∃ cs,H[id]?=some (.vec zb0 1 rows.length cs)∧All2 (CellR H lo id) cs rows
theorem CellR.keep {H H':zaa} {lo id lo' id':Nat} {c:AV} {r:List IT} (h:CellR H lo id c r) (hlo:lo'≤lo) (hid:∀ b,lo≤b→b≠id→b<H.length→b≠id'∧H'[b]?=H[b]?):CellR H' lo' id' c r:=by
 rcases h with h | ⟨h0,b,rfl,h1,h2,h3⟩
 ·exact .inl h
 ·have:=hid b h1 h2 (List.getElem?_eq_some_iff.1 h3).1
  exact .inr ⟨h0,b,rfl,by omega,this.1,by rw[this.2];exact h3⟩
theorem CellR.sc {H:zaa} {lo id:Nat} {c:AV} {r:List IT} (h:CellR H lo id c r):c.scA H.length=true∧c.known=true:=by
 rcases h with ⟨_,rfl⟩ | ⟨h0,b,rfl,h1,h2,h3⟩
 ·exact⟨rfl,rfl⟩
 ·have:=(List.getElem?_eq_some_iff.1 h3).1
  exact⟨by simpa[AV.scA,AV.scB]using this,rfl⟩
theorem zg9 {H:zaa} {lo id:Nat}:∀ {cs:List AV} {rows:List (List IT)},All2 (CellR H lo id) cs rows→cs.all (AV.scA H.length)=true∧cs.all AV.known=true
 | [],[],_=>⟨rfl,rfl⟩
 | c::cs,r::rows,h=>by
  obtain⟨h1,h2⟩:=zg9 h.2
  obtain⟨h3,h4⟩:=h.1.sc
  simp only[List.all_cons,h1,h2,h3,h4,Bool.and_self,and_self]
theorem zox (ps:List Nat) (row l:List IT):(zbo row ps l).length≤(l.length+1) ^ ps.length:=by
 rw[zhe,List.length_map]
 exact zxs _ _
theorem zDW (row l:List IT) (p:Nat) (ps:List Nat):zbo row (p::ps) l=(List.range (l.length+1)).flatMap fun n=>zbo (row.set p (.mk 0 (l.take n))) ps (l.drop n):=rfl
def upR (row l:List IT) (p:Nat) (ps:List Nat) (i:Nat):List (List IT):=(List.range i).flatMap fun n=>zbo (row.set p (.mk 0 (l.take n))) ps (l.drop n)
theorem zkt (row l:List IT) (p:Nat) (ps:List Nat) (i:Nat):upR row l p ps (i+1)=upR row l p ps i++zbo (row.set p (.mk 0 (l.take i))) ps (l.drop i):=by
 simp[upR,List.range_succ]
theorem zGX (row l:List IT) (p:Nat) (ps:List Nat) (i:Nat):(upR row l p ps i).length≤i*(l.length+1) ^ ps.length:=by
 refine Nat.le_trans (zoI (N:=(l.length+1) ^ ps.length) _ _ fun n _=>?_) (by simp)
 exact Nat.le_trans (zox _ _ _) (Nat.pow_le_pow_left (by simp) _)
theorem zj6 {H X:zaa} {i:Nat} {b:AB} (h:H <+: X) (hi:H.length≤i):H <+: X.set i b:=by
 obtain⟨J,rfl⟩:=h
 rw[List.set_append_right _ _ hi]
 exact⟨_,rfl⟩
theorem zhZ {H X:zaa} {i:Nat} (h:H <+: X) (hi:i<H.length):X[i]?=H[i]?:=by
 obtain⟨J,rfl⟩:=h
 exact List.getElem?_append_left hi
theorem RowA.pre {H X:zaa} {a:AV} {n:Nat} {ds:List AV} (h:RowA H a n ds) (hp:H <+: X):RowA X a n ds:=by
 obtain⟨J,rfl⟩:=hp
 exact h.app
theorem zuP {e s b id id2 n m e2:Nat} {cs cs2:List AV} {H:zaa} {K:Kt} (h1:H[id]?=some (.vec e s n cs)) (h2:H[id2]?=some (.vec e2 s m cs2)) (hk:cs2.all AV.known=true) (hl:cs2.length=m*s) (hb1:(n+m)*b≤140737488355328) (hb2:n+m≤9223372036854775807)
  (h:K (.ov id (n+m)) (H.set id (.vec e s (n+m) (cs++cs2)))):zax e s b (.ov id n) (.ov id2 m) H K:=by
 simp only[zax,zcC,h1,h2,and_self,true_and]
 exact⟨⟨hk,hl,hb1,hb2⟩,h⟩
theorem zto:∀ (ps:List Nat) (H:zaa) (a:AV) (row els:List IT) (K:Kt),RowA H a row.length (za6 row)→(∀ p∈ps,p<row.length)→row.length≤1000→els.length≤1000→ps.length≤1000→(els.length+1) ^ ps.length≤100000000 →
  (∀ id H',H <+: H'→HSc H'→RowsH H' H.length id (zbo row ps els)→K (.ov id (zbo row ps els).length) H') →
  ACalls tP zfu [a,.sl (zaN ps) .none,.sl (IT.css els) .none] H K
 | [],H,a,row,els,K,hr,hps,hrl,hel,hpl,hb,hK=>by
  refine ACalls.vecRes zb0 1 (ACalls.withSc ?_)
  refine zBI fun hs=>?_
  cases els with
  | cons x els=>
   simp[zmF,zaN]
   intro _
   left
   have:=hK H.length (H++[.vec zb0 1 0 []]) ⟨_,rfl⟩ (hs.append (by simp[AB.sc])) ⟨Nat.le_refl _,[],by simp[zbo],by simp[zbo];trivial⟩
   simpa[zbo]using this
  | nil=>
   simp[zmF,zaN,IT.css]
   refine zxF hr (by omega) _ (fun h0=>?_) (fun h0=>?_)
   ·have hrow:row=[]:=by cases row <;> simp_all
    subst hrow
    simp[zfZ,AV.oneK]
    intro hsc
    have:=hK H.length (H++[.vec zb0 1 1 [.sl [] .none]]) ⟨_,rfl⟩ hsc ⟨Nat.le_refl _,[.sl [] .none],by simp[zbo],⟨.inl ⟨rfl,rfl⟩,trivial⟩⟩
    simpa[zbo]using this
   ·simp[zfZ,AV.oneK]
    intro hsc
    have hne:row≠[]:=by rintro rfl;simp at h0
    have:=hK (H.length+1) (H++[.vec zbl 2 row.length (za6 row),.vec zb0 1 1 [.ov H.length row.length]]) ⟨_,rfl⟩ (by simpa using hsc) ⟨by omega,[.ov H.length row.length],by simp[zbo],
     ⟨.inr ⟨hne,H.length,rfl,Nat.le_refl _,by omega,by simp⟩,trivial⟩⟩
    simpa[zbo]using this
 | p::ps,H,a,row,els,K,hr,hps,hrl,hel,hpl,hb,hK=>by
  refine zBI fun hs=>?_
  have hp:=hps p (by simp)
  have hpow:(els.length+1) ^ (ps.length+1)=(els.length+1) ^ ps.length*(els.length+1):=Nat.pow_succ _ _
  have hb1:(els.length+1) ^ ps.length*(els.length+1)≤100000000:=by rw[←hpow];simpa using hb
  have hb2:(els.length+1) ^ ps.length≤100000000:=Nat.le_trans (Nat.le_mul_of_pos_right _ (by omega)) hb1
  have hnl:((ps.length+1:Nat):Int)≠0:=by omega
  have hn0:((zaN (p::ps)).length == 0)=false:=by simp[zaN]
  simp[zmF,zcE]
  rw[zau (by omega) (by omega)]
  unfold zmI
  refine ALoop.vec 7 zb0 1 rfl ?_
  show zmI a (.sl (zaN (p::ps)) .none) (.sl (IT.css els) .none) (.ov H.length 0) (.int .i64 ((els.length:Int)+1)) (.int .i64 0) (H++[.vec zb0 1 0 []]) K
  refine zPT (Inv:=fun q t7 t22 H'=>∃ i:Nat,i≤els.length+1∧q=els.length+1-i∧t22=.int .i64 i∧t7=.ov H.length (upR row els p ps i).length∧H <+: H'∧RowsH H' H.length H.length (upR row els p ps i)) (els.length+1) ?_ ?_
  ·intro _;exact⟨0,by omega,by omega,rfl,by simp[upR],⟨_,rfl⟩,Nat.le_refl _,[],by simp[upR],by simp[upR];trivial⟩
  ·rintro q t7 t22 H' ⟨i,hi,rfl,rfl,rfl,hpre,hlo,cs,hcs,hcells⟩ hsc hlen hsF Kb hKb
   by_cases hlt:i<els.length+1
   ·have hHl:H.length<H'.length:=(List.getElem?_eq_some_iff.1 hcs).1
    have hlt':((i:Int)<(els.length:Int)+1):=by omega
    simp[ztk,hlt']
    refine zxF (hr.pre hpre) (by omega) _ (fun h0=>by omega) (fun h0=>?_)
    have hn0:0<row.length:=by omega
    have hti:(i:Int)≤els.length:=by omega
    simp[zaN,zaz,zaV]
    refine⟨⟨by omega,by simp[IT.css_map]⟩,hp,by rw[zd4];omega,?_⟩
    have htk:List.take i (IT.css els)=IT.css (els.take i):=by rw[IT.css_map,IT.css_map,List.map_take]
    have hset:=zh2 row p (.mk 0 (els.take i)) hp
    rw[htk]
    simp only[IT.cs,List.append_assoc,List.cons_append,List.nil_append]at hset
    rw[hset]
    have hda:IT.css (els.drop i)=List.drop i (IT.css els):=by rw[IT.css_map,IT.css_map,List.map_drop]
    have hcall:ACalls tP zfu [.ov H'.length row.length,.sl (zaN ps) .none,.sl (IT.css (els.drop i)) .none] (H'++[.vec zbl 2 row.length (za6 (row.set p (.mk 0 (els.take i))))]) (fun t43 H2=>zax zb0 1 24 (.ov H.length (upR row els p ps i).length) t43 H2 fun t44 H3=>t44=.ov H.length (upR row els p ps (i+1)).length∧H <+: H3∧HSc H3∧RowsH H3 H.length H.length (upR row els p ps (i+1))):=by
     refine zto ps _ _ (row.set p (.mk 0 (els.take i))) (els.drop i) _ ⟨by rw[zd4],zqd _,.inr ⟨by simpa using hn0,H'.length,zbl,by simp,by simp⟩⟩ (fun q hq=>by simpa using hps q (by simp[hq])) (by simpa using hrl) (by simp;omega) (by simp at hpl;omega)
      (Nat.le_trans (Nat.pow_le_pow_left (by simp) _) hb2) ?_
     rintro id H2 hp2 hsc2 ⟨hlo2,cs2,hcs2,hcells2⟩
     have hH1:H' <+: H2:=List.IsPrefix.trans ⟨_,rfl⟩ hp2
     have hget:H2[H.length]?=some (.vec zb0 1 (upR row els p ps i).length cs):=by rw[zhZ hH1 hHl];exact hcs
     have hlt2:=(List.getElem?_eq_some_iff.1 hcs2).1
     have hne:id≠H.length:=by simp at hlo2;omega
     have hm1:=zGX row els p ps (i+1)
     rw[zkt,List.length_append]at hm1
     have hm2:(i+1)*(els.length+1) ^ ps.length≤100000000:=Nat.le_trans (Nat.mul_le_mul_right _ (by omega:i+1≤els.length+1)) (by rw[Nat.mul_comm];exact hb1)
     have hl2:=hcells2.length
     have hk2:=zg9 hcells2
     have hx1:All2 (CellR H2 H.length H.length) cs (upR row els p ps i):=hcells.mono fun c r hc=>hc.keep (Nat.le_refl _) fun b _ hb hb2=>⟨hb,zhZ hH1 hb2⟩
     have hlg:=(List.getElem?_eq_some_iff.1 hget).1
     refine zuP hget hcs2 hk2.2 (by rw[hl2];simp) (by omega) (by omega) ?_
     refine⟨by rw[zkt,List.length_append],zj6 (List.IsPrefix.trans hpre hH1) (Nat.le_refl _),hsc2.set ?_,Nat.le_refl _,cs++cs2,?_,?_⟩
     ·simp only[AB.sc,List.all_append,hk2.1,(zg9 hx1).1,Bool.and_self]
     ·rw[List.getElem?_set_self hlg,zkt,List.length_append]
     ·rw[zkt]
      have hkp:∀ b,b<H2.length→b≠H.length→(H2.set H.length (.vec zb0 1 ((upR row els p ps i).length+(zbo (row.set p (.mk 0 (els.take i))) ps (els.drop i)).length) (cs++cs2)))[b]?=H2[b]?:=fun b _ hb=>List.getElem?_set_ne (fun h=>hb h.symm)
      refine (hx1.mono fun c r hc=>hc.keep (Nat.le_refl _) fun b _ hb hb2=>⟨hb,hkp b hb2 hb⟩).append (hcells2.mono fun c r hc=>hc.keep (by simp;omega) fun b hb1 hb hb2=>?_)
      have:b≠H.length:=by simp at hb1;omega
      exact⟨this,hkp b hb2 this⟩
    have hasc:∀ n,H.length≤n→a.sc n=true:=fun n hn=>by
     obtain⟨_,_,h⟩:=hr
     rcases h with ⟨id,rfl,h⟩ | ⟨_,id,e,rfl,h⟩
     ·have:=(List.getElem?_eq_some_iff.1 h).1
      simp[AV.sc,AV.scV,AV.scA,AV.scB];omega
     ·have:=(List.getElem?_eq_some_iff.1 h).1
      simp[AV.sc,AV.scV,AV.scA,AV.scB];omega
    have hfin:∀ H3,H <+: H3→HSc H3→RowsH H3 H.length H.length (upR row els p ps (i+1))→ztm a (.sl (zaN (p::ps)) .none) (.sl (IT.css els) .none) (.ov H.length (upR row els p ps (i+1)).length) (.int .i64 ((els.length:Int)+1)) (.int .i64 i) H3 K Kb:=by
     intro H3 g1 g2 g3
     have hl3:=(List.getElem?_eq_some_iff.1 g3.2.choose_spec.1).1
     simp[ztm]
     rw[zau (by omega) (by omega)]
     refine hKb _ _ ⟨els.length+1-(i+1),by omega,Back.at (J:=[]) (H2:=H3) (by simp) (by simp;omega) g2 ?_ ⟨_,_,rfl,i+1,by omega,rfl,by simp,rfl,g1,g3⟩⟩
     simp[zmH,AV.sc,AV.scV,AV.scA,AV.scB,hl3]
     exact hasc _ (by omega)
    refine zFA zPW ?_
    rw[zPV]
    have hl1:List.take ps.length (List.map (fun n:Nat=>[AV.int .i64 (n:Int)]) ps)=zaN ps:=by rw[List.take_of_length_le (by simp)];rfl
    have hl2:List.take els.length (IT.css els)=IT.css els:=List.take_of_length_le (by simp)
    simp[hl1,hl2,←hda]
    refine⟨⟨by omega,by simp[IT.css_map]⟩,?_⟩
    refine ACalls.monoZ hcall fun t43 H2 h=>zuO (fun t44 H3 h3=>?_) h
    obtain⟨rfl,h1,h2,h3⟩:=h3
    exact zPS fun _=>hfin _ h1 h2 h3
   ·obtain rfl:i=els.length+1:=by omega
    have hlt':¬ ((els.length:Int)+1<(els.length:Int)+1):=by omega
    simp[ztk]
    exact hK H.length H' hpre hsc ⟨Nat.le_refl _,cs,hcs,hcells⟩
theorem zuE (data:List Dat) (hk:za2 data) (t:VT) (ht:t.nodes≤1000) (c:Int) (H:zaa) (K:Kt) (hK:K (zb1 (za8 data t c)) H) :
  ACalls tP zhT [.sl (data.map Dat.cs) .none,.agg t.cs,.int .i64 c] H K:=by
 refine ACalls.out (zTK fun hs=>?_)
 obtain⟨f1,f2,f3⟩:=zdG hk
 obtain⟨k,n,ks⟩:=t
 simp[zCS,VT.cs,Nat.add_assoc]
 refine zlX data f1 f2 f3 (.mk k n ks) ht c _ _ ?_
 cases hf:zaU data (.mk k n ks) c with
 | none=>
  rw[zwQ hf]at hK
  simp[zb1]
  refine⟨⟨rfl,rfl⟩,?_⟩
  exact Out.tup (bs:=[.sl [] .none,.bool false]) hs hK ⟨zer,za4 rfl rfl,trivial⟩
 | some l=>
  obtain⟨bs,hlb,hl8,hpay,h200,k5,_,hrec⟩:=zp0 hk hf
  rw[hpay]at hK
  simp[zb1]
  refine zzm data hk k n ks ht c hf hlb hl8 hrec _ _ ?_
  simp[zcE]
  unfold zn0
  refine ALoop.own 13 za9 3 rfl ?_
  have hl1:(H++[AB.cells [AV.int IntKind.i64 k,AV.int IntKind.i64 n,AV.sl (VT.css ks) Tok.none]]).length=H.length+1:=by simp
  rw[hl1]
  have hpp:=zdz hlb (.mk 0 0 []) l.length (Nat.le_refl _)
  rw[List.take_length,hlb,List.take_length]at hpp
  rw[hpp]at hK
  have hpt:∀ j∈pos false bs bs.length,j<l.length:=fun j hj=>by have:=zd1 hj;omega
  have hp8:=zem false bs bs.length
  generalize pos false bs bs.length=P at *
  show zn0 (.sl (VT.css l) .none) (.sl [] (.own (H.length+1))) (.sl (zaN P) .none) (.int .i64 P.length) (.int .i64 0) (H++[.cells [.int .i64 k,.int .i64 n,.sl (VT.css ks) .none]]++[.perm za9 3 0]) (Out H.length K)
  have hperm:∀ m,HSc (H++[.cells [.int .i64 k,.int .i64 n,.sl (VT.css ks) .none],.perm za9 3 m]):=fun m=>hs.append (by simp[AB.sc,AV.scA,AV.scB])
  refine zTI (Inv:=fun q t13 t35 H'=>∃ i:Nat,i≤P.length∧q=P.length-i∧t35=.int .i64 i∧t13=.sl (VT.css ((P.take i).map fun j=>l.getD j (.mk 0 0 []))) (.own (H.length+1))∧H'=H++[.cells [.int .i64 k,.int .i64 n,.sl (VT.css ks) .none],.perm za9 3 i]) P.length ?_ ?_
  ·intro _;exact⟨0,by omega,by omega,rfl,by simp[VT.css],by simp⟩
  ·rintro q t13 t35 H' ⟨i,hi,rfl,rfl,rfl,rfl⟩ hsc' hlen hsF Kb hKb
   by_cases hlt:i<P.length
   ·have hj:=hpt _ (List.getElem_mem hlt)
    simp[zuC,zcE,zjV,hlt,hj]
    rw[zeh]
    simp[zax,zaY,zaM,Nat.min_eq_left hi]
    refine⟨⟨by omega,by omega⟩,?_⟩
    rw[zau (by omega) (by omega)]
    have hst:VT.css (List.take i (List.map (fun j=>l[j]?.getD (VT.mk 0 0 [])) P))++[(l[P[i]]'hj).cs]=VT.css ((P.take (i+1)).map fun j=>l.getD j (.mk 0 0 [])):=by
     rw[List.take_succ_eq_append_getElem hlt,VT.css_map,VT.css_map,List.map_append,List.map_append,List.map_take]
     simp[List.getD_eq_getElem?_getD,hj]
    rw[hst]
    refine hKb _ _ ⟨P.length-(i+1),by omega,Back.at (J:=[]) (H2:=H++[.cells [.int .i64 k,.int .i64 n,.sl (VT.css ks) .none],.perm za9 3 (i+1)]) (by simp) (by simp) (hperm _) ?_ ⟨_,_,rfl,i+1,by omega,rfl,by simp,rfl,rfl⟩⟩
    simp[znZ,AV.sc,AV.scV,AV.scA,AV.scB]
   ·obtain rfl:i=P.length:=by omega
    rw[List.take_length]at *
    simp[zuC,zcE]
    refine⟨⟨rfl,rfl⟩,?_⟩
    exact Out.tup (bs:=[.sl (VT.css (P.map fun j=>l.getD j (.mk 0 0 []))) .none,.bool true]) hs hK ⟨slV,za4 rfl rfl,trivial⟩
theorem it2 (v:IT):∃ a b,v.cs=[a,b]∧a.known=true∧b.known=true:=by
 obtain⟨n,ks⟩:=v;exact⟨_,_,rfl,rfl,rfl⟩
theorem zwm {data:List Dat} (h8:∀ D∈data,D.cons.length≤8) (v:IT) (t:VT) (h:(zco data v t).2=true):0≤(zco data v t).1∧(zco data v t).1≤6:=by
 obtain⟨e1,e2,e3⟩:=(zg0 h8 v t).1 h
 omega
theorem zwl {data:List Dat} (h8:∀ D∈data,D.cons.length≤8):∀ (vs:List IT) (ts:List VT) (a:Int),0≤a→0≤(zbS data vs ts a).1∧(zbS data vs ts a).1≤a+6*vs.length
 | [],ts,a,h=>by simp[zbS];omega
 | v::vs,[],a,h=>by simp[zbS];omega
 | v::vs,t::ts,a,h=>by
  simp only[zbS]
  split
  ·rename_i hb
   have:=zwm h8 v t hb
   have:=zwl h8 vs ts (a+(zco data v t).1) (by omega)
   simp only[List.length_cons]
   omega
  ·simp;omega
theorem zeS {x:VT}:∀ {l:List VT} {bs:List Bool},x∈pick l bs→x∈l
 | [],_,h=>by simp[pick]at h
 | _::_,[],h=>by simp[pick]at h
 | c::l,b::bs,h=>by
  cases b with
  | true=>simp[pick]at h;exact List.mem_cons_of_mem _ (zeS h)
  | false=>
   simp[pick]at h
   rcases h with rfl | h
   ·exact List.mem_cons_self
   ·exact List.mem_cons_of_mem _ (zeS h)
theorem zwP {data:List Dat} {t:VT} {c:Int} {ps:List VT} (h:za8 data t c=some ps):∀ x∈ps,x.nodes≤1000:=by
 unfold za8 at h
 obtain⟨k,n,ks⟩:=t
 cases hf:zaU data (.mk k n ks) c with
 | none=>rw[hf]at h;cases h
 | some l=>
  rw[hf]at h
  obtain⟨_,_,_,_,_,_,_,h2⟩:=zf9 hf
  simp at h
  subst h
  exact fun x hx=>by have:=h2 x (zeS hx);omega
theorem zEy (data:List Dat) (n:Int) (ks:List IT) (tk tn:Int) (tks:List VT):zco data (.mk n ks) (.mk tk tn tks) =
  if tk=6 then (if n=0 then (if tks.length=ks.length then zbS data ks tks 0 else (0,false)) else (0,false))
  else if tk=7 then (n,decide (0≤n) && decide (n≤6) && decide (ks.length=0))
  else if tk=5 then (if n=0 then zcM data ks (.mk tk tn tks) 0 else (0,false))
  else (0,decide (n=0) && decide (ks.length=0)):=by
 rw[zco]
 rfl
def zcS (data:List Dat) (vs:List IT) (ts:List VT):Int × Bool:=if ts.length=vs.length then zbS data vs ts 0 else (0,false)
def ziJ (data:List Dat) (v:IT):Prop:=∀ t:VT,t.nodes≤1000→∀ (H:zaa) (K:Kt),K (.tup [.int .i64 (zco data v t).1,.bool (zco data v t).2]) H→ACalls tP zji [.sl (data.map Dat.cs) .none,.agg t.cs,.agg v.cs] H K
theorem zc3 {H:zaa} {K:Kt} {a:Int} {b:Bool} (hs:HSc H) (h:K (.tup [.int .i64 a,.bool b]) H) (J:zaa):Out H.length K (.tup [.int .i64 a,.bool b]) (H++J):=Out.tup hs h ⟨za4 rfl rfl,za4 rfl rfl,trivial⟩
theorem zAs {data:List Dat} (h8:∀ D∈data,D.cons.length≤8) (vs:List IT) (hv:vs.length≤1000) (hel:∀ v∈vs,ziJ data v) (ts:List VT) (ht:∀ t∈ts,t.nodes≤1000) (H:zaa) (K:Kt)
  (hK:K (.tup [.int .i64 (zcS data vs ts).1,.bool (zcS data vs ts).2]) H):ACalls tP zjq [.sl (data.map Dat.cs) .none,.sl (VT.css ts) .none,.sl (IT.css vs) .none] H K:=by
 refine ACalls.out (zMm fun hs=>?_)
 have h0:∀ b J,zcS data vs ts=(0,b)→Out H.length K (.tup [.int .i64 0,.bool b]) (H++J):=fun b J h=>by rw[h]at hK;exact zc3 hs hK J
 by_cases hl:ts.length=vs.length
 case neg=>
  have:((ts.length:Int) != (vs.length:Int))=true:=by simp[bne];omega
  simp[zsm,this]
  refine⟨⟨rfl,rfl⟩,?_⟩
  simpa using h0 false [] (by simp[zcS,hl])
 have htot:zcS data vs ts=zbS data vs ts 0:=by simp[zcS,hl]
 rw[htot]at hK h0
 simp[zsm,hl]
 refine zMk (Inv:=fun q t8 t20 H'=>∃ (i:Nat) (a:Int),i≤vs.length∧q=vs.length-i∧t20=.int .i64 i∧t8=.int .i64 a∧0≤a∧a≤6*i∧zbS data (vs.drop i) (ts.drop i) a=zbS data vs ts 0∧H'=H) vs.length ?_ ?_
 ·intro _;exact⟨0,0,by omega,by omega,rfl,rfl,by omega,by omega,by simp,rfl⟩
 ·rintro q t8 t20 H' ⟨i,a,hi,rfl,rfl,rfl,ha0,ha6,ho,rfl⟩ hsc' hlen hsF Kb hKb
  by_cases hlt:i<vs.length
  ·have hlt':i<ts.length:=by omega
   rw[List.drop_eq_getElem_cons hlt,List.drop_eq_getElem_cons hlt']at ho
   simp only[zbS]at ho
   obtain⟨x,y,z,hvx,hx,hy,hz⟩:=zaO ts[i]
   obtain⟨x2,y2,hvx2,hx2,hy2⟩:=it2 vs[i]
   have hti:=ht _ (List.getElem_mem hlt')
   have hvi:=hel _ (List.getElem_mem hlt)
   simp[zsn,hl,hlt,hlt',hvx,hvx2,Nat.add_assoc]
   refine⟨⟨hx,hy,hz⟩,?_⟩
   rw[←hvx,←hvx2]
   refine zaH (.tup [.int .i64 (zco data vs[i] ts[i]).1,.bool (zco data vs[i] ts[i]).2]) (fun J=>hvi _ hti _ _ ⟨rfl,rfl⟩) ?_
   cases hb:(zco data vs[i] ts[i]).2 with
   | false=>
    rw[hb]at ho
    simp at ho
    simp
    exact⟨⟨rfl,rfl⟩,h0 _ _ ho.symm⟩
   | true=>
    rw[hb]at ho
    simp at ho
    have hbd:=zwm h8 _ _ hb
    simp
    rw[zau (by omega) (by omega),zau (by omega) (by omega)]
    refine hKb _ _ ⟨vs.length-(i+1),by omega,Back.at (J:=[_]) rfl (Nat.le_refl _) hs ?_ ⟨_,_,rfl,i+1,_,by omega,rfl,by simp,rfl,by omega,by simp;omega,ho,rfl⟩⟩
    simp[zlP,AV.sc,AV.scV,AV.scA,AV.scB]
  ·obtain rfl:i=vs.length:=by omega
   rw[List.drop_length]at ho
   simp only[zbS]at ho
   rw[←ho]at hK
   simp[zsn,hl]
   refine⟨⟨rfl,rfl⟩,?_⟩
   have:=zc3 hs hK []
   simpa using this
theorem zJl {data:List Dat} (hk:za2 data) (h8:∀ D∈data,D.cons.length≤8):∀ (m:Nat) (v:IT),v.nodes≤m→v.nodes≤900→ziJ data v:=by
 intro m
 induction m with
 | zero=>intro v h;have:=v.nodes_pos;omega
 | succ m ih=>
  intro v hv hb t ht H K hK
  obtain⟨n,ks⟩:=v
  obtain⟨tk,tn,tks⟩:=t
  have hnl:IT.nodesL ks+1≤900:=by simpa[IT.nodes]using hb
  have hll:=IT.len_le ks
  have hkids:∀ v∈ks,ziJ data v:=fun v hvm=>by
   obtain⟨i,hi,rfl⟩:=List.getElem_of_mem hvm
   have:=IT.kid_lt (n:=n) hi
   exact ih _ (by omega) (by omega)
  refine ACalls.out (zJj fun hs=>?_)
  rw[zEy]at hK
  by_cases h6:tk=6
  ·subst h6
   by_cases hn:n=0
   ·subst hn
    simp[zdC,VT.cs,IT.cs,Nat.add_assoc]
    have htk:∀ t∈tks,t.nodes≤1000:=fun t htm=>by
     obtain⟨i,hi,rfl⟩:=List.getElem_of_mem htm
     have:=VT.kid_lt (k:=6) (n:=tn) hi
     omega
    refine zAs h8 ks (by omega) hkids tks htk _ _ ?_
    simp
    refine⟨⟨rfl,rfl⟩,?_⟩
    exact zc3 hs (by simpa[zcS]using hK) _
   ·have:(n != 0)=true:=by simp[bne,hn]
    simp[zdC,VT.cs,IT.cs,Nat.add_assoc,this]
    simp[hn]at hK
    exact⟨⟨rfl,rfl⟩,zc3 hs hK _⟩
  have h6':(tk == 6)=false:=by simp[h6]
  rw[if_neg h6]at hK
  by_cases h7:tk=7
  ·subst h7
   simp only[if_true]at hK
   by_cases g1:0≤n
   ·by_cases g2:n≤6
    ·by_cases g3:ks.length=0
     ·simp[zdC,VT.cs,IT.cs,Nat.add_assoc,g1,g2,g3]
      simp[g1,g2,g3]at hK
      exact⟨⟨rfl,rfl⟩,zc3 hs hK _⟩
     ·have g3':((ks.length:Int) == 0)=false:=by simp;exact fun h=>g3 (by simp[h])
      simp[zdC,VT.cs,IT.cs,Nat.add_assoc,g1,g2,g3,g3']
      simp[g1,g2,g3]at hK
      exact⟨⟨rfl,rfl⟩,zc3 hs hK _⟩
    ·simp[zdC,VT.cs,IT.cs,Nat.add_assoc,g1,g2]
     simp[g1,g2]at hK
     exact⟨⟨rfl,rfl⟩,zc3 hs hK _⟩
   ·simp[zdC,VT.cs,IT.cs,Nat.add_assoc,g1]
    simp[g1]at hK
    exact⟨⟨rfl,rfl⟩,zc3 hs hK _⟩
  have h7':(tk == 7)=false:=by simp[h7]
  rw[if_neg h7]at hK
  by_cases h5:tk=5
  case neg=>
   have h5':(tk == 5)=false:=by simp[h5]
   rw[if_neg h5]at hK
   by_cases g1:n=0
   ·by_cases g2:ks.length=0
    ·simp[zdC,VT.cs,IT.cs,Nat.add_assoc,h6',h7',h5',g1,g2,zad]
     simp[g1,g2]at hK
     exact⟨⟨rfl,rfl⟩,zc3 hs hK _⟩
    ·have g2':((ks.length:Int) == 0)=false:=by simp;exact fun h=>g2 (by simp[h])
     simp[zdC,VT.cs,IT.cs,Nat.add_assoc,h6',h7',h5',g1,g2,g2',zad]
     simp[g1,g2]at hK
     exact⟨⟨rfl,rfl⟩,zc3 hs hK _⟩
   ·have g1':(n == 0)=false:=by simp[g1]
    simp[zdC,VT.cs,IT.cs,Nat.add_assoc,h6',h7',h5',g1,g1',zad]
    simp[g1]at hK
    exact⟨⟨rfl,rfl⟩,zc3 hs hK _⟩
  subst h5
  simp only[if_true]at hK
  by_cases hn:n=0
  case neg=>
   have:(n != 0)=true:=by simp[bne,hn]
   simp[zdC,VT.cs,IT.cs,Nat.add_assoc,this]
   simp[hn]at hK
   exact⟨⟨rfl,rfl⟩,zc3 hs hK _⟩
  subst hn
  simp only[if_true]at hK
  simp[zdC,VT.cs,IT.cs,Nat.add_assoc]
  have hT:(VT.mk 5 tn tks).nodes≤1000:=ht
  have hT':(VT.mk 5 tn tks).cs=[.int .i64 5,.int .i64 tn,.sl (VT.css tks) .none]:=rfl
  generalize hTg:VT.mk 5 tn tks=T at *
  have hsc2:HSc (H++[.cells [.int .i64 5,.int .i64 tn,.sl (VT.css tks) .none],.cells [.int .i64 0,.sl (IT.css ks) .none]]):=hs.append (by simp[AB.sc,AV.scA,AV.scB])
  have hF:zcM data ks T 0=(0,false)→∀ J,Out H.length K (.tup [.int .i64 0,.bool false]) (H++J):=fun h J=>zc3 hs (by rw[h]at hK;exact hK) J
  refine zJh (Inv:=fun q t8 t55 H'=>∃ (i:Nat) (a:Int),i≤ks.length∧q=ks.length-i∧t55=.int .i64 i∧t8=.int .i64 a∧0≤a∧a≤6∧zcM data (ks.drop i) T a=zcM data ks T 0 ∧
   H'=H++[.cells [.int .i64 5,.int .i64 tn,.sl (VT.css tks) .none],.cells [.int .i64 0,.sl (IT.css ks) .none]]) ks.length ?_ ?_
  ·intro _;exact⟨0,0,by omega,by omega,rfl,rfl,by omega,by omega,by simp,rfl⟩
  ·rintro q t8 t55 H' ⟨i,a,hi,rfl,rfl,rfl,ha0,ha6,ho,rfl⟩ hsc' hlen hsF Kb hKb
   by_cases hlt:i<ks.length
   ·rw[List.drop_eq_getElem_cons hlt]at ho
    have hkn:=IT.kid_lt (n:=0) hlt
    obtain⟨c,es,hx⟩:∃ c es,ks[i]=IT.mk c es:=by cases h:ks[i] with | mk a b=>exact⟨a,b,rfl⟩
    rw[hx]at ho hkn
    have hesl:=IT.len_le es
    have hen:IT.nodesL es+1≤900:=by
     have:(IT.mk c es).nodes=IT.nodesL es+1:=by simp[IT.nodes]
     have:(IT.mk 0 ks).nodes=IT.nodesL ks+1:=by simp[IT.nodes]
     omega
    have hes:∀ v∈es,ziJ data v:=fun v hvm=>by
     obtain⟨j,hj,rfl⟩:=List.getElem_of_mem hvm
     have:=IT.kid_lt (n:=c) hj
     exact ih _ (by omega) (by omega)
    simp only[zcM]at ho
    simp[zrw,hlt,hx,IT.cs,Nat.add_assoc]
    rw[←hT']
    refine zMu data hk T hT c _ _ ?_
    cases hp:za8 data T c with
    | none=>
     rw[hp]at ho
     simp only at ho
     simp[zb1]
     exact⟨⟨rfl,rfl⟩,hF ho.symm _⟩
    | some ps=>
     rw[hp]at ho
     simp only at ho
     simp[zb1]
     have hpn:∀ t∈ps,t.nodes≤1000:=zwP hp
     refine zAs h8 es (by omega) hes ps hpn _ _ ?_
     have htb:0≤(zcS data es ps).1∧(zcS data es ps).1≤6*es.length:=by
      unfold zcS
      split
      ·have:=zwl h8 es ps 0 (by omega);omega
      ·simp;omega
     have ho':(if (zcS data es ps).2 && decide (a+(1+(zcS data es ps).1)≤6) then zcM data (ks.drop (i+1)) T (a+(1+(zcS data es ps).1)) else (0,false))=zcM data ks T 0:=by
      rw[←ho]
      unfold zcS
      by_cases hl:ps.length=es.length
      ·simp only[hl,if_true]
      ·simp only[hl,if_false];rfl
     generalize zcS data es ps=w at *
     obtain⟨w1,w2⟩:=w
     simp only at htb ho'
     simp
     have q1:IntKind.i64.wrap (1+w1)=1+w1:=zau (by omega) (by omega)
     have q2:IntKind.i64.wrap (a+(1+w1))=a+(1+w1):=zau (by omega) (by omega)
     rw[q1,q2]
     cases w2 with
     | false=>
      simp at ho' ⊢
      exact⟨⟨rfl,rfl⟩,hF ho'.symm _⟩
     | true=>
      by_cases hh:a+(1+w1)≤6
      ·have hh':¬ (6:Int)<a+(1+w1):=by omega
       simp[hh]at ho'
       simp[hh']
       rw[zau (by omega) (by omega)]
       refine hKb _ _ ⟨ks.length-(i+1),by omega,Back.at (J:=[.cells [.int .i64 c,.sl (IT.css es) .none]]) (H2:=H++[.cells [.int .i64 5,.int .i64 tn,.sl (VT.css tks) .none],.cells [.int .i64 0,.sl (IT.css ks) .none]]) (by simp[hT']) (by simp) hsc2 ?_ ⟨_,_,rfl,i+1,_,by omega,rfl,by simp,rfl,by omega,by omega,ho',rfl⟩⟩
       simp[zk9,AV.sc,AV.scV,AV.scA,AV.scB]
      ·have hh':(6:Int)<a+(1+w1):=by omega
       simp[hh]at ho'
       simp[hh']
       exact⟨⟨rfl,rfl⟩,hF ho'.symm _⟩
   ·obtain rfl:i=ks.length:=by omega
    rw[List.drop_length]at ho
    simp only[zcM]at ho
    rw[←ho]at hK
    simp[zrw]
    exact⟨⟨rfl,rfl⟩,zc3 hs hK _⟩
theorem zFj (data:List Dat) (n:Int) (ks:List IT) (tk tn:Int) (tks:List VT):rdV data (.mk n ks) (.mk tk tn tks) =
  if tk=6 then (if n=0 then (if tks.length=ks.length then rdA data ks tks 0 else -1) else -1)
  else if tk=7 then (if 0≤n∧n≤6∧ks.length=0 then n else -1)
  else if tk=5 then (if n=0∧ks.length≤6 then rdE data ks (.mk tk tn tks) 0 else -1)
  else (if n=0∧ks.length=0 then 0 else -1):=by
 rw[rdV]
 rfl
theorem zu5 {m:Int × Bool} {r:Int} (h:agr m r):-1≤r∧r≤6:=by
 obtain⟨h1,h2⟩:=h
 cases hb:m.2 with
 | true=>have:=h1 hb;omega
 | false=>have:=h2 hb;omega
def zcR (data:List Dat) (vs:List IT) (ts:List VT):Int:=if ts.length=vs.length then rdA data vs ts 0 else -1
theorem zGS {data:List Dat} (h8:∀ D∈data,D.cons.length≤8) (vs:List IT) (ts:List VT):-1≤zcR data vs ts∧zcR data vs ts≤6:=by
 unfold zcR
 split
 ·exact zu5 ((ziP h8 vs ts 0 (by omega)).1 (by omega))
 ·omega
def ziF (data:List Dat) (v:IT):Prop:=∀ t:VT,t.nodes≤1000→∀ (H:zaa) (K:Kt),K (.int .i64 (rdV data v t)) H→ACalls tP zhQ [.sl (data.map Dat.cs) .none,.agg t.cs,.agg v.cs] H K
theorem zzb {data:List Dat} (h8:∀ D∈data,D.cons.length≤8) (vs:List IT) (hv:vs.length≤1000) (hel:∀ v∈vs,ziF data v) (ts:List VT) (ht:∀ t∈ts,t.nodes≤1000) (H:zaa) (K:Kt)
  (hK:K (.int .i64 (zcR data vs ts)) H):ACalls tP zjh [.sl (data.map Dat.cs) .none,.sl (VT.css ts) .none,.sl (IT.css vs) .none] H K:=by
 refine ACalls.out (zJd fun hs=>?_)
 have hO:∀ r J,zcR data vs ts=r→Out H.length K (.int .i64 r) (H++J):=fun r J h=>by subst h;exact Out.int rfl (Nat.le_refl _) hs hK
 have hO0:∀ r,zcR data vs ts=r→Out H.length K (.int .i64 r) H:=fun r h=>by simpa using hO r [] h
 by_cases hl:ts.length=vs.length
 case neg=>
  have:((ts.length:Int) != (vs.length:Int))=true:=by simp[bne];omega
  simp[zrt,this]
  exact hO0 _ (by simp[zcR,hl])
 have htot:zcR data vs ts=rdA data vs ts 0:=by simp[zcR,hl]
 simp[zrt,hl]
 refine zJb (Inv:=fun q t7 t17 H'=>∃ (i:Nat) (a:Int),i≤vs.length∧q=vs.length-i∧t17=.int .i64 i∧t7=.int .i64 a∧0≤a∧a≤6∧rdA data (vs.drop i) (ts.drop i) a=zcR data vs ts∧H'=H) vs.length ?_ ?_
 ·intro _;exact⟨0,0,by omega,by omega,rfl,rfl,by omega,by omega,by simp[htot],rfl⟩
 ·rintro q t7 t17 H' ⟨i,a,hi,rfl,rfl,rfl,ha0,ha6,ho,rfl⟩ hsc' hlen hsF Kb hKb
  by_cases hlt:i<vs.length
  ·have hlt':i<ts.length:=by omega
   rw[List.drop_eq_getElem_cons hlt,List.drop_eq_getElem_cons hlt']at ho
   simp only[rdA]at ho
   have hti:=ht _ (List.getElem_mem hlt')
   have hvi:=hel _ (List.getElem_mem hlt)
   have hbd:=zu5 (zg0 h8 vs[i] ts[i])
   simp[zru,hl,hlt,hlt',Nat.add_assoc]
   refine zaH (.int .i64 (rdV data vs[i] ts[i])) (fun J=>hvi _ hti _ _ ⟨rfl,rfl⟩) ?_
   generalize rdV data vs[i] ts[i]=r at *
   by_cases hr:r<0
   ·rw[if_pos (.inl hr)]at ho
    simp[hr]
    exact hO0 _ ho.symm
   ·have q1:IntKind.i64.wrap (a+r)=a+r:=zau (by omega) (by omega)
    by_cases h6:a+r>6
    ·rw[if_pos (.inr h6)]at ho
     simp[hr,q1,h6]
     exact hO0 _ ho.symm
    ·rw[if_neg (by omega)]at ho
     simp[hr,q1,h6]
     rw[zau (by omega) (by omega)]
     refine hKb _ _ ⟨vs.length-(i+1),by omega,Back.at (J:=[]) (by simp) (Nat.le_refl _) hs ?_ ⟨_,_,rfl,i+1,_,by omega,rfl,by simp,rfl,by omega,by omega,ho,rfl⟩⟩
     simp[zk7,AV.sc,AV.scV,AV.scA,AV.scB]
  ·obtain rfl:i=vs.length:=by omega
   rw[List.drop_length]at ho
   simp only[rdA]at ho
   simp[zru,hl]
   exact hO0 _ ho.symm
theorem zON:∀ (m:Nat) (v:IT),v.nodes≤m→∀ (left:Int),left≤1000000→-1≤left→∀ (H:zaa) (id:Nat),H[id]?=some (.cells [.int .i64 left])→∀ (K:AV→zaa→Prop),
  ((v.nodes:Int)≤left→K (.bool true) (H.set id (.cells [.int .i64 (left-v.nodes)])))→(¬ (v.nodes:Int)≤left→∀ l',K (.bool false) (H.set id (.cells [.int .i64 l']))) →
  ACalls tP zjz [.agg v.cs,.ptr id 0] H K:=by
 intro m
 induction m with
 | zero=>intro v h;have:=v.nodes_pos;omega
 | succ m ih=>
  intro v hv left hl1 hl0 H id hid K hK hF
  obtain⟨n,ks⟩:=v
  have hlt:=zcX hid
  have hnn:(IT.mk n ks).nodes=IT.nodesL ks+1:=by simp[IT.nodes]
  refine ACalls.out (zOL fun hs=>?_)
  have hget:(H++[AB.cells [.int .i64 n,.sl (IT.css ks) .none]])[id]?=some (.cells [.int .i64 left]):=zbO hid
  have bad:(¬ ((IT.mk n ks).nodes:Int)≤left)→∀ l' H',H'=H.set id (.cells [.int .i64 l'])++[.cells [.int .i64 n,.sl (IT.css ks) .none]]→Out H.length K (.bool false) H':=by
   intro h l' H' he
   exact Out.bool he (by simp) (hs.set rfl) (hF h l')
  simp[zBh,IT.cs,hget,AV.known]
  rw[zau (by omega) (by omega),zct _ hid,zbO (zb5 _ hid)]
  by_cases h0:left-1<0
  ·simp[h0]
   exact bad (by omega) _ _ rfl
  ·simp[h0]
   refine zOJ (Inv:=fun q t5 H'=>∃ i:Nat,i≤ks.length∧q=ks.length-i∧t5=.int .i64 i∧((IT.nodesL (ks.take i):Int)+1≤left)∧H'=H.set id (.cells [.int .i64 (left-1-IT.nodesL (ks.take i))])++[.cells [.int .i64 n,.sl (IT.css ks) .none]]) ks.length ?_ ?_
   ·intro _;exact⟨0,by omega,by omega,rfl,by simp[IT.nodesL];omega,by simp[IT.nodesL]⟩
   ·rintro q t5 H' ⟨i,hi,rfl,rfl,hb,rfl⟩ hsc hlen hsF Kb hKb
    by_cases hil:i<ks.length
    ·have hki:=IT.kid_lt (n:=n) hil
     have h1:=IT.nodesL_take hil
     have h2:=IT.nodesL_take_le ks (i+1)
     have hll:=IT.len_le (ks.take i)
     simp only[List.length_take]at hll
     have hge:(H.set id (.cells [.int .i64 (left-1-IT.nodesL (ks.take i))])++[AB.cells [.int .i64 n,.sl (IT.css ks) .none]])[id]?=some (.cells [.int .i64 (left-1-IT.nodesL (ks.take i))]):=zbO (zb5 _ hid)
     simp[zsW,hil]
     refine ih ks[i] (by omega) (left-1-IT.nodesL (ks.take i)) (by omega) (by omega) _ id hge _ ?_ ?_
     ·intro hle
      rw[zct _ (zb5 _ hid),List.set_set]
      simp
      rw[zau (by omega) (by omega)]
      refine hKb _ _ ⟨ks.length-(i+1),by omega,Back.here (by simp) ((hs.set rfl).snoc rfl) ?_ ⟨_,rfl,i+1,by omega,rfl,by simp,by omega,?_⟩⟩
      ·simp[zmh,AV.sc,AV.scV,AV.scA,AV.scB];omega
      ·rw[h1];congr 5;omega
     ·intro hle l'
      rw[zct _ (zb5 _ hid),List.set_set]
      simp
      exact bad (by omega) _ _ rfl
    ·obtain rfl:i=ks.length:=by omega
     rw[List.take_length]at hb ⊢
     simp[zsW]
     refine Out.bool rfl (by simp) (hs.set rfl) ?_
     have:=hK (by omega)
     rw[hnn]at this
     rw[show left-1-(IT.nodesL ks:Int)=left-((IT.nodesL ks+1:Nat):Int) by omega]
     exact this
theorem zyY (v:IT) (H:zaa) (K:Kt) (hK:∀ b,(b=true→v.nodes≤40)→K (.bool b) H):ACalls tP zjc [.agg v.cs] H K:=by
 refine ACalls.out (zIp fun hs=>?_)
 simp[zyz,AV.known]
 refine zON _ v (Nat.le_refl _) 40 (by omega) (by omega) _ (H.length+1) (by simp) _ ?_ ?_
 ·intro h
  exact Out.bool (J:=[_,_]) (by simp;exact⟨rfl,rfl⟩) (Nat.le_refl _) hs (hK true fun _=>by omega)
 ·intro h l'
  exact Out.bool (J:=[_,_]) (by simp;exact⟨rfl,rfl⟩) (Nat.le_refl _) hs (hK false fun h=>by cases h)
theorem zCG {data:List Dat} (hk:za2 data) (h8:∀ D∈data,D.cons.length≤8):∀ (m:Nat) (v:IT),v.nodes≤m→v.nodes≤900→ziF data v:=by
 intro m
 induction m with
 | zero=>intro v h;have:=v.nodes_pos;omega
 | succ m ih=>
  intro v hv hb t ht H K hK
  obtain⟨n,ks⟩:=v
  obtain⟨tk,tn,tks⟩:=t
  have hnl:IT.nodesL ks+1≤900:=by simpa[IT.nodes]using hb
  have hll:=IT.len_le ks
  have hkids:∀ v∈ks,ziF data v:=fun v hvm=>by
   obtain⟨i,hi,rfl⟩:=List.getElem_of_mem hvm
   have:=IT.kid_lt (n:=n) hi
   exact ih _ (by omega) (by omega)
  refine ACalls.out (zSO fun hs=>?_)
  rw[zFj]at hK
  have hO:∀ r J,K (.int .i64 r) H→Out H.length K (.int .i64 r) (H++J):=fun r J h=>Out.int rfl (Nat.le_refl _) hs h
  by_cases h6:tk=6
  ·subst h6
   rw[if_pos rfl]at hK
   by_cases hn:n=0
   ·subst hn
    rw[if_pos rfl]at hK
    simp[zdn,VT.cs,IT.cs,Nat.add_assoc]
    have htk:∀ t∈tks,t.nodes≤1000:=fun t htm=>by
     obtain⟨i,hi,rfl⟩:=List.getElem_of_mem htm
     have:=VT.kid_lt (k:=6) (n:=tn) hi
     omega
    refine zzb h8 ks (by omega) hkids tks htk _ _ ?_
    exact hO _ _ hK
   ·have:(n != 0)=true:=by simp[bne,hn]
    rw[if_neg hn]at hK
    simp[zdn,VT.cs,IT.cs,Nat.add_assoc,this]
    exact hO _ _ hK
  have h6':(tk == 6)=false:=by simp[h6]
  rw[if_neg h6]at hK
  by_cases h7:tk=7
  ·subst h7
   rw[if_pos rfl]at hK
   by_cases g1:n<0
   ·rw[if_neg (by omega)]at hK
    simp[zdn,VT.cs,IT.cs,Nat.add_assoc,g1]
    exact hO _ _ hK
   ·by_cases g2:n>6
    ·rw[if_neg (by omega)]at hK
     simp[zdn,VT.cs,IT.cs,Nat.add_assoc,g1,g2]
     exact hO _ _ hK
    ·by_cases g3:0<ks.length
     ·rw[if_neg (by omega)]at hK
      have g3':(0:Int)<ks.length:=by omega
      simp[zdn,VT.cs,IT.cs,Nat.add_assoc,g1,g2,g3,g3']
      exact hO _ _ hK
     ·rw[if_pos (by omega)]at hK
      have g3':¬ (0:Int)<ks.length:=by omega
      simp[zdn,VT.cs,IT.cs,Nat.add_assoc,g1,g2,g3,g3']
      exact hO _ _ hK
  have h7':(tk == 7)=false:=by simp[h7]
  rw[if_neg h7]at hK
  by_cases h5:tk=5
  case neg=>
   have h5':(tk == 5)=false:=by simp[h5]
   rw[if_neg h5]at hK
   by_cases g1:n=0
   ·subst g1
    by_cases g2:0<ks.length
    ·have g2':(0:Int)<ks.length:=by omega
     rw[if_neg (by omega)]at hK
     simp[zdn,VT.cs,IT.cs,Nat.add_assoc,h6',h7',h5',g2,g2']
     exact hO _ _ hK
    ·have g2':¬ (0:Int)<ks.length:=by omega
     rw[if_pos (by omega)]at hK
     simp[zdn,VT.cs,IT.cs,Nat.add_assoc,h6',h7',h5',g2,g2']
     exact hO _ _ hK
   ·have g1':(n != 0)=true:=by simp[bne,g1]
    rw[if_neg (by omega)]at hK
    simp[zdn,VT.cs,IT.cs,Nat.add_assoc,h6',h7',h5',g1,g1']
    exact hO _ _ hK
  subst h5
  rw[if_pos rfl]at hK
  by_cases hn:n=0
  case neg=>
   have:(n != 0)=true:=by simp[bne,hn]
   rw[if_neg (by omega)]at hK
   simp[zdn,VT.cs,IT.cs,Nat.add_assoc,this]
   exact hO _ _ hK
  subst hn
  by_cases hl6:ks.length>6
  ·rw[if_neg (by omega)]at hK
   have:(6:Int)<ks.length:=by omega
   simp[zdn,VT.cs,IT.cs,Nat.add_assoc,this]
   exact hO _ _ hK
  have hl6':¬ (6:Int)<ks.length:=by omega
  rw[if_pos (by omega)]at hK
  simp[zdn,VT.cs,IT.cs,Nat.add_assoc,hl6']
  have hT:(VT.mk 5 tn tks).nodes≤1000:=ht
  have hT':(VT.mk 5 tn tks).cs=[.int .i64 5,.int .i64 tn,.sl (VT.css tks) .none]:=rfl
  generalize hTg:VT.mk 5 tn tks=T at *
  have hsc2:HSc (H++[.cells [.int .i64 5,.int .i64 tn,.sl (VT.css tks) .none],.cells [.int .i64 0,.sl (IT.css ks) .none]]):=hs.append (by simp[AB.sc,AV.scA,AV.scB])
  have hF:∀ r,r=rdE data ks T 0→∀ J,Out H.length K (.int .i64 r) (H++J):=fun r h J=>hO _ _ (by rw[h];exact hK)
  refine zSM (Inv:=fun q t7 t58 H'=>∃ (i:Nat) (a:Int),i≤ks.length∧q=ks.length-i∧t58=.int .i64 i∧t7=.int .i64 a∧0≤a∧a≤6∧rdE data (ks.drop i) T a=rdE data ks T 0 ∧
   H'=H++[.cells [.int .i64 5,.int .i64 tn,.sl (VT.css tks) .none],.cells [.int .i64 0,.sl (IT.css ks) .none]]) ks.length ?_ ?_
  ·intro _;exact⟨0,0,by omega,by omega,rfl,rfl,by omega,by omega,by simp,rfl⟩
  ·rintro q t7 t58 H' ⟨i,a,hi,rfl,rfl,rfl,ha0,ha6,ho,rfl⟩ hsc' hlen hsF Kb hKb
   by_cases hlt:i<ks.length
   ·rw[List.drop_eq_getElem_cons hlt]at ho
    have hkn:=IT.kid_lt (n:=0) hlt
    obtain⟨c,es,hx⟩:∃ c es,ks[i]=IT.mk c es:=by cases h:ks[i] with | mk a b=>exact⟨a,b,rfl⟩
    rw[hx]at ho hkn
    have hesl:=IT.len_le es
    have hen:IT.nodesL es+1≤900:=by
     have:(IT.mk c es).nodes=IT.nodesL es+1:=by simp[IT.nodes]
     have:(IT.mk 0 ks).nodes=IT.nodesL ks+1:=by simp[IT.nodes]
     omega
    have hes:∀ v∈es,ziF data v:=fun v hvm=>by
     obtain⟨j,hj,rfl⟩:=List.getElem_of_mem hvm
     have:=IT.kid_lt (n:=c) hj
     exact ih _ (by omega) (by omega)
    simp only[rdE]at ho
    by_cases c1:c<0
    ·rw[if_pos (.inl c1)]at ho
     simp[ziD,hlt,hx,IT.cs,Nat.add_assoc,c1]
     exact hF _ ho _
    by_cases c2:8≤c
    ·rw[if_pos (.inr c2)]at ho
     simp[ziD,hlt,hx,IT.cs,Nat.add_assoc,c1,c2]
     exact hF _ ho _
    rw[if_neg (by omega)]at ho
    simp[ziD,hlt,hx,IT.cs,Nat.add_assoc,c1,c2]
    rw[←hT']
    refine zuE data hk T hT c _ _ ?_
    cases hp:za8 data T c with
    | none=>
     rw[hp]at ho
     simp only at ho
     simp[zb1]
     exact hF _ ho _
    | some ps=>
     rw[hp]at ho
     simp only at ho
     simp[zb1]
     have hpn:∀ t∈ps,t.nodes≤1000:=zwP hp
     refine zzb h8 es (by omega) hes ps hpn _ _ ?_
     have htb:=zGS h8 es ps
     have ho':(if zcR data es ps<0∨a+1+zcR data es ps>6 then -1 else rdE data (ks.drop (i+1)) T (a+(1+zcR data es ps)))=rdE data ks T 0:=by
      rw[←ho]
      unfold zcR
      by_cases hl:ps.length=es.length
      ·simp only[hl,if_true]
      ·simp only[hl,if_false];rfl
     generalize zcR data es ps=w at *
     by_cases w0:w<0
     ·rw[if_pos (.inl w0)]at ho'
      simp[w0]
      exact hF _ ho' _
     ·have q1:IntKind.i64.wrap (a+1)=a+1:=zau (by omega) (by omega)
      have q2:IntKind.i64.wrap (a+1+w)=a+1+w:=zau (by omega) (by omega)
      have q3:IntKind.i64.wrap (1+w)=1+w:=zau (by omega) (by omega)
      have q4:IntKind.i64.wrap (a+(1+w))=a+(1+w):=zau (by omega) (by omega)
      by_cases hh:a+1+w>6
      ·rw[if_pos (.inr hh)]at ho'
       simp[w0,q1,q2,hh]
       exact hF _ ho' _
      ·rw[if_neg (by omega)]at ho'
       simp[w0,q1,q2,hh,q3,q4]
       rw[zau (by omega) (by omega)]
       refine hKb _ _ ⟨ks.length-(i+1),by omega,Back.at (J:=[.cells [.int .i64 c,.sl (IT.css es) .none]]) (H2:=H++[.cells [.int .i64 5,.int .i64 tn,.sl (VT.css tks) .none],.cells [.int .i64 0,.sl (IT.css ks) .none]]) (by simp[hT']) (by simp) hsc2 ?_ ⟨_,_,rfl,i+1,_,by omega,rfl,by simp,rfl,by omega,by omega,ho',rfl⟩⟩
       simp[znK,AV.sc,AV.scV,AV.scA,AV.scB]
   ·obtain rfl:i=ks.length:=by omega
    rw[List.drop_length]at ho
    simp only[rdE]at ho
    simp[ziD]
    exact hF _ ho _
section
variable {data:List Dat} (hD:DOk data)
def zn2 (data:List Dat) (v:VT):Prop:=∀ (t:VT),zaR data 0 t=true→∀ (H:zaa) (K:AV→zaa→Prop),K (.bool (zav data v t)) H→ACalls tP zhI [.sl (data.map Dat.cs) .none,.agg v.cs,.agg t.cs] H K
theorem zD7 {f:VT→VT→Bool} {x y:List VT} {i:Nat} (h:i<x.length) (h':i<y.length):zca f (x.drop i) (y.drop i)=(f x[i] y[i] && zca f (x.drop (i+1)) (y.drop (i+1))):=by
 rw[List.drop_eq_getElem_cons h,List.drop_eq_getElem_cons h',zca]
theorem zCE (vs ts:List VT) (hl:vs.length≤1000000) (hv:∀ v∈vs,zn2 data v) (ht:∀ t∈ts,zaR data 0 t=true) (H:zaa) (K:AV→zaa→Prop) (hK:K (.bool (zbI data vs ts)) H) :
  ACalls tP zjP [.sl (data.map Dat.cs) .none,.sl (VT.css vs) .none,.sl (VT.css ts) .none] H K:=by
 refine ACalls.out (zSI fun hs=>?_)
 rw[zi4]at hK
 have hO:∀ b,zca (zav data) vs ts=b→Out H.length K (.bool b) H:=fun b h=>by
  have:=Out.bool (J:=[]) rfl (Nat.le_refl _) hs (h ▸ hK)
  simpa using this
 by_cases hlen:vs.length=ts.length
 case neg=>
  have hl':((vs.length:Int) != ts.length)=true:=by simp;omega
  simp[zuk,hl']
  exact hO _ (ziZ hlen)
 simp[zuk,hlen]
 refine zSG (Inv:=fun q t H'=>∃ i:Nat,i≤vs.length∧q=vs.length-i∧t=.int .i64 i∧zca (zav data) (vs.drop i) (ts.drop i)=zca (zav data) vs ts∧H=H') vs.length ?_ ?_
 ·intro _;exact⟨0,by omega,by omega,rfl,by simp,rfl⟩
 rintro q t H' ⟨i,hi,rfl,rfl,ho,rfl⟩ hsc hle hsF Kb hKb
 by_cases hlt:i<vs.length
 ·have hlt':i<ts.length:=by omega
  have hlt2:(i:Int)<ts.length:=by omega
  rw[zD7 hlt hlt']at ho
  obtain⟨x,y,z,hvx,hx,hy,hz⟩:=zaO vs[i]
  obtain⟨x2,y2,z2,hvx2,hx2,hy2,hz2⟩:=zaO ts[i]
  simp[zul,hlt,hlt',hlt2,hvx,hvx2]
  rw[←hvx,←hvx2]
  refine zaH (.bool (zav data vs[i] ts[i])) (fun J=>hv _ (List.getElem_mem hlt) _ (ht _ (List.getElem_mem hlt')) _ _ ⟨rfl,rfl⟩) ?_
  cases hb:zav data vs[i] ts[i] with
  | false=>
   rw[hb,Bool.false_and]at ho
   simp
   exact hO _ ho.symm
  | true=>
   rw[hb,Bool.true_and]at ho
   simp
   rw[zau (by omega) (by omega)]
   refine hKb _ _ ⟨vs.length-(i+1),by omega,Back.here (Nat.le_refl _) hs ?_ ⟨_,rfl,i+1,by omega,rfl,by simp,ho,rfl⟩⟩
   simp[znI,AV.sc,AV.scV,AV.scA,AV.scB]
 ·obtain rfl:i=vs.length:=by omega
  rw[List.drop_length,hlen,List.drop_length,zca]at ho
  simp[zul,hlen]
  exact hO _ ho.symm
theorem zEh {data:List Dat} {vks ks:List VT} (h1:vks.length=1) (h2:ks.length=1):zbI data vks ks=zcK data vks (ks[0]'(by omega)):=by
 match vks,ks,h1,h2 with
 | [v],[k],_,_=>simp[zbI,zcK]
include hD in
theorem zPp:∀ (m:Nat) (v:VT),v.nodes≤m→v.nodes≤1000000→zn2 data v:=by
 intro m
 induction m with
 | zero=>intro v h;have:=v.nodes_pos;omega
 | succ m ih=>
  intro v hm hb t ht H K hK
  obtain⟨vk,vn,vks⟩:=v
  obtain⟨k,n,ks⟩:=t
  refine ACalls.out (zPn fun hs=>?_)
  have hO:∀ b J,zav data (.mk vk vn vks) (.mk k n ks)=b→Out H.length K (.bool b) (H++J):=fun b J h=>Out.bool rfl (Nat.le_refl _) hs (h ▸ hK)
  have hll:=VT.len_le vks
  have hnn:(VT.mk vk vn vks).nodes=VT.nodesL vks+1:=by simp[VT.nodes]
  have hkids:∀ x∈vks,zn2 data x:=fun x hx=>ih x (by have:=zfm (k:=vk) (n:=vn) x hx;omega) (by have:=zgg (k:=vk) (n:=vn) x hx;omega)
  have htk:=zko ht
  have hto:za1 data 0 (.mk k n ks)=true:=by rw[zaR,Bool.and_eq_true]at ht;exact ht.2
  have htn:(VT.mk k n ks).nodes≤200:=by rw[zaR,Bool.and_eq_true]at ht;exact of_decide_eq_true ht.1
  obtain⟨f1,f2,f3⟩:=zdG hD.k
  have loop:∀ (hk:ks.length=1) ,zav data (.mk vk vn vks) (.mk k n ks)=zcK data vks (ks[0]'(by omega)) →
    ztd (.sl (data.map Dat.cs) .none) (.ptr H.length 0) (.ptr (H.length+1) 0) (.int .i64 vks.length) (.int .i64 0) (H++[.cells [.int .i64 vk,.int .i64 vn,.sl (VT.css vks) .none],.cells [.int .i64 k,.int .i64 n,.sl (VT.css ks) .none]]) (Out H.length K):=by
   intro hk e
   have hk0:0<ks.length:=by omega
   refine zPl (Inv:=fun q t10 H'=>∃ i:Nat,i≤vks.length∧q=vks.length-i∧t10=.int .i64 i∧zcK data (vks.drop i) ks[0]=zcK data vks ks[0]∧H'=H++[.cells [.int .i64 vk,.int .i64 vn,.sl (VT.css vks) .none],.cells [.int .i64 k,.int .i64 n,.sl (VT.css ks) .none]]) vks.length ?_ ?_
   ·intro _;exact⟨0,by omega,by omega,rfl,by simp,rfl⟩
   rintro q t10 H' ⟨i,hi,rfl,rfl,ho,rfl⟩ hsc hle hsF Kb hKb
   by_cases hlt:i<vks.length
   ·rw[zv0 hlt]at ho
    obtain⟨x,y,z,hvx,hx,hy,hz⟩:=zaO vks[i]
    obtain⟨x2,y2,z2,hvx2,hx2,hy2,hz2⟩:=zaO ks[0]
    simp[ztb,hlt,hvx,hk0,hvx2]
    rw[←hvx,←hvx2]
    refine zaH (.bool (zav data vks[i] ks[0])) (fun J=>hkids _ (List.getElem_mem hlt) ks[0] (htk _ (List.getElem_mem hk0)) _ _ ⟨rfl,rfl⟩) ?_
    cases hb2:zav data vks[i] ks[0] with
    | false=>
     rw[hb2,Bool.false_and]at ho
     simp
     exact hO _ _ (e.trans ho.symm)
    | true=>
     rw[hb2,Bool.true_and]at ho
     simp
     rw[zau (by omega) (by omega)]
     refine hKb _ _ ⟨vks.length-(i+1),by omega,Back.here (by simp) hsc ?_ ⟨_,rfl,i+1,by omega,rfl,by simp,ho,rfl⟩⟩
     simp[zmu,AV.sc,AV.scV,AV.scA,AV.scB]
   ·obtain rfl:i=vks.length:=by omega
    rw[List.drop_length,zcK]at ho
    simp[ztb]
    exact hO _ _ (e.trans ho.symm)
  rcases zyh hto with ⟨rfl,rfl⟩ | ⟨rfl,rfl⟩ | ⟨rfl,rfl⟩ | rfl | ⟨rfl,hk⟩ | ⟨rfl,hk⟩ | ⟨rfl,hk⟩ | ⟨rfl,hk⟩
  ·simp[zew,VT.cs,Nat.add_assoc]
   cases h1:(vk == 3) <;> simp
   ·exact hO _ _ (by simp[zav,h1])
   by_cases h2:-1099511627776≤vn <;> simp[h2]
   ·by_cases h3:vn≤1099511627776 <;> simp[h3]
    ·exact hO _ _ (by simp[zav,h1,h2,h3,i0])
    ·exact hO _ _ (by simp[zav,h1,h2,h3])
   ·exact hO _ _ (by simp[zav,h1,h2])
  ·simp[zew,VT.cs,Nat.add_assoc]
   cases h1:(vk == 2) <;> simp
   ·exact hO _ _ (by simp[zav,h1])
   cases h2:(vn == 0) <;> simp
   ·cases h3:(vn == 1) <;> simp
    ·exact hO _ _ (by simp[zav,h1,h2,h3])
    ·exact hO _ _ (by simp[zav,h1,h2,h3,i0])
   ·exact hO _ _ (by simp[zav,h1,h2,i0])
  ·simp[zew,VT.cs,Nat.add_assoc]
   cases h1:(vk == 1) <;> simp
   ·exact hO _ _ (by simp[zav,h1])
   cases h2:(vn == 0) <;> simp
   ·exact hO _ _ (by simp[zav,h1,h2])
   ·exact hO _ _ (by simp[zav,h1,h2,i0])
  ·-- a data type
   simp[zew,VT.cs,Nat.add_assoc]
   cases h1:(vk == 5) with
   | false=>
    have:(vk != 5)=true:=by simp[bne,h1]
    simp[this]
    exact hO _ _ (by simp[zav,h1])
   | true=>
   have h1':(vk != 5)=false:=by simp[bne,h1]
   by_cases h2:vn<0
   ·simp[h1',h2]
    exact hO _ _ (by simp[zav,h1];omega)
   by_cases h3:8≤vn
   ·simp[h1',h2,h3]
    exact hO _ _ (by simp[zav,h1];omega)
   simp[h1',h2,h3,Nat.add_assoc]
   have e:∀ o,zaU data (.mk 5 n ks) vn=o→zav data (.mk vk vn vks) (.mk 5 n ks)=zeH data vks o:=fun o ho=>by
    have q1:0≤vn:=by omega
    have q2:vn<8:=by omega
    simp[zav,h1,q1,q2,ho]
   have hcs:(VT.mk 5 n ks).cs=[.int .i64 5,.int .i64 n,.sl (VT.css ks) .none]:=rfl
   rw[←hcs]
   refine zlX data f1 f2 f3 (.mk 5 n ks) (by omega) vn _ _ ?_
   cases hf:zaU data (.mk 5 n ks) vn with
   | none=>
    simp[zb1]
    exact hO _ _ (by rw[e _ hf,zi3])
   | some l=>
    simp[zb1,hcs]
    refine zCE vks l (by omega) hkids (zga hD.ok hto hf) _ _ ?_
    exact hO _ _ (by rw[e _ hf,zhn])
  ·simp[zew,VT.cs,Nat.add_assoc]
   cases h1:(vk == 4) <;> simp
   ·exact hO _ _ (by simp[zav,h1])
   cases h2:(vn == 0) <;> simp
   ·exact hO _ _ (by simp[zav,h1,h2])
   refine zCE vks ks (by omega) hkids htk _ _ ?_
   exact hO _ _ (by simp[zav,h1,h2])
  ·-- an array
   simp[zew,zir,VT.cs,Nat.add_assoc]
   have hk0:0<ks.length:=by omega
   cases h1:(vk == 6) with
   | false=>
    have:(vk != 6)=true:=by simp[bne,h1]
    simp[this]
    exact hO _ _ (by simp[zav,h1])
   | true=>
   have h1':(vk != 6)=false:=by simp[bne,h1]
   by_cases h3:vks.length≤4096
   case neg=>
    have h3':(4096:Int)<vks.length:=by omega
    simp[h1',h3']
    exact hO _ _ (by simp[zav,h1,h3])
   have h3':¬ (4096:Int)<vks.length:=by omega
   cases h2:(vn == 0) with
   | false=>
    have:(vn != 0)=true:=by simp[bne,h2]
    simp[h1',h3',this]
    exact hO _ _ (by simp[zav,h1,h2])
   | true=>
   have h2':(vn != 0)=false:=by simp[bne,h2]
   simp[h1',h3',h2']
   exact loop hk (by have:=zvX hk0;simp[zav,h1,h2,h3,this,hk0])
  ·simp[zew,zir,VT.cs,Nat.add_assoc]
   have hk0:0<ks.length:=by omega
   cases h1:(vk == 7) with
   | false=>
    have:(vk != 7)=true:=by simp[bne,h1]
    simp[this]
    exact hO _ _ (by simp[zav,h1])
   | true=>
   have h1':(vk != 7)=false:=by simp[bne,h1]
   by_cases h3:vks.length=1
   case neg=>
    have h3':((vks.length:Int) != 1)=true:=by simp;omega
    simp[h1',h3']
    refine hO _ _ ?_
    have:zbI data vks ks=false:=by rw[zi4];exact ziZ (by omega)
    simp[zav,h1,this]
   have h3':((vks.length:Int) != 1)=false:=by simp;omega
   cases h2:(vn == 0) with
   | false=>
    have:(vn != 0)=true:=by simp[bne,h2]
    simp[h1',h3',this]
    exact hO _ _ (by simp[zav,h1,h2])
   | true=>
   have h2':(vn != 0)=false:=by simp[bne,h2]
   simp[h1',h3',h2']
   exact loop hk (by rw[←zEh h3 hk];simp[zav,h1,h2])
  ·simp[zew,zir,VT.cs,Nat.add_assoc]
   cases h1:(vk == 8) <;> simp
   ·exact hO _ _ (by simp[zav,h1])
   by_cases h2:0≤vn <;> simp[h2]
   ·by_cases h3:vn<64 <;> simp[h3]
    ·exact hO _ _ (by simp[zav,h1,h2,h3,i0])
    ·exact hO _ _ (by simp[zav,h1,h2,h3])
   ·exact hO _ _ (by simp[zav,h1,h2])
end
def zc9 (data:List Dat) (v t:VT):Bool:=zbg data t && zav data v t
theorem zEq {data:List Dat} (h:za2 data):zn6 data:=fun D hD=>by
 obtain⟨_,h2⟩:=h
 obtain⟨_,h3,h4⟩:=h2 D hD
 refine⟨by omega,fun c hc=>?_⟩
 obtain⟨_,h5,h6⟩:=h4 c hc
 exact⟨by omega,fun x hx=>by have:=h6 x hx;omega⟩
theorem zvC {data:List Dat}:∀ {l:List Dat} {d:Nat},zcV data l d=true→∀ D∈l,D.cons.length≤8
 | [],_,_,D,h=>by cases h
 | E::l,d,h,D,hD=>by
  simp only[zcV,Bool.and_eq_true]at h
  rcases List.mem_cons.1 hD with rfl | hD
  ·have:=h.1
   simp only[zcJ,Bool.and_eq_true,decide_eq_true_eq]at this
   exact this.1.2
  ·exact zvC h.2 D hD
theorem zgd {data:List Dat} {t:VT} (h:zbg data t=true):∀ D∈data,D.cons.length≤8:=by
 simp only[zbg,zbe,Bool.and_eq_true]at h
 exact zvC h.1.1.1.2
def zaS (data:List Dat) (t:VT) (v:IT):Int:=if zbg data t then rdV data v t else -1
theorem zt1 (data:List Dat) (hk:za2 data) (t:VT) (ht:t.nodes≤1000000) (H:zaa) (K:Kt) (hK:K (.bool (zbg data t)) H):ACalls tP zhO [.sl (data.map Dat.cs) .none,.agg t.cs] H K:=by
 refine ACalls.out (zRR fun hs=>?_)
 obtain⟨x,y,z,hvx,hx,hy,hz⟩:=zaO t
 simp[zCm,zaz,zaV,hvx,Nat.add_assoc]
 refine zIw data (zEq hk) (by have:=hk.1;omega) ?_
 unfold zbg at hK
 cases hd:zbe data with
 | false=>
  rw[hd]at hK
  simp
  exact Out.bool rfl (Nat.le_refl _) hs hK
 | true=>
  rw[hd,Bool.true_and]at hK
  simp
  rw[←hvx]
  refine zy3 data 0 t (by omega) _ _ ?_
  exact Out.bool rfl (Nat.le_refl _) hs hK
theorem zOG (data:List Dat) (hk:za2 data) (t:VT) (ht:t.nodes≤1000000) (H:zaa) (K:Kt) (hK:K (.bool (zbg data t)) H):ACalls tP zpG [.sl (data.map Dat.cs) .none,.agg t.cs] H K:=by
 refine ACalls.out (zOF fun hs=>?_)
 obtain⟨x,y,z,hvx,hx,hy,hz⟩:=zaO t
 simp[zBg,hvx,Nat.add_assoc]
 refine zBs data hk _ _ fun b hb=>?_
 have hbd:b=zbe data:=by rw[Bool.eq_iff_iff,hb,zvB]
 subst hbd
 unfold zbg at hK
 cases hd:zbe data with
 | false=>
  rw[hd]at hK
  simp
  exact Out.bool rfl (Nat.le_refl _) hs hK
 | true=>
  rw[hd,Bool.true_and]at hK
  simp
  rw[←hvx]
  refine zs6 data (by have:=hk.1;omega) 0 t (by omega) _ _ ?_
  exact Out.bool rfl (Nat.le_refl _) hs hK
theorem zST (data:List Dat) (hk:za2 data) (t:VT) (ht:t.nodes≤1000) (v:IT) (hv:v.nodes≤900) (H:zaa) (K:Kt) (hK:K (.int .i64 (zaS data t v)) H):ACalls tP zpM [.sl (data.map Dat.cs) .none,.agg t.cs,.agg v.cs] H K:=by
 refine ACalls.out (zSS fun hs=>?_)
 have hO:∀ r J,zaS data t v=r→Out H.length K (.int .i64 r) (H++J):=fun r J h=>by subst h;exact Out.int rfl (Nat.le_refl _) hs hK
 obtain⟨x,y,z,hvx,hx,hy,hz⟩:=zaO t
 obtain⟨x2,y2,hvx2,hx2,hy2⟩:=it2 v
 simp[zCH,hvx,hvx2,Nat.add_assoc]
 rw[←hvx]
 refine zt1 data hk t (by omega) _ _ ?_
 cases hf:zbg data t with
 | false=>
  simp
  exact hO _ _ (by simp[zaS,hf])
 | true=>
  have h8:=zgd hf
  obtain⟨g1,g2⟩:=zg0 h8 v t
  simp[Nat.add_assoc]
  rw[←hvx2]
  refine zJl hk h8 _ v (Nat.le_refl _) hv t ht _ _ ?_
  cases hb:(zco data v t).2 with
  | false=>
   simp
   exact hO _ _ (by simp[zaS,hf,g2 hb])
  | true=>
   simp
   exact hO _ _ (by simp[zaS,hf,(g1 hb).1])
theorem zte (data:List Dat) (hk:za2 data) (t:VT) (ht:t.nodes≤1000) (v:IT) (hv:v.nodes≤900) (H:zaa) (K:Kt) (hK:K (.int .i64 (zaS data t v)) H):ACalls tP zhJ [.sl (data.map Dat.cs) .none,.agg t.cs,.agg v.cs] H K:=by
 refine ACalls.out (zPs fun hs=>?_)
 have hO:∀ r J,zaS data t v=r→Out H.length K (.int .i64 r) (H++J):=fun r J h=>by subst h;exact Out.int rfl (Nat.le_refl _) hs hK
 obtain⟨x,y,z,hvx,hx,hy,hz⟩:=zaO t
 obtain⟨x2,y2,hvx2,hx2,hy2⟩:=it2 v
 simp[zBx,hvx,hvx2,Nat.add_assoc]
 rw[←hvx]
 refine zOG data hk t (by omega) _ _ ?_
 cases hf:zbg data t with
 | false=>
  simp
  exact hO _ _ (by simp[zaS,hf])
 | true=>
  have h8:=zgd hf
  simp[Nat.add_assoc]
  rw[←hvx2]
  refine zCG hk h8 _ v (Nat.le_refl _) hv t ht _ _ ?_
  exact hO _ _ (by simp[zaS,hf])
theorem zPw (data:List Dat) (hk:za2 data) (t:VT) (ht:t.nodes≤1000) (v:IT) (hv:v.nodes≤900) (H:zaa) (K:Kt) (hK:K (.bool (decide (0≤zaS data t v))) H):ACalls tP zpH [.sl (data.map Dat.cs) .none,.agg t.cs,.agg v.cs] H K:=by
 refine ACalls.out (zPv fun hs=>?_)
 obtain⟨x,y,z,hvx,hx,hy,hz⟩:=zaO t
 obtain⟨x2,y2,hvx2,hx2,hy2⟩:=it2 v
 simp[zBy,hvx,hvx2,Nat.add_assoc]
 rw[←hvx,←hvx2]
 refine zST data hk t ht v hv _ _ ?_
 simp
 exact Out.bool rfl (Nat.le_refl _) hs (by simpa using hK)
theorem zKi (data:List Dat) (hk:za2 data) (t:VT) (ht:t.nodes≤1000) (v:IT) (hv:v.nodes≤900) (H:zaa) (K:Kt) (hK:K (.bool (decide (0≤zaS data t v))) H):ACalls tP zpc [.sl (data.map Dat.cs) .none,.agg t.cs,.agg v.cs] H K:=by
 refine ACalls.out (zKh fun hs=>?_)
 obtain⟨x,y,z,hvx,hx,hy,hz⟩:=zaO t
 obtain⟨x2,y2,hvx2,hx2,hy2⟩:=it2 v
 simp[zzg,hvx,hvx2,Nat.add_assoc]
 rw[←hvx,←hvx2]
 refine zte data hk t ht v hv _ _ ?_
 simp
 exact Out.bool rfl (Nat.le_refl _) hs (by simpa using hK)
theorem zPQ (data:List Dat) (hk:za2 data) (k n:Int) (ks:List VT) (ht:(VT.mk k n ks).nodes≤1000) (c:Int) {l:List VT} {bs:List Bool} (hf:zaU data (.mk k n ks) c=some l)
  (hlb:l.length=bs.length) (hl8:l.length≤8) (hfine:zbg data (.mk k n ks)=true) (hrec:∀ H K,K (.sl (zby bs) .none) H→ACalls tP zek [.sl (data.map Dat.cs) .none,.int .i64 n,.int .i64 c] H K) (H:zaa) (K:Kt)
  (hK:K (.tup [.sl (zaN (pos false bs bs.length)) .none,.sl (zaN (pos true bs bs.length)) .none,.bool true]) H) :
  ACalls tP zpI [.sl (data.map Dat.cs) .none,.agg (VT.mk k n ks).cs,.int .i64 c] H K:=by
 refine ACalls.out (zPO fun hs=>?_)
 obtain⟨f1,f2,f3⟩:=zdG hk
 simp[zBC,VT.cs,Nat.add_assoc]
 refine zt1 data hk (.mk k n ks) (by omega) _ _ ?_
 simp[hfine]
 refine zmz data f1 f2 f3 (.mk k n ks) ht c _ _ ?_
 rw[hf]
 simp[zb1]
 refine hrec _ _ ?_
 simp[zeD]
 unfold zmE
 refine ALoop.own 6 zbt 1 rfl ?_
 refine ALoop.own 7 zbt 1 rfl ?_
 have hl1:(H++[AB.cells [AV.int IntKind.i64 k,AV.int IntKind.i64 n,AV.sl (VT.css ks) Tok.none]]).length=H.length+1:=by simp
 have hl2:(H++[AB.cells [AV.int IntKind.i64 k,AV.int IntKind.i64 n,AV.sl (VT.css ks) Tok.none]]++[AB.perm zbt 1 0]).length=H.length+2:=by simp
 rw[hl1,hl2]
 show zmE (.sl [] (.own (H.length+1))) (.sl [] (.own (H.length+2))) (.sl (zby bs) .none) (.int .i64 bs.length) (.int .i64 0) (H++[.cells [.int .i64 k,.int .i64 n,.sl (VT.css ks) .none]]++[.perm zbt 1 0]++[.perm zbt 1 0]) (Out H.length K)
 have hperm:∀ m m2,HSc (H++[.cells [.int .i64 k,.int .i64 n,.sl (VT.css ks) .none],.perm zbt 1 m,.perm zbt 1 m2]):=fun m m2=>hs.append (by simp[AB.sc,AV.scA,AV.scB])
 refine zPM (Inv:=fun q t6 t7 t32 H'=>∃ i:Nat,i≤bs.length∧q=bs.length-i∧t32=.int .i64 i∧t6=.sl (zaN (pos false bs i)) (.own (H.length+1))∧t7=.sl (zaN (pos true bs i)) (.own (H.length+2)) ∧
  H'=H++[.cells [.int .i64 k,.int .i64 n,.sl (VT.css ks) .none],.perm zbt 1 (pos false bs i).length,.perm zbt 1 (pos true bs i).length]) bs.length ?_ ?_
 ·intro _;exact⟨0,by omega,by omega,rfl,by simp[pos,zaN],by simp[pos,zaN],by simp[pos]⟩
 ·rintro q t6 t7 t32 H' ⟨i,hi,rfl,rfl,rfl,rfl,rfl⟩ hsc' hlen hsF Kb hKb
  by_cases hlt:i<bs.length
  ·have hp1:=zhY false bs i hlt
   have hp2:=zhY true bs i hlt
   have hn1:=zem false bs i
   have hn2:=zem true bs i
   have hnext:zmD (.sl (zaN (pos false bs (i+1))) (.own (H.length+1))) (.sl (zaN (pos true bs (i+1))) (.own (H.length+2))) (.sl (zby bs) .none) (.int .i64 bs.length) (.int .i64 i)
     (H++[.cells [.int .i64 k,.int .i64 n,.sl (VT.css ks) .none],.perm zbt 1 (pos false bs (i+1)).length,.perm zbt 1 (pos true bs (i+1)).length]) (Out H.length K) Kb:=by
    simp[zmD,zBD]
    rw[zau (by omega) (by omega)]
    refine hKb _ _ ⟨bs.length-(i+1),by omega,Back.at (J:=[]) (H2:=H++[.cells [.int .i64 k,.int .i64 n,.sl (VT.css ks) .none],.perm zbt 1 (pos false bs (i+1)).length,.perm zbt 1 (pos true bs (i+1)).length]) (by simp) (by simp) (hperm _ _) ?_ ⟨_,_,_,rfl,i+1,by omega,rfl,by simp,rfl,rfl,rfl⟩⟩
    simp[zmC,AV.sc,AV.scV,AV.scA,AV.scB]
   cases hbi:bs[i] with
   | true=>
    rw[hbi]at hp1 hp2
    simp at hp1 hp2
    rw[hp1,hp2]at hnext
    simp[zmB,zeD,hlt,zg6,hbi,zaB,zbf,zaF,AV.pd,zax,zaY,zaM,zcE]
    refine⟨⟨by omega,by omega⟩,?_⟩
    simpa[zjU,zaN]using hnext
   | false=>
    rw[hbi]at hp1 hp2
    simp at hp1 hp2
    rw[hp1,hp2]at hnext
    simp[zmB,zeD,hlt,zg6,hbi,zaB,zbf,zaF,AV.pd,zax,zaY,zaM,zcE]
    refine⟨⟨by omega,by omega⟩,?_⟩
    simpa[zjU,zaN]using hnext
  ·obtain rfl:i=bs.length:=by omega
   simp[zmB]
   refine⟨⟨rfl,rfl,rfl⟩,?_⟩
   exact Out.tup (bs:=[.sl (zaN (pos false bs bs.length)) .none,.sl (zaN (pos true bs bs.length)) .none,.bool true]) hs hK ⟨slV,slV,za4 rfl rfl,trivial⟩
theorem zOC (data:List Dat) (hk:za2 data) (t:VT) (ht:t.nodes≤1000) (H:zaa) (K:Kt) (hK:zbg data t=true→K (.tup [.agg (zbn t).cs,.bool true]) H) (hf:zbg data t=true) :
  ACalls tP zpE [.sl (data.map Dat.cs) .none,.agg t.cs] H K:=by
 refine ACalls.out (zOB fun hs=>?_)
 obtain⟨x,y,z,hvx,hx,hy,hz⟩:=zaO t
 simp[zBf,hvx,hx,hy,hz]
 rw[←hvx]
 refine zt1 data hk t (by omega) _ _ ?_
 simp[hf,hvx,hx,hy,hz]
 rw[←hvx]
 refine zRY _ t (Nat.le_refl _) (by omega) _ _ ?_
 obtain⟨p,q,hzz,hp,hq⟩:=zb2 (zbn t)
 have hK:=hK hf
 rw[hzz]at hK ⊢
 simp[hp,hq]
 refine⟨⟨rfl,rfl⟩,?_⟩
 exact Out.tup (bs:=[.agg [p,q],.bool true]) hs hK ⟨za4 rfl (by have:=(zbn t).cs_scA H.length;rw[hzz]at this;simpa[AV.scV]using this),za4 rfl rfl,trivial⟩
theorem zTP (data:List Dat) (hk:za2 data) (k n:Int) (ks:List VT) (ht:(VT.mk k n ks).nodes≤1000) (c:Int) {l:List VT} {bs:List Bool} (hf:zaU data (.mk k n ks) c=some l)
  (hlb:l.length=bs.length) (hl8:l.length≤8) (hrec:∀ H K,K (.sl (zby bs) .none) H→ACalls tP zeQ [.sl (data.map Dat.cs) .none,.int .i64 n,.int .i64 c] H K) (H:zaa) (K:Kt)
  (hK:K (.tup [.sl (zaN (pos false bs bs.length)) .none,.sl (zaN (pos true bs bs.length)) .none]) H) :
  ACalls tP zpR [.sl (data.map Dat.cs) .none,.agg (VT.mk k n ks).cs,.int .i64 c] H K:=by
 refine ACalls.out (zTO fun hs=>?_)
 simp[zCT,VT.cs]
 refine zzm data hk k n ks ht c hf hlb hl8 hrec _ _ ?_
 simp
 refine⟨⟨rfl,rfl⟩,?_⟩
 exact Out.tup (bs:=[.sl (zaN (pos false bs bs.length)) .none,.sl (zaN (pos true bs bs.length)) .none]) hs hK ⟨slV,slV,trivial⟩
end Go.Proofs.YtjkkonpjecoieaaGreat
