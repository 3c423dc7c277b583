import Derived.Test.YtkdmpbhbmmhijaaKH7
import Derived.Test.YtkdmpbhbmmhijaaKH5
import Derived.Test.YtkdmpbhbmmhijaaAbsQ1
import Derived.Deep.Slices
import Derived.DataReads
set_option linter.unusedSimpArgs false
set_option linter.unusedVariables false
namespace Go.Proofs.Ytkdmpbhbmmhijaa
open Go Go.Abs
set_option maxRecDepth 8000
def ziu (st : List Bool) : List Nat:=(List.range st.length).filter fun i=>st.getD i false
theorem znf (st : List Bool) : mem st = toI (ziu st):=rfl
def isC (e : CEx) : Bool:=e.op == 11 || e.op == 12
def zbc (c : Cor) (own : List Int) (i : Nat) : Nat → List Bool
 | 0=>List.replicate c.codes.length false
 | k + 1=>match c.exprs[k]? with
  | some e=>if (isC e && own.getD k 0 == (i : Int)) = true then (zbc c own i k).set e.num.toNat true else zbc c own i k
  | none=>zbc c own i k
@[simp] theorem zgL (c : Cor) (own : List Int) (i : Nat) : ∀ k,(zbc c own i k).length = c.codes.length
 | 0=>by simp [zbc]
 | k + 1=>by
  have:=zgL c own i k
  rw [zbc]
  split
  ·split <;> simp [this]
  ·exact this
def zgM (c : Cor) (i : Nat) : List Nat:=ziu (zbc c (zaW c) i c.exprs.length)
def zbV (c : Cor) : List (List Nat):=(List.range c.codes.length).map (zgM c)
noncomputable def zbT (c : Cor) : List (List Nat):=if vOk c = true then zbV c else []
@[simp] theorem zmF (c : Cor) : (zbV c).length = c.codes.length:=by simp [zbV]
theorem zzR (c : Cor) : GOk (zbV c):=by
 intro r hr x hx
 obtain ⟨i,_,rfl⟩:=List.mem_map.1 hr
 have:=List.mem_range.1 (List.mem_filter.1 hx).1
 simpa using this
theorem zzS (c : Cor) : ∀ r ∈ zbV c,r.length ≤ c.codes.length:=by
 intro r hr
 obtain ⟨i,_,rfl⟩:=List.mem_map.1 hr
 refine Nat.le_trans (List.length_filter_le _ _) (by simp)
theorem zsw (c : Cor) : GOk (zbT c):=by
 unfold zbT
 split
 ·exact zzR c
 ·intro r hr; simp at hr
theorem zsx {c : Cor} (h : vOk c = true) {i : Nat} (hi : i < c.exprs.length) (hc : isC c.exprs[i] = true) : ∃ n : Nat,(c.exprs[i]).num = n ∧ n < c.codes.length:=by
 have hr:=((zhk c).1 h).exprs.rule i hi
 generalize c.exprs[i] = e at *
 have ho : e.op = 11 ∨ e.op = 12:=by simpa [isC] using hc
 have hn : zba e:=by rcases ho with h | h <;> simp [zba,h]
 rw [progRule,if_pos hn,numR] at hr
 split at hr
 ·cases hr
 ·rename_i h1
  obtain ⟨n,hnn⟩ : ∃ n : Nat,e.num = n:=⟨e.num.toNat,by omega⟩
  refine ⟨n,hnn,?_⟩
  rw [if_neg (by omega),if_neg (by omega),hnn,Int.toNat_natCast] at hr
  cases hg : c.codes[n]? with
  | none=>rw [hg] at hr; cases hr
  | some f=>exact (List.getElem?_eq_some_iff.1 hg).1
def zb8 (R : Nat → Nat → Bool) (i k : Nat) (st : List Bool) : List Bool:=(List.range st.length).map fun j=>if j < k then R i j && R j i else st.getD j false
@[simp] theorem zmP (R : Nat → Nat → Bool) (i k : Nat) (st : List Bool) : (zb8 R i k st).length = st.length:=by simp [zb8]
theorem zAn (R : Nat → Nat → Bool) (i : Nat) (st : List Bool) : zb8 R i 0 st = st:=by
 apply List.ext_getElem (by simp)
 intro j h1 h2
 simp [zb8,h2]
theorem zAm (R : Nat → Nat → Bool) (i k : Nat) (st : List Bool) (hk : k < st.length) : zb8 R i (k + 1) st = (zb8 R i k st).set k (R i k && R k i):=by
 apply List.ext_getElem (by simp)
 intro j h1 h2
 rw [List.getElem_set]
 by_cases hj : k = j
 ·subst hj; simp [zb8]
 ·have : (j < k + 1) = (j < k):=propext ⟨fun h=>by omega,fun h=>by omega⟩
  simp [zb8,hj,this]
theorem zAl (R : Nat → Nat → Bool) (i : Nat) (st : List Bool) : ziu (zb8 R i st.length st) = zbQ R st.length i:=by
 rw [ziu,zmP,zbQ]
 refine List.filter_congr fun j hj=>?_
 have hj:=List.mem_range.1 hj
 simp [zb8,List.getD_eq_getElem?_getD,hj]
theorem zCE (L : List Bool) (r : List Nat) : zaG L (toI r) true = Go.Abs.mark L r:=by
 simp [zaG,Go.Abs.mark,toI,List.foldl_map]
def zaZ (l : List (List Nat)) : List (List AV):=rows (l.map toI)
theorem zii (g : List (List Nat)) : gV g = .sl (zaZ g) .none:=by simp [gV,zaZ,rows]
theorem zn4 (l : List (List Nat)) (r : List Nat) : zaZ l ++ [[.sl (ints (toI r)) .none]] = zaZ (l ++ [r]):=by simp [zaZ,rows]
@[simp] theorem zSF (l : List (List Nat)) : (zaZ l).length = l.length:=by simp [zaZ,rows]
theorem zDp (l : List Nat) (k : Nat) : ints (toI l) ++ [[.int .i64 (k : Int)]] = ints (toI (l ++ [k])):=by simp [ints,toI]
theorem hp0 (X : zaa) (a : AB) (l : zaa) : (X ++ a :: l)[X.length]? = some a:=by simp
theorem hp1 (X : zaa) (a b : AB) (l : zaa) : (X ++ a :: b :: l)[X.length + 1]? = some b:=by rw [List.getElem?_append_right (by omega)]; simp
theorem hp2 (X : zaa) (a b c : AB) (l : zaa) : (X ++ a :: b :: c :: l)[X.length + 2]? = some c:=by rw [List.getElem?_append_right (by omega)]; simp
theorem hs0 (X : zaa) (a a' : AB) (l : zaa) : (X ++ a :: l).set X.length a' = X ++ a' :: l:=by simp
theorem hs1 (X : zaa) (a b b' : AB) (l : zaa) : (X ++ a :: b :: l).set (X.length + 1) b' = X ++ a :: b' :: l:=by rw [List.set_append_right _ _ (by omega)]; simp
theorem hs2 (X : zaa) (a b c c' : AB) (l : zaa) : (X ++ a :: b :: c :: l).set (X.length + 2) c' = X ++ a :: b :: c' :: l:=by rw [List.set_append_right _ _ (by omega)]; simp
theorem zi4 {g : List (List Nat)} {lo : Nat} {X : zaa} {refs : List AV} (hRo : zeu g lo X g.length refs) {i : Nat} (hi : i < g.length) : ∃ b set,refs[i]? = some (.ms b 0 g.length g.length) ∧ (∀ J,(X ++ J)[b]? = some (.cells (zas set))) ∧ set.length = g.length ∧ ∀ k,k < g.length → set[k]? = some (zaI g i k):=by
 obtain ⟨b,set,h1,_,h3,h4⟩:=hRo i hi
 exact ⟨b,set,h1,fun J=>zaO h3,h4.len,fun k hk=>h4.val hk⟩
noncomputable def grp (g : List (List Nat)) : List (List Nat):=zcl (zaI g) g.length g.length (List.replicate g.length false)
def C21 (g : List (List Nat)) (X : zaa) (f : Nat) (t : AV) (H : zaa) : Prop:=∃ L out,L.length = g.length ∧ L.count false ≤ f ∧ Cl (zaI g) g.length L ∧ out ++ zcl (zaI g) g.length f L = grp g ∧ t = .sl (zaZ out) (.own (X.length + 1)) ∧ H = X ++ [.cells (zas L),.perm za4 1 out.length]
theorem zd8 {l : List Bool} {k : Nat} {b : Bool} (h : l[k]? = some b) : (zas l)[k]? = some (.bool b):=by simp [zas,h]
theorem zir {L : List Bool} {k : Nat} (h : k < L.length) : L[k]? = some (lst L k):=by simp [lst,List.getD_eq_getElem?_getD,h]
theorem zAq (g : List (List Nat)) (hb : g.length ≤ 1000000) (H X : zaa) (refs : List AV) (hpre : H <+: X) (hsX : HSc X) (hrf : X[H.length]? = some (.cells refs)) (hrl : refs.length = g.length) (hRo : zeu g H.length X g.length refs) (hs : HSc H) (K : Kt)
  (hK : K (.sl (zaZ (grp g)) .none) H) :
  zgs (.int .i64 g.length) (.ms H.length 0 g.length g.length) (.ms X.length 0 g.length g.length) .snil (X ++ [.cells (zas (List.replicate g.length false))]) (Out H.length K):=by
 have hHX:=(List.getElem?_eq_some_iff.1 hrf).1
 have hrfJ : ∀ J,(X ++ J)[H.length]? = some (.cells refs):=fun J=>zaO hrf
 have hrefl:=zn2 g
 have htr:=zt7 (g:=g)
 have hsc2 : ∀ L m,HSc (X ++ [.cells (zas L),.perm za4 1 m]):=fun L m=>hsX.append (by simp [AB.sc,zck])
 unfold zgs
 refine ALoop.own 11 za4 1 rfl ?_
 show zgs (.int .i64 g.length) (.ms H.length 0 g.length g.length) (.ms X.length 0 g.length g.length) (.sl [] (.own (X ++ [AB.cells (zas (List.replicate g.length false))]).length)) (X ++ [AB.cells (zas (List.replicate g.length false))] ++ [.perm za4 1 0]) (Out H.length K)
 rw [show (X ++ [AB.cells (zas (List.replicate g.length false))]).length = X.length + 1 by simp,List.append_assoc]
 refine zLK (Inv:=fun q t11 H'=>C21 g X q t11 H') g.length ?_ ?_
 ·intro _
  exact ⟨_,[],by simp,by simp,Cl.start _ _ _,rfl,by simp [zaZ,rows],by simp⟩
 rintro f t11 H' ⟨L,out,hL,hcf,hCl,hW,rfl,rfl⟩ hsc hlen hsF Kb hKb
 have hol : out.length ≤ g.length:=by
  have:=zik (R:=zaI g) (n:=g.length) g.length (List.replicate g.length false)
  rw [show zcl (zaI g) g.length g.length (List.replicate g.length false) = grp g from rfl,← hW,List.length_append] at this
  omega
 simp only [zxO]
 refine zLL (Inv:=fun q t11 t12 t13 H'=>∃ i : Nat,i ≤ g.length ∧ q = g.length - i ∧ t13 = .int .i64 i ∧
  ((t12 = .bool false ∧ t11 = .sl (zaZ out) (.own (X.length + 1)) ∧ NoB (zaI g) g.length L i ∧ H' = X ++ [.cells (zas L),.perm za4 1 out.length]) ∨ (t12 = .bool true ∧ ∃ f',f' < f ∧ C21 g X f' t11 H'))) g.length ?_ ?_
 ·intro _; exact ⟨0,by omega,by omega,rfl,.inl ⟨rfl,rfl,NoB.zero _ _ _,rfl⟩⟩
 rintro q t11 t12 t13 H' ⟨i,hi,rfl,rfl,hor⟩ hsc1 hlen1 hsF1 Kb1 hKb1
 rcases hor with ⟨rfl,rfl,hno,rfl⟩ | ⟨rfl,f',hf',hC⟩
 ·by_cases hil : i < g.length
  ·have hwi : IntKind.i64.wrap ((i : Int) + 1) = (i : Int) + 1:=zaq (by omega) (by omega)
   have back : ∀ J,(!lst L i && ready (zaI g) g.length L i) = false → Kb1 (zgq (.int .i64 g.length) (.ms H.length 0 g.length g.length) (.ms X.length 0 g.length g.length) (.sl (zaZ out) (.own (X.length + 1))) (.bool false) (.int .i64 ((i : Int) + 1))) (X ++ AB.cells (zas L) :: AB.perm za4 1 out.length :: J):=fun J h=>by
    refine hKb1 _ _ ⟨g.length - (i + 1),by omega,Back.at (J:=J) (H2:=X ++ [.cells (zas L),.perm za4 1 out.length]) (by simp) (by simp) (hsc2 _ _) ?_ ⟨_,_,_,rfl,i + 1,by omega,rfl,by simp,.inl ⟨rfl,rfl,hno.succ h,rfl⟩⟩⟩
    simp [zgq,AV.sc,AV.scV,AV.scA,AV.scB]; omega
   have hgl:=zd8 (zir (L:=L) (k:=i) (by omega))
   cases hli : lst L i with
   | true=>
    rw [hli] at hgl
    have:=back [] (by rw [hli]; rfl)
    simp [zgp,hil,hL,hp0,zaK 1 hgl,zgr,zlA,hwi]
    exact this
   | false=>
    rw [hli] at hgl
    simp [zgp,hil,hL,hp0,zaK 1 hgl]
    unfold zlB
    refine ALoop.own 14 zaQ 1 rfl ?_
    show zlB (.int .i64 g.length) (.ms H.length 0 g.length g.length) (.ms X.length 0 g.length g.length) (.sl (zaZ out) (.own (X.length + 1))) (.bool false) (.int .i64 i) (.sl [] (.own (X ++ [AB.cells (zas L),AB.perm za4 1 out.length]).length)) (.bool true) (.int .i64 0) (X ++ [AB.cells (zas L),AB.perm za4 1 out.length] ++ [.perm zaQ 1 0]) _ _ _
    rw [show (X ++ [AB.cells (zas L),AB.perm za4 1 out.length]).length = X.length + 2 by simp,List.append_assoc]
    obtain ⟨bi,seti,hri,hbi,hsil,hvi⟩:=zi4 hRo hil
    refine zLM (Inv:=fun q t14 t15 t16 H'=>∃ k : Nat,k ≤ g.length ∧ q = g.length - k ∧ t16 = .int .i64 k ∧ t15 = .bool (zdn (zaI g) L i k) ∧ t14 = .sl (ints (toI (zdi (zaI g) i k))) (.own (X.length + 2)) ∧ H' = X ++ [.cells (zas L),.perm za4 1 out.length,.perm zaQ 1 (zdi (zaI g) i k).length]) g.length ?_ ?_
    ·intro _; exact ⟨0,by omega,by omega,rfl,by simp [zdn],by simp [zdi,ints,toI],by simp [zdi]⟩
    rintro q t14 t15 t16 H' ⟨k,hk,rfl,rfl,rfl,rfl,rfl⟩ hsc2' hlen2 hsF2 Kb2 hKb2
    have hcl:=zsF (zaI g) i k
    by_cases hkl : k < g.length
    ·have hwk : IntKind.i64.wrap ((k : Int) + 1) = (k : Int) + 1:=zaq (by omega) (by omega)
     obtain ⟨bk,setk,hrk,hbk,hskl,hvk⟩:=zi4 hRo hkl
     have hv1:=zd8 (hvi k hkl)
     have hv2:=zd8 (hvk i hil)
     have hv3:=zd8 (zir (L:=L) (k:=k) (by omega))
     have hcs:=zAo (zaI g) i k
     have hrs:=zt8 (zaI g) L i k
     have back2 : ∀ l r,zdi (zaI g) i (k + 1) = l → zdn (zaI g) L i (k + 1) = r → Kb2 (zhV (.int .i64 g.length) (.ms H.length 0 g.length g.length) (.ms X.length 0 g.length g.length) (.sl (zaZ out) (.own (X.length + 1))) (.bool false) (.int .i64 i) (.sl (ints (toI l)) (.own (X.length + 2))) (.bool r) (.int .i64 ((k : Int) + 1)))
       (X ++ [AB.cells (zas L),.perm za4 1 out.length,.perm zaQ 1 l.length]):=fun l r h1 h2=>by
      subst h1 h2
      refine hKb2 _ _ ⟨g.length - (k + 1),by omega,Back.at (J:=[]) (H2:=X ++ [.cells (zas L),.perm za4 1 out.length,.perm zaQ 1 (zdi (zaI g) i (k + 1)).length]) (by simp) (by simp) (hsX.append (by simp [AB.sc,zck])) ?_ ⟨_,_,_,rfl,k + 1,by omega,rfl,by simp,rfl,rfl,rfl⟩⟩
      simp [zhV,AV.sc,AV.scV,AV.scA,AV.scB]; omega
     cases h1 : zaI g i k with
     | false=>
      rw [h1] at hv1 hcs hrs
      have:=back2 _ _ hcs hrs
      simp at this
      simp [zfz,hkl,hil,hrl,hrfJ,zaK 1 hri,zaK 1 hrk,hbi,hbk,zaK 1 hv1,zfA,zhW,hwk]
      exact this
     | true=>
      rw [h1] at hv1 hcs hrs
      cases h2 : zaI g k i with
      | true=>
       rw [h2] at hv2 hcs hrs
       have:=back2 _ _ hcs hrs
       simp at this
       simp [zfz,hkl,hil,hrl,hrfJ,zaK 1 hri,zaK 1 hrk,hbi,hbk,zaK 1 hv1,zaK 1 hv2,zfA,zhW,hwk]
       rw [show ∀ k' : AV → Prop,zav 1 [.int .i64 0] 1 [(0,.int .i64 (k : Int))] k' = k' (.sl [[.int .i64 (k : Int)]] .full) from fun k'=>propext Iff.rfl]
       simp [zaC,zbq,za8,hp2,hs2]
       refine ⟨⟨by omega,by omega⟩,?_⟩
       rw [zDp]
       exact this
      | false=>
       rw [h2] at hv2 hcs hrs
       cases h3 : lst L k with
       | true=>
        rw [h3] at hv3 hrs
        have:=back2 _ _ hcs hrs
        simp at this
        simp [zfz,hkl,hil,hL,hrl,hrfJ,zaK 1 hri,zaK 1 hrk,hbi,hbk,zaK 1 hv1,zaK 1 hv2,hp0,zaK 1 hv3,zfA,zhW,hwk]
        exact this
       | false=>
        rw [h3] at hv3 hrs
        have:=back2 _ _ hcs hrs
        simp at this
        simp [zfz,hkl,hil,hL,hrl,hrfJ,zaK 1 hri,zaK 1 hrk,hbi,hbk,zaK 1 hv1,zaK 1 hv2,hp0,zaK 1 hv3,zfA,zhW,hwk]
        exact this
    ·obtain rfl : k = g.length:=by omega
     have hrd : zdn (zaI g) L i g.length = ready (zaI g) g.length L i:=rfl
     have hcm : zdi (zaI g) i g.length = zbQ (zaI g) g.length i:=rfl
     rw [hrd,hcm]
     cases hready : ready (zaI g) g.length L i with
     | false=>
      have:=back [.perm zaQ 1 (zbQ (zaI g) g.length i).length] (by rw [hready]; simp)
      simp [zfz,zgr,zlA,hwi]
      exact this
     | true=>
      have hnx:=hno.next hil hli hready
      have hhd:=zAp hrefl htr hCl hnx
      have hClm:=hCl.mark hL htr i
      have hclt : ∀ k ∈ zbQ (zaI g) g.length i,k < g.length:=fun k hk=>(comp_mem.1 hk).1
      obtain ⟨f',rfl,hgf,hcf'⟩:=ztb hL hrefl hcf hnx
      generalize zbQ (zaI g) g.length i = c at *
      have hc0 : 0 < c.length:=(List.getElem?_eq_some_iff.1 hhd).1
      have hc0e : c[0] = i:=(List.getElem?_eq_some_iff.1 hhd).2
      have hcl2 : c.length ≤ g.length:=by rw [hcm] at hcl; exact hcl
      simp [zfz,hc0,hc0e]
      refine zLN (Inv:=fun q t147 H'=>∃ j : Nat,j ≤ c.length ∧ q = c.length - j ∧ t147 = .int .i64 j ∧ H' = X ++ [.cells (zas (Go.Abs.mark L (c.take j))),.perm za4 1 out.length,.perm zaQ 1 c.length]) c.length ?_ ?_
      ·intro _; exact ⟨0,by omega,by omega,rfl,by simp [Go.Abs.mark]⟩
      rintro q t147 H' ⟨j,hj,rfl,rfl,rfl⟩ hsc3 hlen3 hsF3 Kb3 hKb3
      by_cases hjl : j < c.length
      ·have hcj:=hclt _ (List.getElem_mem hjl)
       have hwj : IntKind.i64.wrap ((j : Int) + 1) = (j : Int) + 1:=zaq (by omega) (by omega)
       simp [zqR,hjl,hcj,hL,hp0,hwj]
       rw [zcy (by simp [hL]; exact hcj),← zA9 hjl]
       refine ⟨by omega,hKb3 _ _ ⟨c.length - (j + 1),by omega,Back.at (J:=[]) (H2:=X ++ [.cells (zas (Go.Abs.mark L (c.take (j + 1)))),.perm za4 1 out.length,.perm zaQ 1 c.length]) (by simp) (by simp) (hsX.append (by simp [AB.sc,zck])) ?_ ⟨_,rfl,j + 1,by omega,rfl,by simp,rfl⟩⟩⟩
       simp [zlw,AV.sc,AV.scV,AV.scA,AV.scB]; omega
      ·obtain rfl : j = c.length:=by omega
       rw [List.take_length]
       simp [zqR]
       rw [show ∀ (es : List (List AV)) (id : Nat) (k' : AV → Prop),zav 1 [.snil] 1 [(0,.sl es (.own id))] k' = k' (.sl [[.sl es .none]] .full) from fun _ _ k'=>propext Iff.rfl]
       simp [zaC,zbq,za8,hp1,hs1]
       refine ⟨⟨by omega,by omega⟩,?_⟩
       rw [zn4]
       simp [zgr,zlA,hwi]
       refine hKb1 _ _ ⟨g.length - (i + 1),by omega,Back.at (J:=[.perm zaQ 1 c.length]) (H2:=X ++ [.cells (zas (Go.Abs.mark L c)),.perm za4 1 (out.length + 1)]) (by simp) (by simp) (hsc2 _ _) ?_ ⟨_,_,_,rfl,i + 1,by omega,rfl,by simp,.inr ⟨rfl,f',by omega,Go.Abs.mark L c,out ++ [c],by simp [hL],hcf',hClm,by rw [List.append_assoc,← hW,hgf]; rfl,rfl,by simp⟩⟩⟩
       simp [zgq,AV.sc,AV.scV,AV.scA,AV.scB]; omega
  ·obtain rfl : i = g.length:=by omega
   rw [ztc hno.none,List.append_nil] at hW
   simp [zgp]
   obtain ⟨J,rfl⟩:=hpre
   rw [hW]
   exact Out.at (J:=J ++ _) (by rw [List.append_assoc]) (Nat.le_refl _) hs (.atom (.sl _ _)) rfl rfl hK
 ·by_cases hil : i < g.length
  ·simp [zgp,hil]
   obtain ⟨L',out',h1,h2,h3,h4,rfl,rfl⟩:=hC
   refine hKb _ _ ⟨f',hf',Back.at (J:=[]) (H2:=X ++ [.cells (zas L'),.perm za4 1 out'.length]) (by simp) (by simp) (hsc2 _ _) ?_ ⟨_,rfl,L',out',h1,h2,h3,h4,rfl,rfl⟩⟩
   simp [zhU,AV.sc,AV.scV,AV.scA,AV.scB]; omega
  ·obtain rfl : i = g.length:=by omega
   simp [zgp]
   obtain ⟨L',out',h1,h2,h3,h4,rfl,rfl⟩:=hC
   refine hKb _ _ ⟨f',hf',Back.at (J:=[]) (H2:=X ++ [.cells (zas L'),.perm za4 1 out'.length]) (by simp) (by simp) (hsc2 _ _) ?_ ⟨_,rfl,L',out',h1,h2,h3,h4,rfl,rfl⟩⟩
   simp [zhU,AV.sc,AV.scV,AV.scA,AV.scB]; omega
theorem zLU (g : List (List Nat)) (hg : GOk g) (hb : g.length ≤ 1000000) (hr : ∀ r ∈ g,r.length ≤ 1000000) (H : zaa) (K : Kt) (hK : K (.sl (zaZ (grp g)) .none) H) : ACalls tP znF [gV g] H K:=by
 refine ACalls.out (zLT fun hs=>?_)
 refine zAr g hg hb hr H _ hs fun refs X hpre hsX hrf hrl hRo=>?_
 simp only [zaN,Int.toNat_natCast]
 refine ⟨by omega,?_⟩
 rw [show (List.replicate g.length [AV.bool false]).flatten = zas (List.replicate g.length false) by simp [zas]]
 exact zAq g hb H X refs hpre hsX hrf hrl hRo hs K hK
theorem zAG (g : List (List Nat)) (hb : g.length ≤ 1000000) (H0 : zaa) (lo : Nat) (X : zaa) (refs : List AV) (hpre : H0 <+: X) (hsX : HSc X) (hrf : X[lo]? = some (.cells refs)) (hrl : refs.length = g.length) (hRo : zeu g lo X g.length refs) (hs : HSc H0) (K : Kt)
  (hK : K (.sl (zaZ (grp g)) .none) H0) :
  zgn (gV g) (.ms lo 0 g.length g.length) (.ms X.length 0 g.length g.length) .snil (.int .i64 0) (X ++ [.cells (zas (List.replicate g.length false))]) (Out H0.length K):=by
 have hHX:=(List.getElem?_eq_some_iff.1 hrf).1
 have hrfJ : ∀ J,(X ++ J)[lo]? = some (.cells refs):=fun J=>zaO hrf
 have hrefl:=zn2 g
 have htr:=zt7 (g:=g)
 have hsc2 : ∀ L m,HSc (X ++ [.cells (zas L),.perm za4 1 m]):=fun L m=>hsX.append (by simp [AB.sc,zck])
 have hgl : ∀ k : AV → Prop,zaj 1 (gV g) k = k (.int .i64 g.length):=fun k=>by simp [gV]
 unfold zgn
 refine ALoop.own 7 za4 1 rfl ?_
 show zgn (gV g) (.ms lo 0 g.length g.length) (.ms X.length 0 g.length g.length) (.sl [] (.own (X ++ [AB.cells (zas (List.replicate g.length false))]).length)) (.int .i64 0) (X ++ [AB.cells (zas (List.replicate g.length false))] ++ [.perm za4 1 0]) (Out H0.length K)
 rw [show (X ++ [AB.cells (zas (List.replicate g.length false))]).length = X.length + 1 by simp,List.append_assoc]
 refine zHU (Inv:=fun q t7 t8 H'=>∃ f i L out,i ≤ g.length ∧ q = f * (g.length + 2) + (g.length - i) ∧ t8 = .int .i64 (i : Nat) ∧ L.length = g.length ∧ L.count false ≤ f ∧ Cl (zaI g) g.length L ∧ NoB (zaI g) g.length L i ∧ out ++ zcl (zaI g) g.length f L = grp g ∧ t7 = .sl (zaZ out) (.own (X.length + 1)) ∧ H' = X ++ [.cells (zas L),.perm za4 1 out.length]) (g.length * (g.length + 2) + g.length) ?_ ?_
 ·intro _
  exact ⟨g.length,0,List.replicate g.length false,[],by omega,by omega,rfl,by simp,by simp,Cl.start _ _ _,NoB.zero _ _ _,rfl,by simp [zaZ,rows],by simp⟩
 rintro q t7 t8 H' ⟨f,i,L,out,hi,rfl,rfl,hL,hcf,hCl,hno,hW,rfl,rfl⟩ hsc hlen hsF Kb hKb
 have hol : out.length ≤ g.length:=by
  have:=zik (R:=zaI g) (n:=g.length) g.length (List.replicate g.length false)
  rw [show zcl (zaI g) g.length g.length (List.replicate g.length false) = grp g from rfl,← hW,List.length_append] at this
  omega
 by_cases hil : i < g.length
 ·have hwi : IntKind.i64.wrap ((i : Int) + 1) = (i : Int) + 1:=zaq (by omega) (by omega)
  have back : ∀ J,(!lst L i && ready (zaI g) g.length L i) = false → Kb (zgk (gV g) (.ms lo 0 g.length g.length) (.ms X.length 0 g.length g.length) (.sl (zaZ out) (.own (X.length + 1))) (.int .i64 ((i : Int) + 1))) (X ++ AB.cells (zas L) :: AB.perm za4 1 out.length :: J):=fun J h=>by
   refine hKb _ _ ⟨f * (g.length + 2) + (g.length - (i + 1)),by omega,Back.at (J:=J) (H2:=X ++ [.cells (zas L),.perm za4 1 out.length]) (by simp) (by simp) (hsc2 _ _) ?_ ⟨_,_,rfl,f,i + 1,L,out,by omega,rfl,by simp,hL,hcf,hCl,hno.succ h,hW,rfl,rfl⟩⟩
   simp [zgk,AV.sc,AV.scV,AV.scA,AV.scB,gV]; omega
  have hgt:=zd8 (zir (L:=L) (k:=i) (by omega))
  cases hli : lst L i with
  | true=>
   rw [hli] at hgt
   have:=back [] (by rw [hli]; rfl)
   simp [zko,hgl,hil,hL,hp0,zaK 1 hgt,zgl,zkq,hwi]
   exact this
  | false=>
   rw [hli] at hgt
   simp [zko,hgl,hil,hL,hp0,zaK 1 hgt]
   simp only [zaN,Int.toNat_natCast]
   refine ⟨by omega,?_⟩
   obtain ⟨st0,hst0,hst0l⟩ : ∃ st0,st0 = List.replicate g.length false ∧ st0.length = g.length:=⟨_,rfl,by simp⟩
   rw [show (List.replicate g.length [AV.bool false]).flatten = zas st0 by rw [hst0]; simp [zas]]
   clear hst0
   rw [show (X ++ [AB.cells (zas L),AB.perm za4 1 out.length]).length = X.length + 2 by simp,List.append_assoc]
   obtain ⟨bi,seti,hri,hbi,hsil,hvi⟩:=zi4 hRo hil
   simp [hgl]
   refine zHV (Inv:=fun q t9 t48 H'=>∃ k : Nat,k ≤ g.length ∧ q = g.length - k ∧ t48 = .int .i64 k ∧ t9 = .bool (zdn (zaI g) L i k) ∧ H' = X ++ [.cells (zas L),.perm za4 1 out.length,.cells (zas (zb8 (zaI g) i k st0))]) g.length ?_ ?_
   ·intro _; exact ⟨0,by omega,by omega,rfl,by simp [zdn],by simp [zAn]⟩
   rintro q t9 t48 H' ⟨k,hk,rfl,rfl,rfl,rfl⟩ hsc2' hlen2 hsF2 Kb2 hKb2
   by_cases hkl : k < g.length
   ·have hwk : IntKind.i64.wrap ((k : Int) + 1) = (k : Int) + 1:=zaq (by omega) (by omega)
    obtain ⟨bk,setk,hrk,hbk,hskl,hvk⟩:=zi4 hRo hkl
    have hv1:=zd8 (hvi k hkl)
    have hv2:=zd8 (hvk i hil)
    have hv3:=zd8 (zir (L:=L) (k:=k) (by omega))
    have hcs:=zAm (zaI g) i k st0 (by omega)
    have hrs:=zt8 (zaI g) L i k
    have hsl:=zmP (zaI g) i k st0
    rw [hst0l] at hsl
    have hkc : k < (zb8 (zaI g) i k st0).length:=by omega
    have hv4 : ∀ b,(zas ((zb8 (zaI g) i k st0).set k b))[k]? = some (.bool b):=fun b=>zd8 (List.getElem?_set_self hkc)
    have hbs:=fun b=>zcy (l:=zb8 (zaI g) i k st0) (i:=k) (b:=b) hkc
    have back2 : ∀ r b,(zaI g i k && zaI g k i) = b → zdn (zaI g) L i (k + 1) = r → Kb2 (zhw (gV g) (.ms lo 0 g.length g.length) (.ms X.length 0 g.length g.length) (.sl (zaZ out) (.own (X.length + 1))) (.int .i64 i) (.bool r) (.ms (X.length + 2) 0 g.length g.length) (.int .i64 g.length) (.int .i64 ((k : Int) + 1)))
      (X ++ [AB.cells (zas L),.perm za4 1 out.length,.cells (zas ((zb8 (zaI g) i k st0).set k b))]):=fun r b h1 h2=>by
     subst h1 h2
     rw [← hcs]
     refine hKb2 _ _ ⟨g.length - (k + 1),by omega,Back.at (J:=[]) (H2:=X ++ [.cells (zas L),.perm za4 1 out.length,.cells (zas (zb8 (zaI g) i (k + 1) st0))]) (by simp) (by simp) (hsX.append (by simp [AB.sc,zck])) ?_ ⟨_,_,rfl,k + 1,by omega,rfl,by simp,rfl,rfl⟩⟩
     simp [zhw,AV.sc,AV.scV,AV.scA,AV.scB,gV]; omega
    generalize zb8 (zaI g) i k st0 = stk at *
    cases h1 : zaI g i k with
    | false=>
     rw [h1] at hv1 hrs
     have:=back2 _ false (by rw [h1]; rfl) hrs
     simp at this
     simp [zfr,hkl,hil,hrl,hrfJ,zaK 1 hri,zaK 1 hrk,hbi,hbk,zaK 1 hv1,hp2,hs2,hsl,hbs,zaK 1 (hv4 _),zgm,zhx,hwk]
     refine ⟨by omega,?_⟩
     exact this
    | true=>
     rw [h1] at hv1 hrs
     cases h2 : zaI g k i with
     | true=>
      rw [h2] at hv2 hrs
      have:=back2 _ true (by rw [h1,h2]; rfl) hrs
      simp at this
      simp [zfr,hkl,hil,hrl,hrfJ,zaK 1 hri,zaK 1 hrk,hbi,hbk,zaK 1 hv1,zaK 1 hv2,hp2,hs2,hsl,hbs,zaK 1 (hv4 _),zgm,zhx,hwk]
      refine ⟨by omega,?_⟩
      exact this
     | false=>
      rw [h2] at hv2 hrs
      cases h3 : lst L k with
      | true=>
       rw [h3] at hv3 hrs
       have:=back2 _ false (by rw [h1,h2]; rfl) hrs
       simp at this
       simp [zfr,hkl,hil,hL,hrl,hrfJ,zaK 1 hri,zaK 1 hrk,hbi,hbk,zaK 1 hv1,zaK 1 hv2,hp0,zaK 1 hv3,hp2,hs2,hsl,hbs,zaK 1 (hv4 _),zgm,zhx,hwk]
       refine ⟨by omega,?_⟩
       exact this
      | false=>
       rw [h3] at hv3 hrs
       have:=back2 _ false (by rw [h1,h2]; rfl) hrs
       simp at this
       simp [zfr,hkl,hil,hL,hrl,hrfJ,zaK 1 hri,zaK 1 hrk,hbi,hbk,zaK 1 hv1,zaK 1 hv2,hp0,zaK 1 hv3,hp2,hs2,hsl,hbs,zaK 1 (hv4 _),zgm,zhx,hwk]
       refine ⟨by omega,?_⟩
       exact this
   ·obtain rfl : k = g.length:=by omega
    have hrd : zdn (zaI g) L i g.length = ready (zaI g) g.length L i:=rfl
    have hcm : mem (zb8 (zaI g) i g.length st0) = toI (zbQ (zaI g) g.length i):=by rw [znf,← hst0l,zAl]
    have hsl:=zmP (zaI g) i g.length st0
    rw [hst0l] at hsl
    rw [hrd]
    cases hready : ready (zaI g) g.length L i with
    | false=>
     have:=back [.cells (zas (zb8 (zaI g) i g.length st0))] (by rw [hready]; simp)
     simp [zfr,zgl,zkq,hwi]
     exact this
    | true=>
     have hnx:=hno.next hil hli hready
     have hClm:=hCl.mark hL htr i
     have hclt : ∀ k ∈ zbQ (zaI g) g.length i,k < g.length:=fun k hk=>(comp_mem.1 hk).1
     have hcl2:=zsG (zaI g) g.length i
     obtain ⟨f',rfl,hgf,hcf'⟩:=ztb hL hrefl hcf hnx
     simp [zfr]
     refine zxE (hp2 _ _ _ _ _) hsl hb _ ?_
     rw [hcm]
     generalize zbQ (zaI g) g.length i = c at *
     refine zBI (hp0 _ _ _) hL (by simp; omega) (fun x hx=>?_) _ ?_
     ·obtain ⟨y,hy,rfl⟩:=List.mem_map.1 hx
      have:=hclt y hy
      omega
     rw [zCE,hs0]
     rw [show ∀ (es : List (List AV)) (k' : AV → Prop),zav 1 [.snil] 1 [(0,.sl es .none)] k' = k' (.sl [[.sl es .none]] .full) from fun _ k'=>propext Iff.rfl]
     simp [zaC,zbq,za8,hp1,hs1]
     refine ⟨⟨by omega,by omega⟩,?_⟩
     rw [zn4]
     simp [zgl,zkq]
     refine hKb _ _ ⟨f' * (g.length + 2) + (g.length - 0),?_,Back.at (J:=[.cells (zas (zb8 (zaI g) i g.length st0))]) (H2:=X ++ [boB (Go.Abs.mark L c),.perm za4 1 (out.length + 1)]) (by simp; rfl) (by simp) (hsc2 _ _) ?_ ⟨_,_,rfl,f',0,Go.Abs.mark L c,out ++ [c],by omega,rfl,by simp; exact zaq (by omega) (by omega),by simp [hL],hcf',hClm,NoB.zero _ _ _,by rw [List.append_assoc,← hW,hgf]; rfl,rfl,by simp [boB]⟩⟩
     ·rw [Nat.succ_mul]; omega
     ·simp [zgk,AV.sc,AV.scV,AV.scA,AV.scB,gV]; omega
 ·obtain rfl : i = g.length:=by omega
  rw [ztc hno.none,List.append_nil] at hW
  simp [zko,hgl]
  obtain ⟨J,rfl⟩:=hpre
  rw [hW]
  exact Out.at (J:=J ++ _) (by rw [List.append_assoc]) (Nat.le_refl _) hs (.atom (.sl _ _)) rfl rfl hK
def OwnB (n : Nat) (st : List Int) : Prop:=∀ x ∈ st,∃ o : Nat,x = o ∧ o < n
theorem OwnB.set {n : Nat} {st : List Int} (h : OwnB n st) (k o : Nat) (ho : o < n) : OwnB n (st.set k (o : Int)):=fun x hx=>by
 rcases List.mem_or_eq_of_mem_set hx with hx | rfl
 ·exact h x hx
 ·exact ⟨o,rfl,ho⟩
theorem ztR {n : Nat} : ∀ (l : List Cod) (i : Nat) (st : List Int),i + l.length ≤ n → OwnB n st → OwnB n (ownC l i st)
 | [],_,_,_,h=>h
 | f :: l,i,st,hi,h=>by
  simp only [List.length_cons] at hi
  exact ztR l (i + 1) _ (by omega) (h.set _ i (by omega))
theorem ztV {n : Nat} (hn : 0 < n) (i : Nat) : ∀ (l : List Int) (st : List Int),OwnB n st → OwnB n (zdm i l st)
 | [],_,h=>h
 | k :: l,st,h=>by
  obtain ⟨o,ho,hlt⟩ : ∃ o : Nat,st.getD i 0 = o ∧ o < n:=by
   rw [List.getD_eq_getElem?_getD]
   cases hg : st[i]? with
   | none=>exact ⟨0,rfl,hn⟩
   | some x=>exact h x (List.mem_of_getElem? hg)
  rw [zdm,ho]
  exact ztV hn i l _ (h.set _ o hlt)
theorem ztT {n : Nat} (hn : 0 < n) : ∀ (l : List CEx) (i : Nat) (st : List Int),OwnB n st → OwnB n (zcu l i st)
 | [],_,_,h=>h
 | e :: l,i,st,h=>ztT hn l (i + 1) _ (ztV hn i _ _ h)
@[simp] theorem zSC (c : Cor) : (zaW c).length = c.exprs.length:=by rw [zaW,ztU,ztS]; simp
theorem zBz {c : Cor} (h0 : 0 < c.codes.length) {k : Nat} (hk : k < c.exprs.length) : ∃ o : Nat,(zaW c)[k]? = some (o : Int) ∧ o < c.codes.length:=by
 have hb : OwnB c.codes.length (zaW c):=ztT h0 _ _ _ (ztR _ _ _ (by omega) fun x hx=>by
  rw [List.mem_replicate] at hx
  exact ⟨0,hx.2,h0⟩)
 have hl : k < (zaW c).length:=by simpa using hk
 obtain ⟨o,ho,hlt⟩:=hb _ (List.getElem_mem hl)
 exact ⟨o,by rw [List.getElem?_eq_getElem hl,ho],hlt⟩
def zch (b n i : Nat) : List AV:=(List.range n).map fun j=>if j < i then .ms (b + j) 0 n n else .snil
@[simp] theorem zSD (b n i : Nat) : (zch b n i).length = n:=by simp [zch]
theorem zBU (b n : Nat) : zch b n 0 = List.replicate n .snil:=by
 refine List.ext_getElem (by simp) fun i h1 h2=>by simp [zch]
theorem zBT {b n i : Nat} (h : i < n) : (zch b n i).set i (.ms (b + i) 0 n n) = zch b n (i + 1):=by
 refine List.ext_getElem (by simp) fun j h1 h2=>?_
 rw [List.getElem_set]
 by_cases hj : i = j
 ·subst hj; simp [zch]
 ·have : (j < i + 1) = (j < i):=propext ⟨fun h=>by omega,fun h=>by omega⟩
  simp [zch,hj,this]
theorem zt9 {b n i j : Nat} (h : j < i) (hn : j < n) : (zch b n i)[j]? = some (.ms (b + j) 0 n n):=by simp [zch,hn,h]
theorem zua {b n i m : Nat} (h : b + i ≤ m) : (zch b n i).all (AV.scA m) = true:=by
 simp only [List.all_eq_true]
 intro x hx
 obtain ⟨j,hj,rfl⟩:=List.mem_map.1 hx
 have:=List.mem_range.1 hj
 by_cases hji : j < i
 ·simp [hji,AV.scA,AV.scB]; omega
 ·simp [hji,AV.scA,AV.scB]
def zcH (c : Cor) (own : List Int) (k : Nat) : List AB:=(List.range c.codes.length).map fun j=>boB (zbc c own j k)
@[simp] theorem zSE (c : Cor) (own : List Int) (k : Nat) : (zcH c own k).length = c.codes.length:=by simp [zcH]
theorem zCi (c : Cor) (own : List Int) : zcH c own 0 = List.replicate c.codes.length (boB (List.replicate c.codes.length false)):=by
 refine List.ext_getElem (by simp) fun i h1 h2=>by simp [zcH,zbc]
theorem zCf {c : Cor} {own : List Int} {k : Nat} (hk : k < c.exprs.length) (h : isC c.exprs[k] = false) : zcH c own (k + 1) = zcH c own k:=by
 unfold zcH
 refine List.map_congr_left fun j _=>?_
 rw [zbc,List.getElem?_eq_getElem hk]
 simp [h]
theorem zCh {c : Cor} {own : List Int} {k o n : Nat} (hk : k < c.exprs.length) (h : isC c.exprs[k] = true) (ho : own[k]? = some (o : Int)) (hn : (c.exprs[k]).num = n) (hlt : o < c.codes.length) :
  (zcH c own k).set o (boB ((zbc c own o k).set n true)) = zcH c own (k + 1):=by
 have hd : own.getD k 0 = o:=by rw [List.getD_eq_getElem?_getD,ho]; rfl
 refine List.ext_getElem (by simp) fun j h1 h2=>?_
 rw [List.getElem_set]
 by_cases hj : o = j
 ·subst hj
  simp only [zcH,List.getElem_map,List.getElem_range,if_pos]
  rw [zbc,List.getElem?_eq_getElem hk]
  simp only [h,hd,hn,Bool.true_and,beq_self_eq_true,if_true,Int.toNat_natCast]
 ·simp only [zcH,List.getElem_map,List.getElem_range,if_neg hj]
  rw [zbc,List.getElem?_eq_getElem hk]
  have : ((o : Int) == (j : Int)) = false:=by simp; omega
  simp only [h,hd,this,Bool.and_false,Bool.false_eq_true,if_false]
theorem zCe {c : Cor} {own : List Int} {k j : Nat} (h : j < c.codes.length) : (zcH c own k)[j]? = some (boB (zbc c own j k)):=by simp [zcH,h]
theorem zCg (c : Cor) (own : List Int) (k m : Nat) : ∀ b ∈ zcH c own k,b.sc m = true:=by
 intro b hb
 obtain ⟨j,_,rfl⟩:=List.mem_map.1 hb
 simp [boB,AB.sc,zck]
def zc7 (g : List (List Nat)) (i : Nat) : List AV:=(List.range g.length).map fun j=>if j < i then .sl (ints (toI (g.getD j []))) .none else .snil
@[simp] theorem zBu (g : List (List Nat)) (i : Nat) : (zc7 g i).length = g.length:=by simp [zc7]
theorem zBx (g : List (List Nat)) : zc7 g 0 = List.replicate g.length .snil:=by
 refine List.ext_getElem (by simp) fun i h1 h2=>by simp [zc7]
theorem zBw {g : List (List Nat)} {i : Nat} (h : i < g.length) : (zc7 g i).set i (.sl (ints (toI g[i])) .none) = zc7 g (i + 1):=by
 refine List.ext_getElem (by simp) fun j h1 h2=>?_
 rw [List.getElem_set]
 by_cases hj : i = j
 ·subst hj; simp [zc7,List.getD_eq_getElem?_getD,h]
 ·have : (j < i + 1) = (j < i):=propext ⟨fun h=>by omega,fun h=>by omega⟩
  simp [zc7,hj,this]
theorem zBv (g : List (List Nat)) (i m : Nat) : (zc7 g i).all (AV.scA m) = true:=by
 simp only [List.all_eq_true]
 intro x hx
 obtain ⟨j,hj,rfl⟩:=List.mem_map.1 hx
 by_cases hji : j < i <;> simp [hji,AV.scA,AV.scB]
theorem zBt (g : List (List Nat)) : zc7 g g.length = g.map fun r=>.sl (ints (toI r)) .none:=by
 refine List.ext_getElem (by simp) fun i h1 h2=>?_
 simp only [zBu] at h1
 simp [zc7,h1,List.getD_eq_getElem?_getD]
theorem zt3 : ∀ g : List (List Nat),zbn (g.map fun r=>AV.sl (ints (toI r)) .none) = some (g.map fun r=>AV.sl (ints (toI r)) .none)
 | []=>rfl
 | r :: g=>by rw [List.map_cons,zbn,zt3 g]; rfl
theorem zue : ∀ g : List (List Nat),(zaZ g).flatten = g.map fun r=>AV.sl (ints (toI r)) .none
 | []=>rfl
 | r :: g=>by
  have:=zue g
  simp [zaZ,rows] at this ⊢
  exact this
def zb7 (c : Cor) (H : zaa) (k : Nat) : zaa:=H ++ .cells c.cs :: .cells (zch (H.length + 2) c.codes.length c.codes.length) :: zcH c (zaW c) k
theorem zgK (c : Cor) (H : zaa) (k : Nat) : (zb7 c H k).length = H.length + 2 + c.codes.length:=by simp [zb7]; omega
theorem zst (c : Cor) (H : zaa) (k : Nat) : (zb7 c H k)[H.length + 1]? = some (.cells (zch (H.length + 2) c.codes.length c.codes.length)):=by
 rw [zb7,List.getElem?_append_right (by omega)]; simp
theorem zsu (c : Cor) (H : zaa) (k : Nat) {j : Nat} (h : j < c.codes.length) : (zb7 c H k)[H.length + 2 + j]? = some (boB (zbc c (zaW c) j k)):=by
 rw [zb7,List.getElem?_append_right (by omega),show H.length + 2 + j - H.length = j + 2 by omega,List.getElem?_cons_succ,List.getElem?_cons_succ,zCe h]
theorem zzU (c : Cor) (H : zaa) (k : Nat) (j : Nat) (b : AB) : (zb7 c H k).set (H.length + 2 + j) b = H ++ .cells c.cs :: .cells (zch (H.length + 2) c.codes.length c.codes.length) :: (zcH c (zaW c) k).set j b:=by
 rw [zb7,List.set_append_right _ _ (by omega),show H.length + 2 + j - H.length = j + 2 by omega]; rfl
theorem zsv {c : Cor} {H : zaa} (hs : HSc H) (k : Nat) : HSc (zb7 c H k):=by
 refine hs.append ?_
 simp only [List.all_cons,Bool.and_eq_true,List.all_eq_true]
 refine ⟨by simp [AB.sc,Cor.cs,AV.scA,AV.scB],?_,fun b hb=>zCg _ _ _ _ b hb⟩
 simp only [AB.sc]
 exact zua (by simp; omega)
theorem zz4 {c : Cor} (hk : zaP c) {H : zaa} (hs : HSc H) (K : Kt) (hK : K (.sl (zaZ (zbV c)) .none) H) :
  zpA (.ms (H.length + 2 + c.codes.length) 0 c.codes.length c.codes.length) (.ms (H.length + 1) 0 c.codes.length c.codes.length) (.int .i64 c.codes.length) (.int .i64 0) (zb7 c H c.exprs.length ++ [.cells (List.replicate c.codes.length .snil)]) (Out H.length K):=by
 obtain ⟨k1,k2,k3,⟨k4,k5⟩,k6,k7⟩:=hk
 have hgl : (zbV c).length = c.codes.length:=zmF c
 have hXl:=zgK c H c.exprs.length
 have hXr:=zst c H c.exprs.length
 have hXo:=fun j (h : j < c.codes.length)=>zsu c H c.exprs.length h
 have hXs:=zsv (c:=c) hs c.exprs.length
 have hpre : ∃ J,zb7 c H c.exprs.length = H ++ J:=⟨_,rfl⟩
 generalize zb7 c H c.exprs.length = X at *
 have hsX : ∀ i,HSc (X ++ [.cells (zc7 (zbV c) i)]):=fun i=>hXs.append (by simp [AB.sc,zBv])
 have hXrJ : ∀ J,(X ++ J)[H.length + 1]? = some (.cells (zch (H.length + 2) c.codes.length c.codes.length)):=fun J=>zaO hXr
 rw [← hXl]
 refine zHD (Inv:=fun q tI H'=>∃ i : Nat,i ≤ c.codes.length ∧ q = c.codes.length - i ∧ tI = .int .i64 i ∧ H' = X ++ [.cells (zc7 (zbV c) i)]) c.codes.length ?_ ?_
 ·intro _; exact ⟨0,by omega,by omega,rfl,by rw [zBx,hgl]⟩
 rintro q tI H' ⟨i,hi,rfl,rfl,rfl⟩ hsc hlen hsF Kb hKb
 by_cases hlt : i < c.codes.length
 ·have hri:=zt9 (b:=H.length + 2) hlt hlt
  have hml : (zbc c (zaW c) i c.exprs.length).length = c.codes.length:=zgL _ _ _ _
  have hmm : mem (zbc c (zaW c) i c.exprs.length) = toI ((zbV c)[i]'(by omega)):=by simp [znf,zbV,zgM]
  have hst:=zBw (g:=zbV c) (i:=i) (by omega)
  simp [zpx,hlt,hXrJ,zaK 1 hri]
  refine zxE (zaO (hXo i hlt)) hml (by omega) _ ?_
  rw [hmm]
  simp [hlt,hgl]
  rw [List.set_eq_take_append_cons_drop,if_pos (by simp [hgl,hlt])] at hst
  rw [zaq (by omega) (by omega),hst]
  refine ⟨by omega,hKb _ _ ⟨c.codes.length - (i + 1),by omega,Back.here (by simp) (hsX _) ?_ ⟨_,rfl,i + 1,by omega,rfl,by simp,rfl⟩⟩⟩
  simp [zkk,AV.sc,AV.scV,AV.scA,AV.scB]; omega
 ·obtain rfl : i = c.codes.length:=by omega
  simp [zpx]
  obtain ⟨J,rfl⟩:=hpre
  have hfull:=zBt (zbV c)
  rw [hgl] at hfull
  rw [hfull,List.append_assoc]
  refine ⟨_,H,_,rfl,Nat.le_refl _,hs,.one (.frz (H ++ J).length 0 _ _ 1 ((zbV c).map fun r=>.sl (ints (toI r)) .none) (zaZ (zbV c)) (by simp) ?_ (by simp [hgl]) ?_ (by simp [hgl]) (by simp [zaZ,rows]) (Nat.le_refl _)),hK⟩
  ·rw [← List.append_assoc]; simp
  ·rw [List.drop_zero,List.take_of_length_le (by simp [hgl]),zt3,zue]
theorem zz3 {c : Cor} (hk : zaP c) (hv : vOk c = true) {H : zaa} (hs : HSc H) (K : Kt) (hK : K (.sl (zaZ (zbV c)) .none) H) :
  zpz (.ms (H.length + 1) 0 c.codes.length c.codes.length) (.sl (ints (zaW c)) .none) (.sl (c.exprs.map CEx.cs) .none) (.int .i64 c.exprs.length) (.int .i64 0) (zb7 c H 0) (Out H.length K):=by
 have hk':=hk
 obtain ⟨k1,k2,k3,⟨k4,k5⟩,k6,k7⟩:=hk
 refine zHC (Inv:=fun q tI H'=>∃ k : Nat,k ≤ c.exprs.length ∧ q = c.exprs.length - k ∧ tI = .int .i64 k ∧ H' = zb7 c H k) c.exprs.length ?_ ?_
 ·intro _; exact ⟨0,by omega,by omega,rfl,rfl⟩
 rintro q tI H' ⟨k,hkl,rfl,rfl,rfl⟩ hsc hlen hsF Kb hKb
 by_cases hlt : k < c.exprs.length
 ·obtain ⟨x,y,z,hvv,hx,hy,hz,hce⟩:=zdw hlt
  have hwk : IntKind.i64.wrap ((k : Int) + 1) = (k : Int) + 1:=zaq (by omega) (by omega)
  have hcn:=zsx hv hlt
  have hno:=zCf (own:=zaW c) hlt
  have hyes:=fun o n=>zCh (own:=zaW c) (o:=o) (n:=n) hlt
  have back : ∀ (J : zaa),Kb (zgh (.ms (H.length + 1) 0 c.codes.length c.codes.length) (.sl (ints (zaW c)) .none) (.sl (c.exprs.map CEx.cs) .none) (.int .i64 c.exprs.length) (.int .i64 ((k : Int) + 1))) (zb7 c H (k + 1) ++ J):=fun J=>by
   refine hKb _ _ ⟨c.exprs.length - (k + 1),by omega,Back.at (J:=J) (H2:=zb7 c H (k + 1)) rfl (by simp [zgK]) (zsv hs _) ?_ ⟨_,rfl,k + 1,by omega,rfl,by simp,rfl⟩⟩
   simp [zgh,AV.sc,AV.scV,AV.scA,AV.scB,zgK]; omega
  have hXl:=zgK c H k
  have hXr:=zst c H k
  have hXo:=fun j (h : j < c.codes.length)=>zsu c H k h
  have hXt:=zzU c H k
  have hbk : ∀ J,isC c.exprs[k] = false → Kb (zgh (.ms (H.length + 1) 0 c.codes.length c.codes.length) (.sl (ints (zaW c)) .none) (.sl (c.exprs.map CEx.cs) .none) (.int .i64 c.exprs.length) (.int .i64 ((k : Int) + 1))) (zb7 c H k ++ J):=fun J h=>by
   have:=back J
   rw [zb7,hno h] at this
   exact this
  generalize hE : c.exprs[k] = E at *
  generalize hX : zb7 c H k = X at *
  by_cases hC : isC E = true
  ·obtain ⟨n,hn,hnl⟩:=hcn hC
   obtain ⟨o,ho,hol⟩:=zBz (c:=c) (by omega) hlt
   have hrow:=hXo o hol
   have hrJ : ∀ J,(X ++ J)[H.length + 2 + o]? = some (.cells (zas (zbc c (zaW c) o k))):=fun J=>zaO hrow
   have hXrJ : ∀ J,(X ++ J)[H.length + 1]? = some (.cells (zch (H.length + 2) c.codes.length c.codes.length)):=fun J=>zaO hXr
   have hri:=zt9 (b:=H.length + 2) hol hol
   have hlen1 : (zbc c (zaW c) o k).length = c.codes.length:=zgL _ _ _ _
   have hsetX:=hXt o (boB ((zbc c (zaW c) o k).set n true))
   rw [hyes o n hC ho hn hol] at hsetX
   have hnk : n < (zbc c (zaW c) o k).length:=by omega
   have hbs:=zcy hnk true
   have hXs : ∀ J b,(X ++ J).set (H.length + 2 + o) b = X.set (H.length + 2 + o) b ++ J:=fun J b=>List.set_append_left _ _ (by rw [hXl]; omega)
   have hoi : (ints (zaW c))[k]? = some [.int .i64 (o : Int)]:=by simp [ints,ho]
   have hop : (E.op = 12) ∨ (E.op = 11 ∧ E.op ≠ 12):=by
    simp [isC] at hC
    omega
   have hget : (zaW c)[k]'(by simpa using hlt) = (o : Int):=by
    rw [List.getElem?_eq_getElem (by simpa using hlt)] at ho
    exact Option.some.inj ho
   rcases hop with h12 | ⟨h11,h12⟩
   ·have hb12 : (E.op == 12) = true:=by simp [h12]
    simp [zhq,hlt,hE,hce,hx,hy,hz,hb12,hget,hol,hXrJ,zaK 1 hri,hn,hnl,hrJ,hlen1,zhr,zkm,hwk,hXs,hbs]
    refine ⟨by omega,?_⟩
    rw [show AB.cells (zas ((zbc c (zaW c) o k).set n true)) = boB ((zbc c (zaW c) o k).set n true) from rfl,hsetX]
    exact back _
   ·have hb12 : (E.op == 12) = false:=by simp [h12]
    have hb11 : (E.op == 11) = true:=by simp [h11]
    simp [zhq,hlt,hE,hce,hx,hy,hz,hb12,hb11,hget,hol,hXrJ,zaK 1 hri,hn,hnl,hrJ,hlen1,zhr,zkm,hwk,hXs,hbs]
    refine ⟨by omega,?_⟩
    rw [show AB.cells (zas ((zbc c (zaW c) o k).set n true)) = boB ((zbc c (zaW c) o k).set n true) from rfl,hsetX]
    exact back _
  ·have hC : isC E = false:=by simpa using hC
   have h12 : ¬ E.op = 12:=by simp [isC] at hC; exact hC.2
   have h11 : ¬ E.op = 11:=by simp [isC] at hC; exact hC.1
   have hb12 : (E.op == 12) = false:=by simp [h12]
   have hb11 : (E.op == 11) = false:=by simp [h11]
   simp [zhq,hlt,hE,hce,hx,hy,hz,hb12,hb11,zhr,zkm,hwk]
   exact hbk _ hC
 ·obtain rfl : k = c.exprs.length:=by omega
  have:=zz4 hk' hs K hK
  have hXl:=zgK c H c.exprs.length
  simp [zhq]
  simp only [zaN,Int.toNat_natCast]
  refine ⟨⟨by omega,by omega⟩,?_⟩
  rw [hXl]
  simpa using this
theorem zz5 {c : Cor} (hk : zaP c) (hv : vOk c = true) {H : zaa} (hs : HSc H) (K : Kt) (hK : K (.sl (zaZ (zbV c)) .none) H) :
  zpB (.ptr H.length 0) (.ms (H.length + 1) 0 c.codes.length c.codes.length) (.int .i64 c.codes.length) (.int .i64 0) (H ++ [.cells c.cs,.cells (List.replicate c.codes.length .snil)]) (Out H.length K):=by
 have hk':=hk
 obtain ⟨k1,k2,k3,⟨k4,k5⟩,k6,k7⟩:=hk
 have hat : c.cs = [.sl (c.data.map Dat.cs) .none,.sl (c.codes.map Cod.cs) .none,.sl (VT.css c.vars) .none,.sl (c.exprs.map CEx.cs) .none]:=rfl
 have hsX : ∀ i,HSc (H ++ .cells c.cs :: .cells (zch (H.length + 2) c.codes.length i) :: List.replicate i (boB (List.replicate c.codes.length false))):=fun i=>hs.append (by
  simp only [List.all_cons,Bool.and_eq_true,List.all_eq_true]
  refine ⟨by simp [AB.sc,Cor.cs,AV.scA,AV.scB],?_,fun b hb=>?_⟩
  ·simp only [AB.sc]
   exact zua (by simp; omega)
  ·rw [(List.mem_replicate.1 hb).2]; simp [boB,AB.sc,zck])
 refine zHE (Inv:=fun q tI H'=>∃ i : Nat,i ≤ c.codes.length ∧ q = c.codes.length - i ∧ tI = .int .i64 i ∧ H' = H ++ .cells c.cs :: .cells (zch (H.length + 2) c.codes.length i) :: List.replicate i (boB (List.replicate c.codes.length false))) c.codes.length ?_ ?_
 ·intro _; exact ⟨0,by omega,by omega,rfl,by rw [zBU]; rfl⟩
 rintro q tI H' ⟨i,hi,rfl,rfl,rfl⟩ hsc hlen hsF Kb hKb
 by_cases hlt : i < c.codes.length
 ·have hwk : IntKind.i64.wrap ((i : Int) + 1) = (i : Int) + 1:=zaq (by omega) (by omega)
  have hst:=zBT (b:=H.length + 2) hlt
  have hrep : (List.replicate c.codes.length [AV.bool false]).flatten = zas (List.replicate c.codes.length false):=by simp [zas]
  have hlenI : (H ++ .cells c.cs :: .cells (zch (H.length + 2) c.codes.length i) :: List.replicate i (boB (List.replicate c.codes.length false))).length = H.length + 2 + i:=by simp; omega
  simp [zpy,hlt,hp0,hat]
  simp only [zaN,Int.toNat_natCast]
  refine ⟨by omega,?_⟩
  rw [List.set_eq_take_append_cons_drop,if_pos (by simp [hlt])] at hst
  rw [← hat,hlenI,hrep]
  simp [hp1,hs1,hlt,hst,hwk]
  have:=hsX (i + 1)
  rw [List.replicate_succ'] at this
  refine ⟨by omega,hKb _ _ ⟨c.codes.length - (i + 1),by omega,Back.here (by simp) (by simpa [boB] using this) ?_ ⟨_,rfl,i + 1,by omega,rfl,by simp,by rw [List.replicate_succ']; rfl⟩⟩⟩
  simp [zkl,AV.sc,AV.scV,AV.scA,AV.scB]
 ·obtain rfl : i = c.codes.length:=by omega
  have:=zz3 hk' hv hs K hK
  simp [zpy,hp0,hat]
  rw [← hat]
  refine zLb c hk' (zso hv) _ _ ?_
  simp [hp0,hat]
  simp [zb7,zCi,hat] at this
  exact this
theorem zv6 (c : Cor) (hk : zaP c) (H : zaa) (K : Kt) (hK : K (gV (zbT c)) H) : ACalls tP ziH [.agg c.cs] H K:=by
 refine ACalls.out (zHI fun hs=>?_)
 have hk':=hk
 obtain ⟨k1,k2,k3,⟨k4,k5⟩,k6,k7⟩:=hk'
 have hat : c.cs = [.sl (c.data.map Dat.cs) .none,.sl (c.codes.map Cod.cs) .none,.sl (VT.css c.vars) .none,.sl (c.exprs.map CEx.cs) .none]:=rfl
 rw [zii] at hK
 simp [zv5,hat]
 rw [← hat]
 refine zFx c hk _ _ ?_
 cases hv : vOk c with
 | false=>
  rw [zbT,if_neg (by simp [hv])] at hK
  simp
  exact znX hs hK
 | true=>
  rw [zbT,if_pos hv] at hK
  simp [hat]
  simp only [zaN,Int.toNat_natCast]
  refine ⟨⟨by omega,by omega⟩,?_⟩
  have:=zz5 hk hv hs K hK
  simp [hat] at this ⊢
  exact this
theorem zzT {c : Cor} {i : Nat} (h : i < c.codes.length) : (zbV c).take (i + 1) = (zbV c).take i ++ [zgM c i]:=by
 rw [List.take_succ_eq_append_getElem (by simpa using h)]
 simp [zbV]
theorem zzV {c : Cor} {own : List Int} {i k : Nat} (hk : k < c.exprs.length) : zbc c own i (k + 1) = if (isC c.exprs[k] && own.getD k 0 == (i : Int)) = true then (zbc c own i k).set (c.exprs[k]).num.toNat true else zbc c own i k:=by
 rw [zbc,List.getElem?_eq_getElem hk]
theorem zBS {c : Cor} (hk : zaP c) (hv : vOk c = true) {H : zaa} (hs : HSc H) (K : Kt) (hK : K (.sl (zaZ (zbV c)) .none) H) :
  zhu (.ptr H.length 0) (.sl (ints (zaW c)) .none) .snil (.int .i64 c.codes.length) (.int .i64 0) (H ++ [.cells c.cs]) (Out H.length K):=by
 have hk':=hk
 obtain ⟨k1,k2,k3,⟨k4,k5⟩,k6,k7⟩:=hk
 have hat : c.cs = [.sl (c.data.map Dat.cs) .none,.sl (c.codes.map Cod.cs) .none,.sl (VT.css c.vars) .none,.sl (c.exprs.map CEx.cs) .none]:=rfl
 have hgl:=zmF c
 unfold zhu
 refine ALoop.own 4 za4 1 rfl ?_
 show zhu (.ptr H.length 0) (.sl (ints (zaW c)) .none) (.sl [] (.own (H ++ [AB.cells c.cs]).length)) (.int .i64 c.codes.length) (.int .i64 0) (H ++ [AB.cells c.cs] ++ [.perm za4 1 0]) (Out H.length K)
 rw [show (H ++ [AB.cells c.cs]).length = H.length + 1 by simp,List.append_assoc]
 have hsX : ∀ m,HSc (H ++ [.cells c.cs,.perm za4 1 m]):=fun m=>hs.append (by simp [AB.sc,Cor.cs,AV.scA,AV.scB])
 refine zHM (Inv:=fun q t4 t17 H'=>∃ i : Nat,i ≤ c.codes.length ∧ q = c.codes.length - i ∧ t17 = .int .i64 i ∧ t4 = .sl (zaZ ((zbV c).take i)) (.own (H.length + 1)) ∧ H' = H ++ [.cells c.cs,.perm za4 1 i]) c.codes.length ?_ ?_
 ·intro _; exact ⟨0,by omega,by omega,rfl,by simp [zaZ,rows],by simp⟩
 rintro q t4 t17 H' ⟨i,hi,rfl,rfl,rfl,rfl⟩ hsc hlen hsF Kb hKb
 by_cases hlt : i < c.codes.length
 ·have hwk : IntKind.i64.wrap ((i : Int) + 1) = (i : Int) + 1:=zaq (by omega) (by omega)
  have hrep : (List.replicate c.codes.length [AV.bool false]).flatten = zas (List.replicate c.codes.length false):=by simp [zas]
  simp [zpD,hlt,hp0,hat]
  simp only [zaN,Int.toNat_natCast]
  refine ⟨by omega,?_⟩
  rw [hrep]
  simp [hp0]
  rw [← hat]
  have hsY : ∀ st,HSc (H ++ [.cells c.cs,.perm za4 1 i,.cells (zas st)]):=fun st=>hs.append (by simp [AB.sc,Cor.cs,AV.scA,AV.scB,zck])
  refine zHL (Inv:=fun q t27 H'=>∃ k : Nat,k ≤ c.exprs.length ∧ q = c.exprs.length - k ∧ t27 = .int .i64 k ∧ H' = H ++ [.cells c.cs,.perm za4 1 i,.cells (zas (zbc c (zaW c) i k))]) c.exprs.length ?_ ?_
  ·intro _; exact ⟨0,by omega,by omega,rfl,by simp [zbc]⟩
  rintro q t27 H' ⟨k,hkl,rfl,rfl,rfl⟩ hsc1 hlen1 hsF1 Kb1 hKb1
  by_cases hlt1 : k < c.exprs.length
  ·obtain ⟨x,y,z,hvv,hx,hy,hz,hce⟩:=zdw hlt1
   have hwk1 : IntKind.i64.wrap ((k : Int) + 1) = (k : Int) + 1:=zaq (by omega) (by omega)
   have hcn:=zsx hv hlt1
   have hat1:=zzV (own:=zaW c) (i:=i) hlt1
   have hgd : (zaW c).getD k 0 = (zaW c)[k]'(by simpa using hlt1):=by rw [List.getD_eq_getElem?_getD,List.getElem?_eq_getElem (by simpa using hlt1)]; rfl
   rw [hgd] at hat1
   have back : ∀ st J,zbc c (zaW c) i (k + 1) = st → Kb1 (zhs (.ptr H.length 0) (.sl (ints (zaW c)) .none) (.sl (zaZ ((zbV c).take i)) (.own (H.length + 1))) (.int .i64 i) (.ms (H.length + 2) 0 c.codes.length c.codes.length) (.int .i64 c.codes.length) (.int .i64 i) (.sl (c.exprs.map CEx.cs) .none) (.int .i64 c.exprs.length) (.int .i64 ((k : Int) + 1))) (H ++ .cells c.cs :: .perm za4 1 i :: .cells (zas st) :: J):=fun st J h=>by
    subst h
    refine hKb1 _ _ ⟨c.exprs.length - (k + 1),by omega,Back.at (J:=J) (H2:=H ++ [.cells c.cs,.perm za4 1 i,.cells (zas (zbc c (zaW c) i (k + 1)))]) (by simp) (by simp) (hsY _) ?_ ⟨_,rfl,k + 1,by omega,rfl,by simp,rfl⟩⟩
    simp [zhs,AV.sc,AV.scV,AV.scA,AV.scB]
   have hkl1 : (zbc c (zaW c) i k).length = c.codes.length:=zgL _ _ _ _
   generalize hE : c.exprs[k] = E at *
   generalize hO : (zaW c)[k]'(by simpa using hlt1) = o at *
   generalize zbc c (zaW c) i k = st at *
   by_cases ho : o = (i : Int)
   ·have hbo : (o == (i : Int)) = true:=by simp [ho]
    by_cases h12 : E.op = 12
    ·have hb12 : (E.op == 12) = true:=by simp [h12]
     have hC : isC E = true:=by simp [isC,h12]
     obtain ⟨n,hn,hnl⟩:=hcn hC
     have hbs:=zcy (l:=st) (i:=n) (by omega) true
     rw [hC,hbo,hn] at hat1
     have:=fun J=>back _ J hat1
     simp [zgi,hlt1,hE,hce,hx,hy,hz,hO,hbo,hb12,hn,hnl,hp2,hs2,hkl1,hbs,zgj,zht,hwk1]
     exact ⟨by omega,this [_]⟩
    ·have hb12 : (E.op == 12) = false:=by simp [h12]
     by_cases h11 : E.op = 11
     ·have hb11 : (E.op == 11) = true:=by simp [h11]
      have hC : isC E = true:=by simp [isC,h11]
      obtain ⟨n,hn,hnl⟩:=hcn hC
      have hbs:=zcy (l:=st) (i:=n) (by omega) true
      rw [hC,hbo,hn] at hat1
      have:=fun J=>back _ J hat1
      simp [zgi,hlt1,hE,hce,hx,hy,hz,hO,hbo,hb12,hb11,hn,hnl,hp2,hs2,hkl1,hbs,zgj,zht,hwk1]
      exact ⟨by omega,this [_]⟩
     ·have hb11 : (E.op == 11) = false:=by simp [h11]
      have hC : isC E = false:=by simp [isC,h11,h12]
      rw [hC] at hat1
      have:=fun J=>back _ J hat1
      simp [zgi,hlt1,hE,hce,hx,hy,hz,hO,hbo,hb12,hb11,hp2,hs2,hkl1,zgj,zht,hwk1]
      exact this [_]
   ·have hbo : (o == (i : Int)) = false:=by simp [ho]
    rw [hbo,Bool.and_false] at hat1
    have:=fun J=>back _ J hat1
    simp [zgi,hlt1,hE,hce,hx,hy,hz,hO,hbo,hp2,hs2,hkl1,zgj,zht,hwk1]
    exact this [_]
  ·obtain rfl : k = c.exprs.length:=by omega
   have hml : (zbc c (zaW c) i c.exprs.length).length = c.codes.length:=zgL _ _ _ _
   have hmm : mem (zbc c (zaW c) i c.exprs.length) = toI (zgM c i):=by simp [znf,zgM]
   have htk:=zzT hlt
   simp [zgi]
   refine zLu (hp2 _ _ _ _ _) hml (by omega) _ ?_
   rw [hmm]
   rw [show ∀ (es : List (List AV)) (k' : AV → Prop),zav 1 [.snil] 1 [(0,.sl es .none)] k' = k' (.sl [[.sl es .none]] .full) from fun _ k'=>propext Iff.rfl]
   have hmin : min i c.codes.length = i:=by omega
   simp [zaC,zbq,za8,hp1,hs1,hmin]
   refine ⟨⟨by omega,by omega⟩,?_⟩
   rw [zn4,← htk,hwk]
   refine hKb _ _ ⟨c.codes.length - (i + 1),by omega,Back.at (J:=[_]) (H2:=H ++ [.cells c.cs,.perm za4 1 (i + 1)]) (by simp; rfl) (by simp) (hsX _) ?_ ⟨_,_,rfl,i + 1,by omega,rfl,by simp,rfl,rfl⟩⟩
   simp [zkn,AV.sc,AV.scV,AV.scA,AV.scB]
 ·obtain rfl : i = c.codes.length:=by omega
  simp [zpD]
  rw [← hgl,List.take_length]
  exact Out.one hs (.atom (.sl _ _)) rfl rfl hK
theorem zwb (c : Cor) (hk : zaP c) (H : zaa) (K : Kt) (hK : K (gV (zbT c)) H) : ACalls tP ziI [.agg c.cs] H K:=by
 refine ACalls.out (zHO fun hs=>?_)
 have hk':=hk
 obtain ⟨k1,k2,k3,⟨k4,k5⟩,k6,k7⟩:=hk'
 have hat : c.cs = [.sl (c.data.map Dat.cs) .none,.sl (c.codes.map Cod.cs) .none,.sl (VT.css c.vars) .none,.sl (c.exprs.map CEx.cs) .none]:=rfl
 rw [zii] at hK
 simp [zv7,hat]
 rw [← hat]
 refine zvH c hk _ _ ?_
 cases hv : vOk c with
 | false=>
  rw [zbT,if_neg (by simp [hv])] at hK
  simp
  exact znX hs hK
 | true=>
  rw [zbT,if_pos hv] at hK
  simp [hat]
  rw [← hat]
  refine zHp c hk _ _ ?_
  rw [zi0,if_pos hv]
  have:=zBS hk hv hs K hK
  simp [hat] at this ⊢
  exact this
theorem zmG (c : Cor) (hk : zaP c) : (zbT c).length ≤ 1000000:=by
 obtain ⟨k1,k2,k3,⟨k4,k5⟩,k6,k7⟩:=hk
 unfold zbT
 split
 ·rw [zmF]; omega
 ·simp
theorem zmH (c : Cor) (hk : zaP c) : ∀ r ∈ zbT c,r.length ≤ 1000000:=by
 obtain ⟨k1,k2,k3,⟨k4,k5⟩,k6,k7⟩:=hk
 unfold zbT
 split
 ·intro r hr
  have:=zzS c r hr
  omega
 ·intro r hr; simp at hr
theorem zwh (c : Cor) (hk : zaP c) (H : zaa) (K : Kt) (hK : K (.sl (zaZ (grp (zbT c))) .none) H) : ACalls tP ziJ [.agg c.cs] H K:=by
 refine ACalls.out (zHZ fun hs=>?_)
 have hat : c.cs = [.sl (c.data.map Dat.cs) .none,.sl (c.codes.map Cod.cs) .none,.sl (VT.css c.vars) .none,.sl (c.exprs.map CEx.cs) .none]:=rfl
 simp [zwc,hat]
 rw [← hat]
 refine zv6 c hk _ _ ?_
 have hb:=zmG c hk
 have hr:=zmH c hk
 have hg:=zsw c
 generalize zbT c = g at *
 have hgl : ∀ k : AV → Prop,zaj 1 (gV g) k = k (.int .i64 g.length):=fun k=>by simp [gV]
 have hsX : HSc (H ++ [.cells c.cs]):=hs.append (by simp [AB.sc,Cor.cs,AV.scA,AV.scB])
 simp [hgl]
 simp only [zaN,Int.toNat_natCast]
 refine ⟨by omega,?_⟩
 have:=zAH g hg hb hr (H ++ [.cells c.cs]) (Out H.length K) hsX fun refs X hpre hsX' hrf hrl hRo=>by
  simp only [zaN,Int.toNat_natCast]
  refine ⟨by omega,?_⟩
  rw [show (List.replicate g.length [AV.bool false]).flatten = zas (List.replicate g.length false) by simp [zas]]
  exact zAG g hb H _ X refs ((List.prefix_append _ _).trans hpre) hsX' hrf hrl hRo hs K hK
 simp [hgl] at this ⊢
 exact this
theorem zH3 (c : Cor) (hk : zaP c) (H : zaa) (K : Kt) (hK : K (.sl (zaZ (grp (zbT c))) .none) H) : ACalls tP znp [.agg c.cs] H K:=by
 refine ACalls.out (zH2 fun hs=>?_)
 have hat : c.cs = [.sl (c.data.map Dat.cs) .none,.sl (c.codes.map Cod.cs) .none,.sl (VT.css c.vars) .none,.sl (c.exprs.map CEx.cs) .none]:=rfl
 simp [zwi,hat]
 rw [← hat]
 refine zwb c hk _ _ ?_
 refine zLU _ (zsw c) (zmG c hk) (zmH c hk) _ _ ?_
 exact Out.at (J:=[_]) rfl (Nat.le_refl _) hs (.atom (.sl _ _)) rfl rfl hK
theorem zrZ (g : List (List Nat)) (hl : g.length ≤ 1000000) (hr : ∀ r ∈ g,r.length ≤ 1000000) (H : zaa) (K : Kt) (hK : K (.bool true) H) : ACalls tP ziG [.sl (zaZ g) .none,.sl (zaZ g) .none] H K:=by
 refine ACalls.out (zHu fun hs=>?_)
 have hO : Out H.length K (.bool true) H:=by
  have:=Out.bool (H2:=H) (J:=[]) (n:=H.length) (H':=H) (b:=true) (by simp) (Nat.le_refl _) hs hK
  exact this
 simp [zv3]
 refine zHs (Inv:=fun q t13 H'=>∃ i : Nat,i ≤ g.length ∧ q = g.length - i ∧ t13 = .int .i64 i ∧ H' = H) g.length ?_ ?_
 ·intro _; exact ⟨0,by omega,by omega,rfl,rfl⟩
 rintro q t13 H' ⟨i,hi,rfl,rfl,rfl⟩ hsc hlen hsF Kb hKb
 by_cases hlt : i < g.length
 ·have hri : (zaZ g)[i]'(by simpa using hlt) = [.sl (ints (toI g[i])) .none]:=by simp [zaZ,rows]
  have hgi:=hr _ (List.getElem_mem hlt)
  simp [zpv,hlt,hri]
  refine zay (.bool true) (fun J=>zy9 (toI g[i]) (toI g[i]) (by simpa using hgi) _ _ ⟨by simp,rfl⟩) ?_
  simp
  rw [zaq (by omega) (by omega)]
  refine hKb _ _ ⟨g.length - (i + 1),by omega,Back.here (Nat.le_refl _) hsc ?_ ⟨_,rfl,i + 1,by omega,rfl,by simp,rfl⟩⟩
  simp [zkj,AV.sc,AV.scV,AV.scA,AV.scB]
 ·obtain rfl : i = g.length:=by omega
  simp [zpv]
  exact hO
theorem zz0 : zbT (c1 1) = [[]]:=by
 rw [zbT,if_pos ((zhk _).2 zzN)]
 rfl
theorem zAK : (grp [[]]).length = 1:=by
 have h:=zn2 [[]]
 simp [grp,zcl,zc5,ready,lst,h]
theorem zAJ (g : List (List Nat)) : (grp g).length ≤ g.length:=zik _ _
theorem zAL (g : List (List Nat)) : ∀ r ∈ grp g,r.length ≤ g.length:=zta _ _
theorem zy6 (c : Cor) (h1 : c.data.length ≤ 9223372036854775807) (h2 : c.vars.length ≤ 9223372036854775807) : ACalls tP ztC [.agg c.cs] [] fun r _=>r = .bool true:=by
 refine zPp fun hs=>?_
 have hat : c.cs = [.sl (c.data.map Dat.cs) .none,.sl (c.codes.map Cod.cs) .none,.sl (VT.css c.vars) .none,.sl (c.exprs.map CEx.cs) .none]:=rfl
 simp [zq9,hat]
 rw [← hat]
 refine zEM c h1 h2 _ _ fun b hb=>?_
 cases b with
 | false=>simp
 | true=>
 have hc:=hb rfl
 have hl:=zmG c hc
 have hr:=zmH c hc
 have hl':=Nat.le_trans (zAJ (zbT c)) hl
 have hr' : ∀ r ∈ grp (zbT c),r.length ≤ 1000000:=fun r h=>Nat.le_trans (zAL _ r h) hl
 simp [hat]
 rw [← hat]
 refine zay (.sl (zaZ (zbT c)) .none) (fun J=>zv6 c hc _ _ ⟨zii _,rfl⟩) ?_
 refine zay (.sl (zaZ (zbT c)) .none) (fun J=>zwb c hc _ _ ⟨zii _,rfl⟩) ?_
 refine zay (.bool true) (fun J=>zrZ _ hl hr _ _ ⟨rfl,rfl⟩) ?_
 simp [hat]
 rw [← hat]
 refine zay (.sl (zaZ (grp (zbT c))) .none) (fun J=>zwh c hc _ _ ⟨rfl,rfl⟩) ?_
 refine zay (.sl (zaZ (grp (zbT c))) .none) (fun J=>zH3 c hc _ _ ⟨rfl,rfl⟩) ?_
 refine zay (.bool true) (fun J=>zrZ _ hl' hr' _ _ ⟨rfl,rfl⟩) ?_
 simp
 refine zay (.agg (c1 1).cs) (fun J=>zBi _ _ ⟨rfl,rfl⟩) ?_
 refine zay (.sl (zaZ (grp (zbT (c1 1)))) .none) (fun J=>zwh (c1 1) (zzO 1) _ _ ⟨rfl,rfl⟩) ?_
 simp [zz0,zAK]
end Go.Proofs.Ytkdmpbhbmmhijaa
namespace Go.Abs
open Go Go.RowKit

def zbG (P : Program) : Nat → TypeId → List AV → Prop
 | 0,_,_=>False
 | n + 1,t,asx=>match P.underlying t with
  | some .bool=>∃ b,asx = [.bool b]
  | some (.int k)=>∃ m,asx = [.int k m] ∧ (Lit.int k m).wf = true
  | some .string=>∃ s,asx = [.str s] ∧ s.length ≤ maxLen
  | some (.slice e)=>∃ es,asx = [.sl es .none] ∧ es.length ≤ maxLen ∧ ∀ c ∈ es,zbG P n e c
  | some (.struct fs)=>asx.length = P.cellsOf t ∧ ∀ f ∈ fs.toList,zbG P n f.type ((asx.drop f.offset).take (P.cellsOf f.type))
  | _=>False

def zeM (P : Program) : List Field → Nat → Nat → Bool
 | [],at_,n=>at_ == n
 | f :: fs,at_,n=>f.offset == at_ && zeM P fs (at_ + P.cellsOf f.type) n
def zn1 (P : Program) (S : List TypeId) : Bool:=
 S.all fun t=>match P.underlying t with
  | some .bool | some (.int _) | some .string=>P.cellsOf t == 1
  | some (.slice e)=>S.contains e && decide (0 < P.cellsOf e) && P.cellsOf t == 1
  | some (.struct fs)=>fs.toList.all (fun f=>S.contains f.type) && zeM P fs.toList 0 (P.cellsOf t)
  | _=>false

section
variable {Hh : Type} {enc : TypeId × Value → Hh} {P : Program} {w : World} {base : Nat} {spare : Nat → Bool} {held : Bool}

theorem zuC {R : Value → AV → Prop} {cs : List Value} : ∀ (fs : List Field) (at_ n : Nat) (T : Field → List AV → Prop),zeM P fs at_ n = true → cs.length = n →
  (∀ f ∈ fs,∃ asx,All2 R ((cs.drop f.offset).take (P.cellsOf f.type)) asx ∧ T f asx) → at_ ≤ n →
  ∃ asx,All2 R (cs.drop at_) asx ∧ ∀ f ∈ fs,T f ((asx.drop (f.offset - at_)).take (P.cellsOf f.type)) ∧ at_ ≤ f.offset
 | [],at_,n,T,ht,hl,hf,hle=>by
  simp [zeM] at ht
  subst ht
  refine ⟨[],?_,by simp⟩
  rw [List.drop_eq_nil_of_le (by omega)]
  trivial
 | f :: fs,at_,n,T,ht,hl,hf,hle=>by
  simp only [zeM,Bool.and_eq_true,beq_iff_eq] at ht
  obtain ⟨h1,h2⟩:=ht
  have hbound : ∀ (fs : List Field) (k n : Nat),zeM P fs k n = true → k ≤ n:=by
   intro fs
   induction fs with
   | nil=>intro k n h; simp [zeM] at h; omega
   | cons g gs ih=>intro k n h; simp only [zeM,Bool.and_eq_true] at h; have:=ih _ _ h.2; omega
  have hb:=hbound fs _ _ h2
  obtain ⟨as0,ha0,hT0⟩:=hf f (by simp)
  obtain ⟨as1,ha1,hT1⟩:=zuC fs (at_ + P.cellsOf f.type) n T h2 hl (fun g hg=>hf g (by simp [hg])) hb
  have hl0 : as0.length = P.cellsOf f.type:=by
   have:=ha0.length
   rw [List.length_take,List.length_drop] at this
   omega
  refine ⟨as0 ++ as1,?_,?_⟩
  ·have : cs.drop at_ = (cs.drop f.offset).take (P.cellsOf f.type) ++ cs.drop (at_ + P.cellsOf f.type):=by
    rw [h1,← List.drop_drop,List.take_append_drop]
   rw [this]
   exact ha0.append ha1
  ·intro g hg
   rcases List.mem_cons.1 hg with rfl | hg
   ·rw [h1,Nat.sub_self,List.drop_zero,← hl0,List.take_left]
    exact ⟨hT0,Nat.le_refl _⟩
   ·obtain ⟨k1,k2⟩:=hT1 g hg
    refine ⟨?_,by omega⟩
    have : (as0 ++ as1).drop (g.offset - at_) = as1.drop (g.offset - (at_ + P.cellsOf f.type)):=by
     rw [List.drop_append,List.drop_eq_nil_of_le (by omega),List.nil_append]
     congr 1
     omega
    rw [this]
    exact k1

theorem zid {a : Addr} {n : Nat} {cs : List Value} (h : w.cells? base a n = some cs) : cs.length = n ∧ ∀ j v,cs[j]? = some v → w.cell? (a.add j) = some v:=by
 unfold World.cells? at h
 split at h
 ·have h1:=mapM_some_length h
  refine ⟨by simpa using h1,fun j v hj=>?_⟩
  have hjn : j < n:=by
   have:=(List.getElem?_eq_some_iff.1 hj).1
   simp at h1
   omega
  have:=mapM_some_get h j j (by simp [hjn])
  rw [this]
  exact hj
 ·cases h

theorem zA5 {b o : Nat} {v : Value} (h : w.cell? ⟨b,o,none⟩ = some v) : o < zdy w b:=by
 unfold World.cell? at h
 unfold zdy
 split at h
 ·rename_i c t fr hb
  simp only [hb]
  simp at h
  exact (Array.getElem?_eq_some_iff.1 h).1
 ·cases h

theorem zDs {S : List TypeId} (hS : zn1 P S = true) : ∀ (n : Nat) (t : TypeId) (cs : List Value) (x : DataW Hh × List MemPlace),t ∈ S → DataW.trod enc P w base spare held n t cs = some x →
  ∃ asx,All2 (DRel w (zdy w)) cs asx ∧ zbG P n t asx:=by
 intro n
 induction n with
 | zero=>intro t cs x _ h; simp [DataW.trod] at h
 | succ n ih=>
  intro t cs x ht h
  have hp:=List.all_eq_true.1 hS t ht
  unfold zbG
  cases hu : P.underlying t with
  | none=>simp [hu] at hp
  | some d=>
   rw [hu] at hp
   cases d <;> simp only [] at hp <;> try (cases hp; done)
   case bool=>
    obtain ⟨b,rfl,_⟩:=DataW.trod_bool hu h
    exact ⟨[.bool b],⟨.bool b,trivial⟩,b,rfl⟩
   case int k=>
    obtain ⟨m,rfl,_,hw⟩:=DataW.trod_int hu h
    exact ⟨[.int k m],⟨.int k m,trivial⟩,m,rfl,hw⟩
   case string=>
    obtain ⟨s,rfl,_,hw⟩:=DataW.trod_string hu h
    have hs : (⟨s.data.toList.toArray⟩ : ByteArray) = s:=by simp
    refine ⟨[.str s.data.toList],⟨?_,trivial⟩,s.data.toList,rfl,by rw [Array.length_toList]; exact hw⟩
    have:=DRel.str (w:=w) (L:=zdy w) s.data.toList
    rwa [hs] at this
   case slice e=>
    simp only [Bool.and_eq_true,decide_eq_true_eq] at hp
    obtain ⟨⟨he,hpos⟩,_⟩:=hp
    have he : e ∈ S:=by simpa using he
    rcases DataW.trod_slice hu h with ⟨rfl,_⟩ | ⟨a,len,cap,elems,rest,n',hn,rfl,_,hb,hl,hm,hlen,hel,_⟩
    ·exact ⟨[.sl [] .none],⟨.slE _ _,trivial⟩,[],rfl,by simp,by simp⟩
    ·obtain rfl : n = n':=by omega
     have hat : ∀ i,i < len → ∃ cs asx,w.cells? base (a.add (i * P.cellsOf e)) (P.cellsOf e) = some cs ∧ All2 (DRel w (zdy w)) cs asx ∧ zbG P n e asx:=by
      intro i hi
      have h1:=hel i hi
      rw [List.getElem?_eq_getElem (by omega)] at h1
      cases hc : w.cells? base (a.add (i * P.cellsOf e)) (P.cellsOf e) with
      | none=>rw [hc] at h1; cases h1
      | some cs=>
       rw [hc] at h1
       obtain ⟨asx,h2,h3⟩:=ih e cs _ he h1
       exact ⟨cs,asx,rfl,h2,h3⟩
     by_cases h0 : len = 0
     ·subst h0
      exact ⟨[.sl [] .none],⟨.slE _ _,trivial⟩,[],rfl,by simp,by simp⟩
     ·-- the address is a zbn one
      have hspot : a.spot = none:=by
       obtain ⟨cs,asx,h1,h2,_⟩:=hat 0 (by omega)
       obtain ⟨h3,h4⟩:=zid h1
       have h5:=h4 0 cs[0] (by simp)
       have:=World.cell?_spot h5
       simpa [Addr.add] using this
      obtain ⟨b,off,sp⟩:=a
      simp only at hspot
      subst hspot
      obtain ⟨f,hf⟩ : ∃ f : Nat → List Value × List AV,∀ i,i < len → w.cells? base ((⟨b,off,none⟩ : Addr).add (i * P.cellsOf e)) (P.cellsOf e) = some (f i).1 ∧ All2 (DRel w (zdy w)) (f i).1 (f i).2 ∧ zbG P n e (f i).2:=
       Deep.choose_lt (p:=fun i (y : List Value × List AV)=>w.cells? base ((⟨b,off,none⟩ : Addr).add (i * P.cellsOf e)) (P.cellsOf e) = some y.1 ∧ All2 (DRel w (zdy w)) y.1 y.2 ∧ zbG P n e y.2)
        (fun i hi=>by obtain ⟨cs,asx,h1,h2,h3⟩:=hat i hi; exact ⟨(cs,asx),h1,h2,h3⟩)
      have hcell : ∀ i,i < len → ∀ j v,(f i).1[j]? = some v → w.cell? ⟨b,off + i * P.cellsOf e + j,none⟩ = some v:=by
       intro i hi j v hj
       have:=(zid (hf i hi).1).2 j v hj
       rw [add_lit,add_lit] at this
       exact this
      have hlen2 : ∀ i,i < len → (f i).2.length = P.cellsOf e:=fun i hi=>by
       rw [← (hf i hi).2.1.length]; exact (zid (hf i hi).1).1
      refine ⟨[.sl ((List.range len).map fun i=>(f i).2) .none],⟨?_,trivial⟩,_,rfl,by simp; omega,?_⟩
      ·have:=DRel.sl (w:=w) (L:=zdy w) b off cap (P.cellsOf e) ((List.range len).map fun i=>(f i).2) (fun i j=>(f i).1.getD j undef) (by simp; exact h0) (by simpa using hl) ?_ ?_ ?_ ?_
       ·simpa using this
       ·-- the last cell is there
        have hi : len - 1 < len:=by omega
        have hj : P.cellsOf e - 1 < (f (len - 1)).1.length:=by rw [(zid (hf _ hi).1).1]; omega
        have:=zA5 (hcell (len - 1) hi (P.cellsOf e - 1) _ (List.getElem?_eq_getElem hj))
        have hmul : (len - 1) * P.cellsOf e + P.cellsOf e = len * P.cellsOf e:=by
         rw [← Nat.succ_mul]; congr 1; omega
        simp
        omega
       ·intro i hi
        simp at hi
        simpa using hlen2 i hi
       ·intro i j hi hj
        simp at hi hj
        have hjl : j < (f i).1.length:=by rw [(hf i hi).2.1.length]; exact hj
        simp only [List.getD_eq_getElem?_getD,List.getElem?_eq_getElem hjl,Option.getD_some]
        exact hcell i hi j _ (List.getElem?_eq_getElem hjl)
       ·intro i j hi hj
        simp at hi hj
        have hjl : j < (f i).1.length:=by rw [(hf i hi).2.1.length]; exact hj
        obtain ⟨c,h1,h2⟩:=(hf i hi).2.1.get' (List.getElem?_eq_getElem hjl)
        simp only [List.getD_eq_getElem?_getD,List.getElem?_eq_getElem hjl,Option.getD_some,List.getElem_map,List.getElem_range]
        have : (f i).2[j] = c:=by rw [List.getElem?_eq_getElem hj] at h1; exact Option.some.inj h1
        rw [this]
        exact h2
      ·intro c hc
       obtain ⟨i,hi,rfl⟩:=List.mem_map.1 hc
       exact (hf i (by simpa using hi)).2.2
   case struct fs=>
    simp only [Bool.and_eq_true] at hp
    obtain ⟨hfs,htile⟩:=hp
    obtain ⟨xs,n',hn,_,hcl,hxl,hat⟩:=DataW.trod_struct hu h
    obtain rfl : n = n':=by omega
    obtain ⟨asx,h1,h2⟩:=zuC (P:=P) (R:=DRel w (zdy w)) (cs:=cs) fs.toList 0 (P.cellsOf t) (fun f asx=>zbG P n f.type asx) htile hcl (fun f hf=>by
     obtain ⟨i,hi⟩:=List.mem_iff_getElem?.1 hf
     have hi' : fs[i]? = some f:=by simpa using hi
     have h3:=hat i f hi'
     have hlt : i < xs.length:=by rw [hxl]; exact (Array.getElem?_eq_some_iff.1 hi').1
     rw [List.getElem?_eq_getElem hlt] at h3
     exact ih f.type _ _ (by simpa using List.all_eq_true.1 hfs f hf) h3) (Nat.zero_le _)
    rw [List.drop_zero] at h1
    refine ⟨asx,h1,by rw [← h1.length]; exact hcl,fun f hf=>?_⟩
    simpa using (h2 f hf).1
end

theorem zBB {Hh : Type} {enc : TypeId × Value → Hh} {P : Program} {w : World} {base : Nat} {spare : Nat → Bool} {held : Bool} {S : List TypeId} (hS : zn1 P S = true) {t : TypeId} (ht : t ∈ S) {cs : Array Value} {d : DataW Hh} {p : List MemPlace}
  (h : DataW.Trod enc P w base spare held t (.agg cs) d p) : ∃ n asx,zbG P n t asx ∧ TRel w (G0 w) (.agg cs) (.agg asx):=by
 obtain ⟨n,hn⟩:=h
 obtain ⟨asx,h1,h2⟩:=zDs hS n t _ _ ht hn
 exact ⟨n,asx,h2,cs,rfl,h1.mono fun _ _ hd=>ARel.of_b (DRel.toB (G:=G0 w) hd)⟩
section
variable {P : Program} {n : Nat} {t : TypeId} {l : List AV}
theorem zfh {k : IntKind} (hu : P.underlying t = some (.int k)) (h : zbG P n t l) : ∃ m,l = [.int k m] ∧ (Lit.int k m).wf = true:=by
 cases n with
 | zero=>exact h.elim
 | succ n=>unfold zbG at h; rw [hu] at h; exact h
theorem zor (hu : P.underlying t = some .string) (h : zbG P n t l) : ∃ s,l = [.str s] ∧ s.length ≤ maxLen:=by
 cases n with
 | zero=>exact h.elim
 | succ n=>unfold zbG at h; rw [hu] at h; exact h
theorem zdT {e : TypeId} (hu : P.underlying t = some (.slice e)) (h : zbG P n t l) : ∃ es n',n' < n ∧ l = [.sl es .none] ∧ es.length ≤ maxLen ∧ ∀ c ∈ es,zbG P n' e c:=by
 cases n with
 | zero=>exact h.elim
 | succ n=>unfold zbG at h; rw [hu] at h; obtain ⟨es,h1,h2,h3⟩:=h; exact ⟨es,n,by omega,h1,h2,h3⟩
theorem zga {fs : Array Field} (hu : P.underlying t = some (.struct fs)) (h : zbG P n t l) : ∃ n',n' < n ∧ l.length = P.cellsOf t ∧ ∀ f ∈ fs.toList,zbG P n' f.type ((l.drop f.offset).take (P.cellsOf f.type)):=by
 cases n with
 | zero=>exact h.elim
 | succ n=>unfold zbG at h; rw [hu] at h; exact ⟨n,by omega,h⟩
theorem zdN {α : Type} {cs : α → List AV} : ∀ {es : List (List AV)},(∀ c ∈ es,∃ x,c = cs x) → ∃ xs : List α,es = xs.map cs
 | [],_=>⟨[],rfl⟩
 | e :: es,h=>by
  obtain ⟨x,hx⟩:=h e (by simp)
  obtain ⟨xs,hxs⟩:=zdN (es:=es) (fun c hc=>h c (by simp [hc]))
  exact ⟨x :: xs,by simp [hx,hxs]⟩
end
end Go.Abs
