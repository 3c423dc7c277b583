import Derived.Test.YtjkkonpjecoieaaGreatKUI
import Derived.Test.YtjkkonpjecoieaaGreatKAW
import Derived.Test.YtjkkonpjecoieaaGreatAbsU
import Derived.Deep.Slices
import Derived.DataReads
set_option linter.unusedSimpArgs false
set_option linter.unusedVariables false
namespace Go.Proofs.YtjkkonpjecoieaaGreat
open Go Go.Abs
set_option maxRecDepth 8000
theorem zA2 {N : Nat} {l : List VT} {bs : List Bool} {c : Int} {kids : List IT} (hl : ∀ x ∈ l, x.nodes ≤ 200) (hN : 200 ≤ N) (hk : IT.nodesL kids + 1 ≤ N) : ∀ r ∈ zb8 l bs c kids, ∀ x ∈ r, x.nodes ≤ N := by
 have hb := zrI (P := pos false bs bs.length) hl
 intro r h
 unfold zb8 at h
 rcases List.mem_append.1 h with h | h
 ·exact zfW _ _ _ (fun x hx => by have := hb x hx; omega) hk r h
 ·unfold zcn at h
  split at h
  ·simp at h
  ·rename_i c' ps rest
   simp only [IT.nodesL, IT.nodes] at hk
   split at h
   ·refine zfW _ _ _ (fun x hx => ?_) (by omega) r h
    rcases zho _ _ _ _ hx with hx | hx
    ·have := hb x hx; omega
    ·have := zsY hx; omega
   ·simp at h
theorem zzD {data : List Dat} {n : Int} {ks : List VT} {c : Int} {v : IT} (hE : zcC data (.mk 5 n ks) c v = none) : zbi data (.mk 5 n ks) = true ∧ ∃ kids, v = .mk 0 kids ∧ 0 ≤ rdE data kids (.mk 5 n ks) 0 ∧ za2 data (.mk 5 n ks) (.mk 0 kids) = rdE data kids (.mk 5 n ks) 0 ∧ kids.length ≤ 6 := by
 have hd : 0 ≤ za2 data (.mk 5 n ks) v := by
  unfold zcC at hE
  split at hE
  ·cases hE
  ·omega
 have hf : zbi data (.mk 5 n ks) = true := by
  unfold za2 at hd
  by_cases h : zbi data (.mk 5 n ks) = true
  ·exact h
  ·rw [if_neg h] at hd; omega
 obtain ⟨m, kids⟩ := v
 have hr : za2 data (.mk 5 n ks) (.mk m kids) = rdV data (.mk m kids) (.mk 5 n ks) := by unfold za2; rw [if_pos hf]
 rw [hr, znn] at hd
 by_cases h : m = 0 ∧ kids.length ≤ 6
 ·rw [if_pos h] at hd
  obtain ⟨rfl, h6⟩ := h
  refine ⟨hf, kids, rfl, hd, ?_, h6⟩
  rw [hr, znn, if_pos ⟨rfl, h6⟩]
 ·rw [if_neg h] at hd; omega
theorem ztt (g : Nat → IT → Nat) (x : IT) : ∀ (s : Nat) (a : List IT), zaP g s (a ++ [x]) = zaP g s a * g (s + a.length) x
 | s, [] => by simp [zaP]
 | s, y :: a => by
  rw [List.cons_append, zaP, zaP, ztt g x (s + 1) a, List.length_cons, show s + 1 + a.length = s + (a.length + 1) by omega, Nat.mul_assoc]
theorem ztu (g : Nat → IT → Nat) (row : List IT) (k : Nat) (h : k < row.length) : zaP g 0 (row.take (k + 1)) = zaP g 0 (row.take k) * g k row[k] := by
 rw [List.take_succ_eq_append_getElem h, ztt]
 simp [Nat.min_eq_left (Nat.le_of_lt h)]
theorem zB8 {l : List Nat} {k : Nat} (h : k < l.length) : zaY (l.take (k + 1)) = zaY (l.take k) + l[k] := by
 rw [List.take_succ_eq_append_getElem h, zgH]; simp
theorem zuf (l : List Nat) (k : Nat) : zaY (l.take k) ≤ zaY l := by
 have := zgH (l.take k) (l.drop k)
 rw [List.take_append_drop] at this
 omega
theorem zyP (data : List Dat) (hlen : data.length ≤ 9223372036854775807) (t : VT) (iv : IT) (v : VT) (H : zaa) (K : Kt) (hK : K (.bool true) H) :
  ACalls tP zmO [.sl (data.map Dat.cs) .none, .agg t.cs, .agg iv.cs, .agg v.cs] H K := by
 refine ACalls.out (zII fun hs => ?_)
 have hO : ∀ J, Out H.length K (.bool true) (H ++ J) := fun J => Out.bool rfl (Nat.le_refl _) hs hK
 obtain ⟨x, y, z, hvx, hx, hy, hz⟩ := zaM t
 obtain ⟨x2, y2, hvx2, hx2, hy2⟩ := zc3 iv
 obtain ⟨x3, y3, z3, hvx3, hx3, hy3, hz3⟩ := zaM v
 simp [zq2, hvx, hvx2, hvx3, hx, hy, hz, hx2, hy2, hx3, hy3, hz3, Nat.add_assoc]
 rw [← hvx]
 refine zBt data hlen t _ _ fun b1 hb1 => ?_
 cases b1 with
 | false => simp; exact hO _
 | true =>
  obtain ⟨hk, ht⟩ := hb1 rfl
  obtain ⟨f1, f2, f3⟩ := zc4 hk
  simp [Nat.add_assoc]
  rw [← hvx2]
  refine zC4 iv _ _ fun b2 hb2 => ?_
  cases b2 with
  | false => simp; exact hO _
  | true =>
   have hiv := hb2 rfl
   simp [Nat.add_assoc]
   rw [← hvx3]
   refine zDj v _ _ fun b3 hb3 => ?_
   cases b3 with
   | false => simp; exact hO _
   | true =>
    have hv := hb3 rfl
    simp [hvx, hvx2, hvx3, Nat.add_assoc]
    rw [← hvx3]
    refine zD7 v.nodes v (Nat.le_refl _) (by omega) _ _ ?_
    by_cases h80 : 80 < v.nodes
    ·have hb80 : decide ((80 : Int) < (v.nodes : Int)) = true := by simp; omega
     simp [hb80]; exact hO _
    ·have hb80 : decide ((80 : Int) < (v.nodes : Int)) = false := by simp; omega
     obtain ⟨k, n, ks⟩ := t
     by_cases h5 : k = 5
     ·subst h5
      have hTc : [x, y, z] = [.int .i64 5, .int .i64 n, .sl (VT.css ks) .none] := by rw [← hvx]; rfl
      simp only [List.cons.injEq, and_true] at hTc
      obtain ⟨rfl, rfl, rfl⟩ := hTc
      simp [hb80, hvx2, hvx3, VT.cs, Nat.add_assoc]
      rw [← hvx3]
      refine zvf data hk v (.mk 5 n ks) (by omega) (by omega) _ _ ?_
      cases hh : zcV data v (.mk 5 n ks) with
      | false => simp; exact hO _
      | true =>
       simp [hvx2, hvx3, Nat.add_assoc]
       rw [← hvx2]
       refine zvq data hk (.mk 5 n ks) (by omega) iv (by omega) _ _ ?_
       by_cases hd : za2 data (.mk 5 n ks) iv < 0
       ·have hd' : decide (0 ≤ za2 data (.mk 5 n ks) iv) = false := by simpa using hd
        simp [hd']
        exact hO _
       ·have hd' : decide (0 ≤ za2 data (.mk 5 n ks) iv) = true := by simpa using hd
        obtain ⟨hD, htv, hvv⟩ := zsu hh
        obtain ⟨vk, c, vs⟩ := v
        obtain ⟨rfl, hn0, hc0, hc8, hn, hc, hkl, _, hrc, hrl, hkid⟩ := zf5 hvv
        have h3 : [x3, y3, z3] = [.int .i64 5, .int .i64 c, .sl (VT.css vs) .none] := by rw [← hvx3]; rfl
        simp only [List.cons.injEq, and_true] at h3
        obtain ⟨rfl, rfl, rfl⟩ := h3
        obtain ⟨l, hf⟩ : ∃ l, zaR data (.mk 5 n ks) c = some l := by
         cases hf : zaR data (.mk 5 n ks) c with
         | none => simp [zau, hf, zhq] at hvv
         | some l => exact ⟨l, rfl⟩
        have hE : zcC data (.mk 5 n ks) c iv = none := by
         unfold zcC
         rw [if_neg hd, if_neg (by simp [VT.kind]), if_neg, if_neg (by simp [hf])]
         simp only [VT.num, List.getD_eq_getElem?_getD, List.getElem?_eq_getElem hn, Option.getD_some]
         omega
        simp [hd', hvx2, VT.cs, Nat.add_assoc]
        rw [← hvx2]
        refine zvP data hk (.mk 5 n ks) (by omega) c iv (by omega) _ _ (fun e he => by rw [hE] at he; cases he) (fun _ => ?_)
        obtain ⟨bs, hbs, hlb, hl8, hpay, h200, _, hsc, hrec, hrt, _, _⟩ := ztc hk hf
        obtain ⟨hfine, kids, rfl, hrE, hdeg, hk6⟩ := zzD hE
        refine ⟨l, bs, hf, hlb, hl8, h200, hpay, hsc, fun rs hp hso => ?_⟩
        replace hp : rs.Perm (zb8 l bs c kids) := hp
        have h8 := zhp hfine
        have hv80 : (VT.mk 5 c vs).nodes ≤ 80 := by omega
        obtain ⟨hvl, _⟩ := zsX hvv hf hlb
        have hvls : zbv data vs l = true := by
         have h0 := hvv
         simp [zau] at h0
         rw [hf, zf3] at h0
         exact h0.2
        have hkp : ∀ ps rest, kids = .mk c ps :: rest → ps.length = (pick l bs).length := by
         intro ps rest he
         subst he
         obtain ⟨ps', h1, h2, _⟩ := ztz h8 hrE (j := 0) (by simp) (c := c) (eks := ps) (by simp)
         rw [hpay] at h1
         cases h1
         omega
        have hsum := zA3 hlb hvl hbs hpay hrt hkp
        rw [← zB7 (hp.map _)] at hsum
        obtain ⟨g, hg⟩ : ∃ g : Nat → IT → Nat, g = fun k x => atV data x (l.getD k tz) (vs.getD k tz) := ⟨_, rfl⟩
        rw [← hg] at hsum
        have hAt : atR data (.mk 5 n ks) (.mk 0 kids) (.mk 5 c vs) = .tup [.agg (zan ((atV data (.mk 0 kids) (.mk 5 n ks) (.mk 5 c vs) : Nat) : Int)), .int .i64 0] := by
         unfold atR; rw [if_neg hd, if_neg (by simp [hh])]
        have hWle : atV data (.mk 0 kids) (.mk 5 n ks) (.mk 5 c vs) ≤ 1000 ^ 6 :=
         AtOk.le h8 ⟨by omega, htv, by unfold za2 at hd; rw [if_pos hfine] at hd; omega, hvv, by omega, by omega⟩
        obtain ⟨W, hW⟩ : ∃ W, W = atV data (.mk 0 kids) (.mk 5 n ks) (.mk 5 c vs) := ⟨_, rfl⟩
        rw [← hW] at hsum hAt hWle
        have hrd := fun r hr => zAZ h8 hlb hpay hrt hrE r (hp.subset hr)
        have hwide : ∀ r ∈ rs, r.length = l.length := fun r hr => ztG l bs c kids r (hp.subset hr)
        have hnod : ∀ r ∈ rs, ∀ x ∈ r, x.nodes ≤ 200 := fun r hr => zA2 (bs := bs) (c := c) h200 (Nat.le_refl _) (by show IT.nodesL kids + 1 ≤ 200; simp only [IT.nodes] at hiv; omega) r (hp.subset hr)
        have hrsl : rs.length ≤ 200000000 := by rw [hp.length_eq]; exact ztF hk6 (by omega)
        have hfv : ∀ x ∈ l, zbi data x = true := fun x hx => by
         unfold zbi at hfine ⊢
         rw [Bool.and_eq_true] at hfine ⊢
         exact ⟨hfine.1, zfZ hfine.1 (zuw htv) hf x hx⟩
        have hgat : ∀ r ∈ rs, ∀ (j : Nat) (h1 : j < r.length) (h2 : j < l.length) (h3 : j < vs.length), atR data l[j] r[j] vs[j] = .tup [.agg (zan ((g j r[j] : Nat) : Int)), .int .i64 0] ∧ g j r[j] ≤ 1000 ^ 6 := by
         intro r hr j h1 h2 h3
         have e1 : g j r[j] = atV data r[j] l[j] vs[j] := by
          rw [hg]; simp [List.getD_eq_getElem?_getD, h2, h3]
         have e2 := (hrd r hr).1 j (by omega)
         simp [List.getD_eq_getElem?_getD, h1, h2] at e2
         have e3 : 0 ≤ za2 data l[j] r[j] := by unfold za2; rw [if_pos (hfv _ (List.getElem_mem h2))]; exact e2
         have e4 := zf4 hvls j h3 h2
         have e5 : zcV data vs[j] l[j] = true := by unfold zcV; rw [hfv _ (List.getElem_mem h2), e4]; rfl
         have e6 := hfv _ (List.getElem_mem h2)
         unfold zbi at e6
         rw [Bool.and_eq_true] at e6
         have e7 := VT.kid_lt (k := 5) (n := c) h3
         have e8 := h200 _ (List.getElem_mem h2)
         have e9 := hnod r hr _ (List.getElem_mem h1)
         refine ⟨?_, ?_⟩
         ·unfold atR; rw [if_neg (by omega), if_neg (by simp [e5]), e1]
         ·rw [e1]; exact AtOk.le h8 ⟨by omega, e6.2, e2, e4, by omega, by omega⟩
        simp [zeC, Nat.add_assoc]
        refine zwi hk (.mk 5 n ks) (by omega) (.mk 0 kids) (by omega) (.mk 5 c vs) (by omega) _ _ ?_
        rw [hAt]
        simp [Nat.add_assoc]
        refine zjN data f1 f2 f3 (.mk 5 n ks) (by omega) c _ _ ?_
        rw [hf]
        simp [zbL, Nat.add_assoc]
        refine zdp 0 (by omega) _ _ ?_
        simp [IT.cs, Nat.add_assoc]
        have hbase : ∀ z1 z2 : Int, HSc (H ++ [.cells [.int .i64 5, .int .i64 n, .sl (VT.css ks) .none], .cells [.int .i64 0, .sl (IT.css kids) .none], .cells [.int .i64 5, .int .i64 c, .sl (VT.css vs) .none], .cells (zan z1), .cells (zan z2)]) := fun z1 z2 => hs.append (by simp [AB.sc, zan, AV.scA, AV.scB])
        refine zIF (Inv := fun q t98 H' => ∃ i : Nat, i ≤ rs.length ∧ rs.length - i = q ∧ t98 = .int .i64 i ∧
         H' = H ++ [.cells [.int .i64 5, .int .i64 n, .sl (VT.css ks) .none], .cells [.int .i64 0, .sl (IT.css kids) .none], .cells [.int .i64 5, .int .i64 c, .sl (VT.css vs) .none], .cells (zan (W : Int)), .cells (zan ((zaY ((rs.map (zaP g 0)).take i) : Nat) : Int))]) rs.length ?_ ?_
        ·intro _; exact ⟨0, by omega, rfl, rfl, rfl⟩
        ·rintro q t98 H' ⟨i, hi, rfl, rfl, rfl⟩ hsc' hlen' hsF Kb hKb
         have hsle := zuf (rs.map (zaP g 0)) i
         by_cases hlt : i < rs.length
         ·have hmr := List.getElem_mem hlt
          have hw := hwide _ hmr
          simp [zpw, hlt, hw, Nat.add_assoc]
          refine zdp 1 (by omega) _ _ ?_
          simp [Nat.add_assoc]
          have hg3 : ∀ z1 z2 z3 : Int, HSc (H ++ [.cells [.int .i64 5, .int .i64 n, .sl (VT.css ks) .none], .cells [.int .i64 0, .sl (IT.css kids) .none], .cells [.int .i64 5, .int .i64 c, .sl (VT.css vs) .none], .cells (zan z1), .cells (zan z2), .cells (zan z3)]) := fun z1 z2 z3 => hs.append (by simp [AB.sc, zan, AV.scA, AV.scB])
          have hle8 : ∀ j, j ≤ l.length → zaP g 0 (rs[i].take j) ≤ 1000 ^ (6 * j) := by
           intro j
           induction j with
           | zero => intro _; simp [zaP]
           | succ j ih =>
            intro hj
            rw [ztu g rs[i] j (by omega), show 6 * (j + 1) = 6 * j + 6 by omega, Nat.pow_add]
            exact Nat.mul_le_mul (ih (by omega)) (hgat _ hmr j (by omega) (by omega) (by omega)).2
          refine zIG (Inv := fun q t110 H' => ∃ j : Nat, j ≤ l.length ∧ l.length - j = q ∧ t110 = .int .i64 j ∧
           H' = H ++ [.cells [.int .i64 5, .int .i64 n, .sl (VT.css ks) .none], .cells [.int .i64 0, .sl (IT.css kids) .none], .cells [.int .i64 5, .int .i64 c, .sl (VT.css vs) .none], .cells (zan (W : Int)), .cells (zan ((zaY ((rs.map (zaP g 0)).take i) : Nat) : Int)), .cells (zan ((zaP g 0 (rs[i].take j) : Nat) : Int))]) l.length ?_ ?_
          ·intro _; exact ⟨0, by omega, rfl, rfl, rfl⟩
          ·rintro q t110 H' ⟨j, hj, rfl, rfl, rfl⟩ hsc2 hlen2 hsF2 Kb2 hKb2
           by_cases hjl : j < l.length
           ·have hjr : j < rs[i].length := by omega
            have hjv : j < vs.length := by omega
            obtain ⟨q1, q2⟩ := hgat _ hmr j hjr hjl hjv
            have hkn := VT.kid_lt (k := 5) (n := c) hjv
            obtain ⟨a1, a2, a3, hva, hxa, hya, hza⟩ := zaM l[j]
            obtain ⟨b1, b2, b3, hvb, hxb, hyb, hzb⟩ := zaM vs[j]
            obtain ⟨c1, c2, hvc, hxc, hyc⟩ := zc3 rs[i][j]
            have hp8 := hle8 j (by omega)
            simp [zpx, hjl, hjr, hjv, hva, hvb, hvc, wi j (by omega), Nat.add_assoc]
            rw [← hva, ← hvb, ← hvc]
            refine zaF (.tup [.agg (zan ((g j rs[i][j] : Nat) : Int)), .int .i64 0]) (fun J => zwi hk l[j] (by have := h200 _ (List.getElem_mem hjl); omega) rs[i][j] (by have := hnod _ hmr _ (List.getElem_mem hjr); omega) vs[j] (by omega) _ _ ⟨q1, rfl⟩) ?_
            simp [Nat.add_assoc]
            refine zjP _ _ (zc9 hp8 (by omega)) (zc9 q2 (by omega)) _ _ ?_
            have hpt := ztu g rs[i] j hjr
            have e : ((zaP g 0 (rs[i].take j) : Nat) : Int) * ((g j rs[i][j] : Nat) : Int) = ((zaP g 0 (rs[i].take (j + 1)) : Nat) : Int) := by rw [hpt, Int.natCast_mul]
            rw [e]
            simp [Nat.add_assoc]
            exact hKb2 _ _ ⟨l.length - (j + 1), by omega, Back.at (J := [.cells (zan ((g j rs[i][j] : Nat) : Int))]) (H2 := H ++ [.cells [.int .i64 5, .int .i64 n, .sl (VT.css ks) .none], .cells [.int .i64 0, .sl (IT.css kids) .none], .cells [.int .i64 5, .int .i64 c, .sl (VT.css vs) .none], .cells (zan (W : Int)), .cells (zan ((zaY ((rs.map (zaP g 0)).take i) : Nat) : Int)), .cells (zan ((zaP g 0 (rs[i].take (j + 1)) : Nat) : Int))]) (by simp) (by simp) (hg3 _ _ _) (by simp [zj4, ux, AV.sc, AV.scA, AV.scB, AV.scV]) ⟨_, rfl, j + 1, by omega, rfl, rfl, rfl⟩⟩
           ·obtain rfl : j = l.length := by omega
            have hfull : rs[i].take l.length = rs[i] := List.take_of_length_le (by omega)
            rw [hfull] at *
            have hst := zB8 (l := rs.map (zaP g 0)) (k := i) (by simpa using hlt)
            simp at hst
            have hsle2 := zuf (rs.map (zaP g 0)) (i + 1)
            simp [zpx, wi i (by omega), Nat.add_assoc]
            refine zpj _ _ (zc9 (k := 6) (by omega) (by omega)) (zc9 (k := 6) (by omega) (by omega)) _ _ ?_
            have e : ((zaY ((rs.map (zaP g 0)).take i) : Nat) : Int) + ((zaP g 0 rs[i] : Nat) : Int) = ((zaY ((rs.map (zaP g 0)).take (i + 1)) : Nat) : Int) := by rw [hst, Int.natCast_add]
            rw [e]
            simp [Nat.add_assoc]
            exact hKb _ _ ⟨rs.length - (i + 1), by omega, Back.at (J := [.cells (zan ((zaP g 0 rs[i] : Nat) : Int))]) (H2 := H ++ [.cells [.int .i64 5, .int .i64 n, .sl (VT.css ks) .none], .cells [.int .i64 0, .sl (IT.css kids) .none], .cells [.int .i64 5, .int .i64 c, .sl (VT.css vs) .none], .cells (zan (W : Int)), .cells (zan ((zaY ((rs.map (zaP g 0)).take (i + 1)) : Nat) : Int))]) (by simp) (by simp) (hbase _ _) (by simp [zj3, ux, AV.sc, AV.scA, AV.scB, AV.scV]) ⟨_, rfl, i + 1, by omega, rfl, rfl, rfl⟩⟩
         ·obtain rfl : i = rs.length := by omega
          rw [List.take_of_length_le (by simp), hsum] at *
          simp [zpw, Nat.add_assoc]
          refine zHO (W : Int) (zc9 hWle (by omega)) _ _ ?_
          simp [Nat.add_assoc]
          refine zzf _ _ ?_
          exact hO _
     ·have hb : (AV.int IntKind.i64 k) = x := by
       have : (VT.mk k n ks).cs = [.int .i64 k, .int .i64 n, .sl (VT.css ks) .none] := rfl
       rw [this] at hvx
       simp only [List.cons.injEq] at hvx
       exact hvx.1
      subst hb
      have hk5 : (k != 5) = true := by simpa using h5
      simp [hb80, hk5, Nat.add_assoc]
      exact hO _
end Go.Proofs.YtjkkonpjecoieaaGreat
namespace Go.Abs
open Go Go.RowKit

def zbs (P : Program) : Nat → TypeId → List AV → Prop
 | 0, _, _ => False
 | n + 1, t, asx => match P.underlying t with
  | some .bool => ∃ b, asx = [.bool b]
  | some (.int k) => ∃ m, asx = [.int k m] ∧ (Lit.int k m).wf = true
  | some .string => ∃ s, asx = [.str s] ∧ s.length ≤ maxLen
  | some (.slice e) => ∃ es, asx = [.sl es .none] ∧ es.length ≤ maxLen ∧ ∀ c ∈ es, zbs P n e c
  | some (.struct fs) => asx.length = P.cellsOf t ∧ ∀ f ∈ fs.toList, zbs P n f.type ((asx.drop f.offset).take (P.cellsOf f.type))
  | _ => False

def zed (P : Program) : List Field → Nat → Nat → Bool
 | [], at_, n => at_ == n
 | f :: fs, at_, n => f.offset == at_ && zed P fs (at_ + P.cellsOf f.type) n
def zgx (P : Program) (S : List TypeId) : Bool :=
 S.all fun t => match P.underlying t with
  | some .bool | some (.int _) | some .string => P.cellsOf t == 1
  | some (.slice e) => S.contains e && decide (0 < P.cellsOf e) && P.cellsOf t == 1
  | some (.struct fs) => fs.toList.all (fun f => S.contains f.type) && zed P fs.toList 0 (P.cellsOf t)
  | _ => false

section
variable {Hh : Type} {enc : TypeId × Value → Hh} {P : Program} {w : World} {base : Nat} {spare : Nat → Bool} {held : Bool}

theorem zuj {R : Value → AV → Prop} {cs : List Value} : ∀ (fs : List Field) (at_ n : Nat) (T : Field → List AV → Prop), zed P fs at_ n = true → cs.length = n →
  (∀ f ∈ fs, ∃ asx, All2 R ((cs.drop f.offset).take (P.cellsOf f.type)) asx ∧ T f asx) → at_ ≤ n →
  ∃ asx, All2 R (cs.drop at_) asx ∧ ∀ f ∈ fs, T f ((asx.drop (f.offset - at_)).take (P.cellsOf f.type)) ∧ at_ ≤ f.offset
 | [], at_, n, T, ht, hl, hf, hle => by
  simp [zed] at ht
  subst ht
  refine ⟨[], ?_, by simp⟩
  rw [List.drop_eq_nil_of_le (by omega)]
  trivial
 | f :: fs, at_, n, T, ht, hl, hf, hle => by
  simp only [zed, Bool.and_eq_true, beq_iff_eq] at ht
  obtain ⟨h1, h2⟩ := ht
  have hbound : ∀ (fs : List Field) (k n : Nat), zed P fs k n = true → k ≤ n := by
   intro fs
   induction fs with
   | nil => intro k n h; simp [zed] at h; omega
   | cons g gs ih => intro k n h; simp only [zed, Bool.and_eq_true] at h; have := ih _ _ h.2; omega
  have hb := hbound fs _ _ h2
  obtain ⟨as0, ha0, hT0⟩ := hf f (by simp)
  obtain ⟨as1, ha1, hT1⟩ := zuj fs (at_ + P.cellsOf f.type) n T h2 hl (fun g hg => hf g (by simp [hg])) hb
  have hl0 : as0.length = P.cellsOf f.type := by
   have := ha0.length
   rw [List.length_take, List.length_drop] at this
   omega
  refine ⟨as0 ++ as1, ?_, ?_⟩
  ·have : cs.drop at_ = (cs.drop f.offset).take (P.cellsOf f.type) ++ cs.drop (at_ + P.cellsOf f.type) := by
    rw [h1, ← List.drop_drop, List.take_append_drop]
   rw [this]
   exact ha0.append ha1
  ·intro g hg
   rcases List.mem_cons.1 hg with rfl | hg
   ·rw [h1, Nat.sub_self, List.drop_zero, ← hl0, List.take_left]
    exact ⟨hT0, Nat.le_refl _⟩
   ·obtain ⟨k1, k2⟩ := hT1 g hg
    refine ⟨?_, by omega⟩
    have : (as0 ++ as1).drop (g.offset - at_) = as1.drop (g.offset - (at_ + P.cellsOf f.type)) := by
     rw [List.drop_append, List.drop_eq_nil_of_le (by omega), List.nil_append]
     congr 1
     omega
    rw [this]
    exact k1

theorem zhi {a : Addr} {n : Nat} {cs : List Value} (h : w.cells? base a n = some cs) : cs.length = n ∧ ∀ j v, cs[j]? = some v → w.cell? (a.add j) = some v := by
 unfold World.cells? at h
 split at h
 ·have h1 := mapM_some_length h
  refine ⟨by simpa using h1, fun j v hj => ?_⟩
  have hjn : j < n := by
   have := (List.getElem?_eq_some_iff.1 hj).1
   simp at h1
   omega
  have := mapM_some_get h j j (by simp [hjn])
  rw [this]
  exact hj
 ·cases h

theorem zAd {b o : Nat} {v : Value} (h : w.cell? ⟨b, o, none⟩ = some v) : o < zbW w b := by
 unfold World.cell? at h
 unfold zbW
 split at h
 ·rename_i c t fr hb
  simp only [hb]
  simp at h
  exact (Array.getElem?_eq_some_iff.1 h).1
 ·cases h

theorem zuo {S : List TypeId} (hS : zgx P S = true) : ∀ (n : Nat) (t : TypeId) (cs : List Value) (x : DataW Hh × List MemPlace), t ∈ S → DataW.trod enc P w base spare held n t cs = some x →
  ∃ asx, All2 (DRel w (zbW w)) cs asx ∧ zbs P n t asx := by
 intro n
 induction n with
 | zero => intro t cs x _ h; simp [DataW.trod] at h
 | succ n ih =>
  intro t cs x ht h
  have hp := List.all_eq_true.1 hS t ht
  unfold zbs
  cases hu : P.underlying t with
  | none => simp [hu] at hp
  | some d =>
   rw [hu] at hp
   cases d <;> simp only [] at hp <;> try (cases hp; done)
   case bool =>
    obtain ⟨b, rfl, _⟩ := DataW.trod_bool hu h
    exact ⟨[.bool b], ⟨.bool b, trivial⟩, b, rfl⟩
   case int k =>
    obtain ⟨m, rfl, _, hw⟩ := DataW.trod_int hu h
    exact ⟨[.int k m], ⟨.int k m, trivial⟩, m, rfl, hw⟩
   case string =>
    obtain ⟨s, rfl, _, hw⟩ := DataW.trod_string hu h
    have hs : (⟨s.data.toList.toArray⟩ : ByteArray) = s := by simp
    refine ⟨[.str s.data.toList], ⟨?_, trivial⟩, s.data.toList, rfl, by rw [Array.length_toList]; exact hw⟩
    have := DRel.str (w := w) (L := zbW w) s.data.toList
    rwa [hs] at this
   case slice e =>
    simp only [Bool.and_eq_true, decide_eq_true_eq] at hp
    obtain ⟨⟨he, hpos⟩, _⟩ := hp
    have he : e ∈ S := by simpa using he
    rcases DataW.trod_slice hu h with ⟨rfl, _⟩ | ⟨a, len, cap, elems, rest, n', hn, rfl, _, hb, hl, hm, hlen, hel, _⟩
    ·exact ⟨[.sl [] .none], ⟨.slE _ _, trivial⟩, [], rfl, by simp, by simp⟩
    ·obtain rfl : n = n' := by omega
     have hat : ∀ i, i < len → ∃ cs asx, w.cells? base (a.add (i * P.cellsOf e)) (P.cellsOf e) = some cs ∧ All2 (DRel w (zbW w)) cs asx ∧ zbs P n e asx := by
      intro i hi
      have h1 := hel i hi
      rw [List.getElem?_eq_getElem (by omega)] at h1
      cases hc : w.cells? base (a.add (i * P.cellsOf e)) (P.cellsOf e) with
      | none => rw [hc] at h1; cases h1
      | some cs =>
       rw [hc] at h1
       obtain ⟨asx, h2, h3⟩ := ih e cs _ he h1
       exact ⟨cs, asx, rfl, h2, h3⟩
     by_cases h0 : len = 0
     ·subst h0
      exact ⟨[.sl [] .none], ⟨.slE _ _, trivial⟩, [], rfl, by simp, by simp⟩
     ·-- the address is a zaD one
      have hspot : a.spot = none := by
       obtain ⟨cs, asx, h1, h2, _⟩ := hat 0 (by omega)
       obtain ⟨h3, h4⟩ := zhi h1
       have h5 := h4 0 cs[0] (by simp)
       have := World.cell?_spot h5
       simpa [Addr.add] using this
      obtain ⟨b, off, sp⟩ := a
      simp only at hspot
      subst hspot
      obtain ⟨f, hf⟩ : ∃ f : Nat → List Value × List AV, ∀ i, i < len → w.cells? base ((⟨b, off, none⟩ : Addr).add (i * P.cellsOf e)) (P.cellsOf e) = some (f i).1 ∧ All2 (DRel w (zbW w)) (f i).1 (f i).2 ∧ zbs P n e (f i).2 :=
       Deep.choose_lt (p := fun i (y : List Value × List AV) => w.cells? base ((⟨b, off, none⟩ : Addr).add (i * P.cellsOf e)) (P.cellsOf e) = some y.1 ∧ All2 (DRel w (zbW w)) y.1 y.2 ∧ zbs P n e y.2)
        (fun i hi => by obtain ⟨cs, asx, h1, h2, h3⟩ := hat i hi; exact ⟨(cs, asx), h1, h2, h3⟩)
      have hcell : ∀ i, i < len → ∀ j v, (f i).1[j]? = some v → w.cell? ⟨b, off + i * P.cellsOf e + j, none⟩ = some v := by
       intro i hi j v hj
       have := (zhi (hf i hi).1).2 j v hj
       rw [add_lit, add_lit] at this
       exact this
      have hlen2 : ∀ i, i < len → (f i).2.length = P.cellsOf e := fun i hi => by
       rw [← (hf i hi).2.1.length]; exact (zhi (hf i hi).1).1
      refine ⟨[.sl ((List.range len).map fun i => (f i).2) .none], ⟨?_, trivial⟩, _, rfl, by simp; omega, ?_⟩
      ·have := DRel.sl (w := w) (L := zbW w) b off cap (P.cellsOf e) ((List.range len).map fun i => (f i).2) (fun i j => (f i).1.getD j undef) (by simp; exact h0) (by simpa using hl) ?_ ?_ ?_ ?_
       ·simpa using this
       ·-- the last cell is there
        have hi : len - 1 < len := by omega
        have hj : P.cellsOf e - 1 < (f (len - 1)).1.length := by rw [(zhi (hf _ hi).1).1]; omega
        have := zAd (hcell (len - 1) hi (P.cellsOf e - 1) _ (List.getElem?_eq_getElem hj))
        have hmul : (len - 1) * P.cellsOf e + P.cellsOf e = len * P.cellsOf e := by
         rw [← Nat.succ_mul]; congr 1; omega
        simp
        omega
       ·intro i hi
        simp at hi
        simpa using hlen2 i hi
       ·intro i j hi hj
        simp at hi hj
        have hjl : j < (f i).1.length := by rw [(hf i hi).2.1.length]; exact hj
        simp only [List.getD_eq_getElem?_getD, List.getElem?_eq_getElem hjl, Option.getD_some]
        exact hcell i hi j _ (List.getElem?_eq_getElem hjl)
       ·intro i j hi hj
        simp at hi hj
        have hjl : j < (f i).1.length := by rw [(hf i hi).2.1.length]; exact hj
        obtain ⟨c, h1, h2⟩ := (hf i hi).2.1.get' (List.getElem?_eq_getElem hjl)
        simp only [List.getD_eq_getElem?_getD, List.getElem?_eq_getElem hjl, Option.getD_some, List.getElem_map, List.getElem_range]
        have : (f i).2[j] = c := by rw [List.getElem?_eq_getElem hj] at h1; exact Option.some.inj h1
        rw [this]
        exact h2
      ·intro c hc
       obtain ⟨i, hi, rfl⟩ := List.mem_map.1 hc
       exact (hf i (by simpa using hi)).2.2
   case struct fs =>
    simp only [Bool.and_eq_true] at hp
    obtain ⟨hfs, htile⟩ := hp
    obtain ⟨xs, n', hn, _, hcl, hxl, hat⟩ := DataW.trod_struct hu h
    obtain rfl : n = n' := by omega
    obtain ⟨asx, h1, h2⟩ := zuj (P := P) (R := DRel w (zbW w)) (cs := cs) fs.toList 0 (P.cellsOf t) (fun f asx => zbs P n f.type asx) htile hcl (fun f hf => by
     obtain ⟨i, hi⟩ := List.mem_iff_getElem?.1 hf
     have hi' : fs[i]? = some f := by simpa using hi
     have h3 := hat i f hi'
     have hlt : i < xs.length := by rw [hxl]; exact (Array.getElem?_eq_some_iff.1 hi').1
     rw [List.getElem?_eq_getElem hlt] at h3
     exact ih f.type _ _ (by simpa using List.all_eq_true.1 hfs f hf) h3) (Nat.zero_le _)
    rw [List.drop_zero] at h1
    refine ⟨asx, h1, by rw [← h1.length]; exact hcl, fun f hf => ?_⟩
    simpa using (h2 f hf).1
end

theorem zng {Hh : Type} {enc : TypeId × Value → Hh} {P : Program} {w : World} {base : Nat} {spare : Nat → Bool} {held : Bool} {S : List TypeId} (hS : zgx P S = true) {t : TypeId} (ht : t ∈ S) {cs : Array Value} {d : DataW Hh} {p : List MemPlace}
  (h : DataW.Trod enc P w base spare held t (.agg cs) d p) : ∃ n asx, zbs P n t asx ∧ TRel w (G0 w) (.agg cs) (.agg asx) := by
 obtain ⟨n, hn⟩ := h
 obtain ⟨asx, h1, h2⟩ := zuo hS n t _ _ ht hn
 exact ⟨n, asx, h2, cs, rfl, h1.mono fun _ _ hd => ARel.of_b (DRel.toB (G := G0 w) hd)⟩
theorem zAJ {Hh : Type} {enc : TypeId × Value → Hh} {P : Program} {w : World} {base : Nat} {spare : Nat → Bool} {held : Bool} {S : List TypeId} (hS : zgx P S = true) {t : TypeId} (ht : t ∈ S) {v : Value} {d : DataW Hh} {p : List MemPlace} (hv : v.cells = #[v])
  (h : DataW.Trod enc P w base spare held t v d p) : ∃ n a, zbs P n t [a] ∧ TRel w (G0 w) v a := by
 obtain ⟨n, hn⟩ := h
 obtain ⟨asx, h1, h2⟩ := zuo hS n t _ _ ht hn
 rw [hv] at h1
 match asx, h1, h2 with
 | [a], h1, h2 => exact ⟨n, a, h2, TRel.of_v (VRel.of_a (ARel.of_b (DRel.toB (G := G0 w) h1.1)))⟩
section
variable {P : Program} {n : Nat} {t : TypeId} {l : List AV}
theorem zfp {k : IntKind} (hu : P.underlying t = some (.int k)) (h : zbs P n t l) : ∃ m, l = [.int k m] ∧ (Lit.int k m).wf = true := by
 cases n with
 | zero => exact h.elim
 | succ n => unfold zbs at h; rw [hu] at h; exact h
theorem zuz (hu : P.underlying t = some .string) (h : zbs P n t l) : ∃ s, l = [.str s] ∧ s.length ≤ maxLen := by
 cases n with
 | zero => exact h.elim
 | succ n => unfold zbs at h; rw [hu] at h; exact h
theorem zfq {e : TypeId} (hu : P.underlying t = some (.slice e)) (h : zbs P n t l) : ∃ es n', n' < n ∧ l = [.sl es .none] ∧ es.length ≤ maxLen ∧ ∀ c ∈ es, zbs P n' e c := by
 cases n with
 | zero => exact h.elim
 | succ n => unfold zbs at h; rw [hu] at h; obtain ⟨es, h1, h2, h3⟩ := h; exact ⟨es, n, by omega, h1, h2, h3⟩
theorem zgJ {fs : Array Field} (hu : P.underlying t = some (.struct fs)) (h : zbs P n t l) : ∃ n', n' < n ∧ l.length = P.cellsOf t ∧ ∀ f ∈ fs.toList, zbs P n' f.type ((l.drop f.offset).take (P.cellsOf f.type)) := by
 cases n with
 | zero => exact h.elim
 | succ n => unfold zbs at h; rw [hu] at h; exact ⟨n, by omega, h⟩
theorem zex {α : Type} {cs : α → List AV} : ∀ {es : List (List AV)}, (∀ c ∈ es, ∃ x, c = cs x) → ∃ xs : List α, es = xs.map cs
 | [], _ => ⟨[], rfl⟩
 | e :: es, h => by
  obtain ⟨x, hx⟩ := h e (by simp)
  obtain ⟨xs, hxs⟩ := zex (es := es) (fun c hc => h c (by simp [hc]))
  exact ⟨x :: xs, by simp [hx, hxs]⟩
end
end Go.Abs
