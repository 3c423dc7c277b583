import Derived.Test.YtjkkonpjecoieaaGreatKP10
import Derived.Test.YtjkkonpjecoieaaGreatKGY2
import Derived.Test.YtjkkonpjecoieaaGreatKGA
import Derived.Test.YtjkkonpjecoieaaGreatKUB
import Derived.Test.YtjkkonpjecoieaaGreatKNum
import Derived.Test.YtjkkonpjecoieaaGreatProg
import Derived.KernelRfl
set_option linter.unusedSimpArgs false
set_option linter.unusedVariables false
namespace Go.Proofs.YtjkkonpjecoieaaGreat
open Go Go.Abs
set_option maxRecDepth 8000
theorem zte {data : List Dat} {v t : VT} (h : zbX data v t = true) : zbe data = true ∧ zaQ data 0 t = true ∧ zav data v t = true := by
 simp only [zbX, zaY, Bool.and_eq_true] at h
 exact ⟨h.1.1, h.1.2, h.2⟩
theorem zt6 : ∀ {a b c d : List AV}, zaB a = some c → zaB b = some d → zaB (a ++ b) = some (c ++ d)
 | [], b, c, d, h, h' => by simp [zaB] at h; subst h; simpa using h'
 | x :: a, b, c, d, h, h' => by
  simp only [zaB] at h
  split at h
  ·rename_i p q hp hq
   cases h
   simp only [List.cons_append, zaB]
   rw [hp, zt6 hq h']
  ·cases h
theorem zBT (v : VT) : zaB v.cs = some v.cs := by
 obtain ⟨k, n, ks⟩ := v
 simp [VT.cs, zaB, AV.pd]
theorem zt8 : ∀ l : List VT, zaB (VT.css l).flatten = some (VT.css l).flatten
 | [] => by simp [VT.css, zaB]
 | v :: l => by
  simp only [VT.css, List.flatten_cons]
  exact zt6 (zBT v) (zt8 l)
end Go.Proofs.YtjkkonpjecoieaaGreat
namespace Go.Proofs.YtjkkonpjecoieaaGreat
open Go Go.Abs Go.RowKit
set_option maxRecDepth 8000
theorem znS (rs : List (List Bool)) (b : Nat) : ∀ v : VT, v.nodes ≤ b → ∀ x ∈ zbi rs v, x.nodes ≤ b := by
 intro v
 induction hm : v.nodes using Nat.strongRecOn generalizing v with
 | _ m ih =>
  intro hb x hx
  obtain ⟨k, n, ks⟩ := v
  have key : ∀ (l : List VT) (bs : List Bool), (∀ y ∈ l, y.nodes < m) → ∀ x ∈ zbG rs l bs, x.nodes ≤ b := by
   intro l
   induction l with
   | nil => intro bs _ x hx; simp [zbG] at hx
   | cons y l ihl =>
    intro bs hy x hx
    match bs with
    | [] => simp [zbG] at hx
    | c :: bs =>
     simp only [zbG, List.mem_append] at hx
     rcases hx with hx | hx
     ·split at hx
      ·have h1 := hy y (by simp)
       exact ih _ h1 y rfl (by omega) x hx
      ·simp at hx
     ·exact ihl bs (fun z hz => hy z (by simp [hz])) x hx
  simp only [zbi, List.mem_cons] at hx
  rcases hx with rfl | hx
  ·omega
  ·exact key ks _ (fun y hy => by have := zd8 (k := k) (n := n) y hy; omega) x hx
end Go.Proofs.YtjkkonpjecoieaaGreat
namespace Go.Proofs.YtjkkonpjecoieaaGreat
open Go Go.Abs
theorem zum {data : List Dat} : ∀ (l : List IT) (ts : List VT) (a : Int), 0 ≤ a → 0 ≤ rdA data l ts a → a ≤ rdA data l ts a
 | [], ts, a, _, _ => by rw [rdA]; exact Int.le_refl _
 | i :: l, [], a, _, h => by simp [rdA] at h
 | i :: l, t :: ts, a, ha, h => by
  simp only [rdA] at h ⊢
  by_cases hc : rdV data i t < 0 ∨ a + rdV data i t > 6
  ·rw [if_pos hc] at h; omega
  ·rw [if_neg hc] at h ⊢
   have := zum l ts _ (by omega) h
   omega
theorem zBW {data : List Dat} {n : Nat} {al : List VT} : ∀ (m : Nat) (v : VT), v.nodes ≤ m → zav data v (.mk 5 n al) = true → ∀ x ∈ zbi (za4 data n) v, zav data x (.mk 5 n al) = true := by
 intro m
 induction m with
 | zero => intro v h; have := v.nodes_pos; omega
 | succ m ih =>
  intro v hm hh x hx
  obtain ⟨vk, c, ks⟩ := v
  obtain ⟨rfl, n0, c0, c8, hn, hc, hkl, _, hrc, hrl, hkid⟩ := zeA hh
  simp only [Int.toNat_natCast] at hn hc hkl hrc hrl hkid
  rw [zbi, List.mem_cons] at hx
  rcases hx with rfl | hx
  ·exact hh
  ·rw [hrc, zuc _ _ _ (by simpa [zbu] using hkl)] at hx
   obtain ⟨j, hj, hx⟩ := List.mem_flatMap.1 hx
   have hjl := zdv hj
   have hjl2 : j < ((data[n]).cons[c.toNat]).args.length := by simpa [zbu] using hjl
   have hjk : j < ks.length := by omega
   rw [List.getD_eq_getElem?_getD, List.getElem?_eq_getElem hjk, Option.getD_some] at hx
   have hnn := VT.kid_lt (k := 5) (n := c) hjk
   refine ih ks[j] (by omega) (hkid j hjk hjl2 ?_) x hx
   simp [pos, zbu, hjl2] at hj
   exact hj
mutual
theorem zf6 {data : List Dat} {N : Nat} (hN : 1 ≤ N) : ∀ (i : IT) (t v : VT), v.nodes ≤ N → 0 ≤ rdV data i t → atV data i t v ≤ N ^ (rdV data i t).toNat
 | .mk n ks, t, v, hv, hd => by
  have hvk : ∀ x ∈ v.kids, x.nodes ≤ N := by
   obtain ⟨a, b, c⟩ := v
   intro x hx
   simp only [VT.kids] at hx
   have := zd8 (k := a) (n := b) x hx
   omega
  rw [rdV] at hd ⊢
  rw [atV]
  by_cases h6 : t.kind = 6
  ·simp only [h6, if_true] at hd ⊢
   by_cases hn : n = 0
   ·by_cases hl : t.kids.length = ks.length
    ·simp only [hn, hl, if_true] at hd ⊢
     have := zhE hN ks t.kids v.kids 0 (by omega) hvk hd
     simpa using this
    ·simp [hn, hl] at hd
   ·simp [hn] at hd
  ·by_cases h7 : t.kind = 7
   ·simp only [h6, h7, if_false, if_true] at hd ⊢
    by_cases hc : 0 ≤ n ∧ n ≤ 6 ∧ ks.length = 0
    ·simp only [hc, and_self, if_true] at hd ⊢
     simp
     refine Nat.le_trans (zhH _ _) (Nat.pow_le_pow_left ?_ _)
     obtain ⟨a, b, c⟩ := v
     have := VT.len_le c
     simp only [VT.kids, VT.nodes] at hv ⊢
     omega
    ·rw [if_neg hc] at hd; omega
   ·by_cases h5 : t.kind = 5
    ·simp only [h6, h7, h5, if_false, if_true] at hd ⊢
     by_cases hc : n = 0 ∧ ks.length ≤ 6
     ·simp only [hc, and_self, if_true] at hd ⊢
      have hpl := ziN (za4 data t.num.toNat) v
      have := zn9 hN ks t (zbi (za4 data t.num.toNat) v) 0 (by omega) (by omega) (znS _ N v hv) hd
      simpa using this
     ·rw [if_neg hc] at hd; omega
    ·simp only [h6, h7, h5, if_false] at hd ⊢
     exact Nat.pow_pos hN
theorem zhE {data : List Dat} {N : Nat} (hN : 1 ≤ N) : ∀ (l : List IT) (ts vs : List VT) (a : Int), 0 ≤ a → (∀ x ∈ vs, x.nodes ≤ N) → 0 ≤ rdA data l ts a → atL data l ts vs ≤ N ^ (rdA data l ts a - a).toNat
 | [], ts, vs, a, _, _, _ => by rw [atL]; exact Nat.pow_pos hN
 | i :: l, [], vs, a, _, _, _ => by simp only [atL]; exact Nat.pow_pos hN
 | i :: l, t :: ts, [], a, _, _, _ => by simp only [atL]; exact Nat.pow_pos hN
 | i :: l, t :: ts, v :: vs, a, ha, hv, hd => by
  simp only [rdA] at hd ⊢
  by_cases hc : rdV data i t < 0 ∨ a + rdV data i t > 6
  ·rw [if_pos hc] at hd; omega
  ·rw [if_neg hc] at hd ⊢
   have h1 := zf6 (data := data) hN i t v (hv v (by simp)) (by omega)
   have h2 := zhE hN l ts vs (a + rdV data i t) (by omega) (fun x hx => hv x (by simp [hx])) hd
   have hge := (zum l ts (a + rdV data i t) (by omega) hd)
   simp only [atL]
   refine Nat.le_trans (Nat.mul_le_mul h1 h2) ?_
   rw [← Nat.pow_add]
   exact Nat.pow_le_pow_right hN (by omega)
theorem zn9 {data : List Dat} {N : Nat} (hN : 1 ≤ N) : ∀ (es : List IT) (t : VT) (nodes : List VT) (a : Int), 0 ≤ a → nodes.length ≤ N → (∀ x ∈ nodes, x.nodes ≤ N) → 0 ≤ rdE data es t a → zaC (wtL data es t) nodes ≤ N ^ (rdE data es t a - a).toNat
 | [], t, nodes, a, _, _, _, _ => by simp only [wtL, zaC]; exact Nat.pow_pos hN
 | .mk c ks :: es, t, nodes, a, ha, hl, hv, hd => by
  rw [zec] at hd ⊢
  by_cases hc : c < 0 ∨ 8 ≤ c
  ·rw [if_pos hc] at hd; omega
  ·rw [if_neg hc] at hd ⊢
   cases hp : zbl data t c with
   | none => rw [hp] at hd; simp at hd
   | some ps =>
    rw [hp] at hd
    simp only at hd ⊢
    by_cases hlen : ps.length = ks.length
    ·rw [if_pos hlen] at hd ⊢
     by_cases hx : rdA data ks ps 0 < 0 ∨ a + 1 + rdA data ks ps 0 > 6
     ·rw [if_pos hx] at hd; omega
     ·rw [if_neg hx] at hd ⊢
      have h2 := zn9 hN es t nodes (a + (1 + rdA data ks ps 0)) (by omega) hl hv hd
      have hw : ∀ x ∈ nodes, wtE data (.mk c ks) t x ≤ N ^ (rdA data ks ps 0).toNat := by
       intro x hxm
       rw [wtE]
       split
       ·rw [hp]
        have hpk : ∀ y ∈ pick x.kids ((za4 data t.num.toNat).getD c.toNat []), y.nodes ≤ N := by
         intro y hy
         have h3 := hv x hxm
         obtain ⟨p, q, r⟩ := x
         have hy' : y ∈ r := zeM hy
         have := zd8 (k := p) (n := q) y hy'
         omega
        have := zhE (data := data) hN ks ps (pick x.kids ((za4 data t.num.toNat).getD c.toNat [])) 0 (by omega) hpk (by omega)
        simpa using this
       ·exact Nat.zero_le _
      have h3 := zuH (wtE data (.mk c ks) t) (wtL data es t) nodes
      have h4 := zu4 nodes hw
      have hge : rdE data es t (a + (1 + rdA data ks ps 0)) = -1 ∨ (a + (1 + rdA data ks ps 0)) + es.length ≤ rdE data es t (a + (1 + rdA data ks ps 0)) := ziP es t _ (by omega)
      rw [wtL]
      refine Nat.le_trans h3 (Nat.le_trans (Nat.mul_le_mul (Nat.le_trans h4 (Nat.mul_le_mul_right _ hl)) h2) ?_)
      rw [show N * N ^ (rdA data ks ps 0).toNat = N ^ ((rdA data ks ps 0).toNat + 1) by rw [Nat.pow_succ, Nat.mul_comm], ← Nat.pow_add]
      exact Nat.pow_le_pow_right hN (by omega)
    ·rw [if_neg hlen] at hd; omega
end
end Go.Proofs.YtjkkonpjecoieaaGreat
namespace Go.Proofs.YtjkkonpjecoieaaGreat
open Go Go.Abs
set_option maxRecDepth 8000
structure AtOk (data : List Dat) (i : IT) (t v : VT) : Prop where
 tn : t.nodes ≤ 1000
 tv : zaQ data 0 t = true
 rd : 0 ≤ rdV data i t
 hv : zav data v t = true
 vn : v.nodes ≤ 1000
 inn : i.nodes ≤ 900
theorem AtOk.le {data : List Dat} {i : IT} {t v : VT} (h8 : ∀ D ∈ data, D.cons.length ≤ 8) (h : AtOk data i t v) : atV data i t v ≤ 1000 ^ 6 := by
 have h1 := zf6 (N := 1000) (by omega) i t v h.vn h.rd
 have h2 := zB3 (h8 := h8) i t
 exact Nat.le_trans h1 (Nat.pow_le_pow_right (by omega) (by omega))
theorem zfE {n k : Nat} (h : n ≤ 1000 ^ k) (hk : k ≤ 60) : Sm (n : Int) := zCA (Nat.lt_of_le_of_lt h (Nat.lt_of_le_of_lt (Nat.pow_le_pow_right (by omega) hk) (by decide)))
def zrC : List AV := [.bool false, .snil, .snil]
def rz (l : List Nat) : List AV := (l.map fun (z : Nat) => zan (z : Int)).flatten
def zz (m : Nat) : List AV := (List.replicate m zrC).flatten
@[simp] theorem zSw (l : List Nat) : (rz l).length = l.length * 3 := by
 induction l with
 | nil => rfl
 | cons x l ih => simp only [rz, List.map_cons, List.flatten_cons, List.length_append, zB1, List.length_cons] at ih ⊢; omega
@[simp] theorem zSQ (m : Nat) : (zz m).length = m * 3 := by
 induction m with
 | zero => rfl
 | succ m ih => simp only [zz, List.replicate_succ, List.flatten_cons, List.length_append] at ih ⊢; rw [ih]; simp [zrC]; omega
theorem zzI (m : Nat) : zz (m + 1) = zrC ++ zz m := by simp [zz, List.replicate_succ]
theorem zfD (a b : List Nat) : rz (a ++ b) = rz a ++ rz b := by simp [rz]
theorem zn3 (x : Nat) : rz [x] = zan (x : Int) := by simp [rz]
theorem zuy (l : List Nat) (n : Nat) : (rz l).all (AV.scA n) = true := by
 induction l with
 | nil => rfl
 | cons x l ih => rw [show rz (x :: l) = zan (x : Int) ++ rz l from rfl, List.all_append, ih]; rfl
theorem zPg (m n : Nat) : (zz m).all (AV.scA n) = true := by
 induction m with
 | zero => rfl
 | succ m ih => rw [zzI, List.all_append, ih]; rfl
theorem zCk (l : List Nat) (m x : Nat) : (rz l ++ zz (m + 1)).take (l.length * 3) ++ zan (x : Int) ++ (rz l ++ zz (m + 1)).drop (l.length * 3 + 3) = rz (l ++ [x]) ++ zz m := by
 rw [List.take_left' (by simp), zzI, ← List.append_assoc (rz l), List.drop_left' (by simp [zrC]), zfD, zn3]
theorem zuz (l : List Nat) (k x : Nat) (h : k < l.length) : (rz l).take (k * 3) ++ zan (x : Int) ++ (rz l).drop (k * 3 + 3) = rz (l.set k x) := by
 have e : rz l = rz (l.take k) ++ (zan ((l[k] : Nat) : Int) ++ rz (l.drop (k + 1))) := by
  rw [← zn3, ← zfD, ← zfD]
  congr 1
  rw [List.singleton_append, ← List.drop_eq_getElem_cons h, List.take_append_drop]
 have hl : (rz (l.take k)).length = k * 3 := by simp [Nat.min_eq_left (Nat.le_of_lt h)]
 have e1 : (rz l).take (k * 3) = rz (l.take k) := by rw [e, List.take_left' hl]
 have e2 : (rz l).drop (k * 3 + 3) = rz (l.drop (k + 1)) := by
  rw [e, ← List.append_assoc, List.drop_left' (by simp [hl])]
 rw [e1, e2, List.set_eq_take_append_cons_drop, if_pos h, zfD, show rz (x :: l.drop (k + 1)) = zan (x : Int) ++ rz (l.drop (k + 1)) from rfl, List.append_assoc]
theorem zn2 (l : List Nat) (k : Nat) (h : k < l.length) : ((rz l).drop (k * 3)).take 3 = zan ((l[k] : Nat) : Int) := by
 have e : rz l = rz (l.take k) ++ (zan ((l[k] : Nat) : Int) ++ rz (l.drop (k + 1))) := by
  rw [← zn3, ← zfD, ← zfD]
  congr 1
  rw [List.singleton_append, ← List.drop_eq_getElem_cons h, List.take_append_drop]
 have hl : (rz (l.take k)).length = k * 3 := by simp [Nat.min_eq_left (Nat.le_of_lt h)]
 rw [e, List.drop_left' hl, List.take_left' (by simp)]
theorem znN {data : List Dat} {k n : Int} {ks : List VT} {c : Int} {l : List VT} (hk : za5 data) (hf : zaR data (.mk k n ks) c = some l) :
  ∃ bs, (za4 data n.toNat).getD c.toNat [] = bs ∧ l.length = bs.length ∧ l.length ≤ 8 ∧ zbl data (.mk k n ks) c = some (pick l bs) ∧ (∀ x ∈ l, x.nodes ≤ 200) ∧ k = 5 ∧
   (∀ H K, K (.sl (zbq bs) .none) H → ACalls tP zdf [.sl (data.map Dat.cs) .none, .int .i64 n, .int .i64 c] H K) ∧
   (∀ H K, K (.sl (zbq bs) .none) H → ACalls tP zfo [.sl (data.map Dat.cs) .none, .int .i64 n, .int .i64 c] H K) ∧
   (∀ j, bs.getD j false = true → l.getD j tz = .mk 5 n ks) ∧ 0 ≤ c ∧ ∃ (hn : n.toNat < data.length) (hc : c.toNat < (data[n.toNat]).cons.length), l.length = ((data[n.toNat]).cons[c.toNat]).args.length := by
 obtain ⟨k5, n0, c0, hn, hc, hv, rfl, h200⟩ := zfh hf
 obtain ⟨f1, f2, f3⟩ := zc6 hk
 have hd := List.getElem_mem hn
 have hcm := List.getElem_mem hc
 obtain ⟨g1, g2⟩ := f2 _ hd _ hcm
 have g3 := f3 _ hd
 have h8 := ((hk.2 _ hd).2.2 _ hcm).2.1
 refine ⟨zbu n.toNat data[n.toNat] (data[n.toNat]).cons[c.toNat], by simp [za4, hn, hc, List.getD_eq_getElem?_getD], by simp [zbu], by simpa using h8, ?_, h200, k5, fun H K hK => ?_, fun H K hK => ?_, fun j hj => ?_, c0, hn, hc, by simp⟩
 ·simp [zbl, hf, za4, hn, hc, List.getD_eq_getElem?_getD, VT.num]
 ·have := zlC data n.toNat c.toNat hn hc f1 g3 (by omega) (fun x hx => by have := g2 x hx; omega) H K (by simpa [zbq, zbu, Function.comp_def] using hK)
  rwa [Int.toNat_of_nonneg n0, Int.toNat_of_nonneg c0] at this
 ·have := zv3 data n.toNat c.toNat hn hc f1 g3 (by omega) (fun x hx => by have := g2 x hx; omega) H K hK
  rwa [Int.toNat_of_nonneg n0, Int.toNat_of_nonneg c0] at this
 ·have hjl : j < ((data[n.toNat]).cons[c.toNat]).args.length := by
   refine Nat.lt_of_not_le fun hle => ?_
   rw [List.getD_eq_getElem?_getD, List.getElem?_eq_none (by simpa [zbu] using hle)] at hj
   simp at hj
  simp only [List.getD_eq_getElem?_getD, zbu, List.getElem?_map, List.getElem?_eq_getElem hjl, Option.map_some, Option.getD_some] at hj ⊢
  rw [zuF hj hv, Int.toNat_of_nonneg n0]
theorem zvn {data : List Dat} {t : VT} (ht : zaQ data 0 t = true) : zaS data 0 t = true := by
 rw [zaQ, Bool.and_eq_true] at ht; exact ht.2
theorem zuN : ∀ l : List IT, l = (l.map fun x => [x]).flatten
 | [] => rfl
 | x :: l => by rw [List.map_cons, List.flatten_cons, ← zuN l]; rfl
theorem znV {data : List Dat} (h8 : ∀ D ∈ data, D.cons.length ≤ 8) {t : VT} {ks : List IT} (h : 0 ≤ rdE data ks t 0) {j : Nat} (hj : j < ks.length) {c : Int} {eks : List IT} (he : ks[j] = .mk c eks) :
  ∃ ps, zbl data t c = some ps ∧ ps.length = eks.length ∧ 0 ≤ rdA data eks ps 0 ∧ rdA data eks ps 0 ≤ 6 := by
 rw [zuN ks] at h
 have h1 := (zgX h8 t (ks.map fun x => [x]) 0 (by omega) (by omega) h).1 [ks[j]] (List.mem_map.2 ⟨ks[j], List.getElem_mem hj, rfl⟩)
 rw [he, zec] at h1
 split at h1
 ·omega
 ·split at h1
  ·omega
  ·rename_i ps hp
   split at h1
   ·rename_i hl
    split at h1
    ·omega
    ·rename_i hc
     exact ⟨ps, hp, hl, by omega, by omega⟩
   ·omega
theorem ztN {data : List Dat} {n c : Int} {tks nks l : List VT} {bs : List Bool} (hh : zav data (.mk 5 c nks) (.mk 5 n tks) = true) (hf : zaR data (.mk 5 n tks) c = some l) (hlb : l.length = bs.length) :
  nks.length = l.length ∧ ∀ i (h1 : i < (pick nks bs).length) (h2 : i < (pick l bs).length), zav data (pick nks bs)[i] (pick l bs)[i] = true := by
 have hl : zbx data nks l = true := by
  simp [zav] at hh
  rw [hf, zgn] at hh
  exact hh.2
 have hlen := zgo hl
 refine ⟨hlen, fun i h1 h2 => ?_⟩
 have e1 := zdt (l := nks) (bs := bs) (by omega) tz nks.length (Nat.le_refl _)
 have e2 := zdt (l := l) (bs := bs) hlb tz l.length (Nat.le_refl _)
 rw [List.take_length, hlen, hlb, List.take_length] at e1
 rw [List.take_length, hlb, List.take_length] at e2
 have hp : i < (pos false bs bs.length).length := by rw [e1] at h1; simpa using h1
 have hq := zdv (List.getElem_mem hp)
 have g1 : (pick nks bs)[i] = nks[(pos false bs bs.length)[i]]'(by omega) := by
  simp only [e1, List.getElem_map, List.getD_eq_getElem?_getD]
  rw [List.getElem?_eq_getElem (by omega), Option.getD_some]
 have g2 : (pick l bs)[i] = l[(pos false bs bs.length)[i]]'(by omega) := by
  simp only [e2, List.getElem_map, List.getD_eq_getElem?_getD]
  rw [List.getElem?_eq_getElem (by omega), Option.getD_some]
 rw [g1, g2]
 exact zfk hl _ (by omega) (by omega)
end Go.Proofs.YtjkkonpjecoieaaGreat
namespace Go.Proofs.YtjkkonpjecoieaaGreat
open Go Go.Abs
set_option maxRecDepth 100000
def ze2 : Nat → List Bool
 | 15 => rl false [0,1,5,1,2,2,1,2,46,3,44]
 | 19 => rl false [0,1,5,1,2,2,1,2,2,1,43,3,4,3,37]
 | _ => []
noncomputable def zqn : Code := Tryz.f28.body.getD .skip
noncomputable def zKC : List ResultVar := Tryz.f28.results.toList
def zkN (t0 t6 t9 t10 t12 t13 t60 t61 t62 : AV) : List AV := t0 :: ux 5 (t6 :: ux 2 (t9 :: t10 :: ux 1 (t12 :: t13 :: ux 46 (t60 :: t61 :: t62 :: ux 44 []))))
def zyg : List Bool := ze2 15
noncomputable def zqo : Code := zas [1, 1, 1, 1, 1, 1, 1, 0, 1, 0, 0] zqn
def zyd (K : Kt) : AExit → List AV → zaa → Prop := zat tP ze2 [1, 1, 1, 1, 1, 1, 1, 0, 1, 0] zqn (zaA tP zKC K)
def zye (t0 t6 t9 t10 t12 t13 t60 t61 t62 : AV) (H : zaa) (K : Kt) : Prop := ALoop tP zqo (zyd K) (zkN t0 t6 t9 t10 t12 t13 t60 t61 t62) H
def zkO (t0 t6 t9 t10 t12 t13 t16 t60 t61 t62 t67 t68 t69 : AV) : List AV := t0 :: ux 5 (t6 :: ux 2 (t9 :: t10 :: ux 1 (t12 :: t13 :: ux 2 (t16 :: ux 43 (t60 :: t61 :: t62 :: ux 4 (t67 :: t68 :: t69 :: ux 37 []))))))
def zKA : List Bool := ze2 19
noncomputable def zKx : Code := zas [1, 1, 0, 0, 1, 1, 0, 1, 0, 0] zqo
def zKw (K : Kt) (Kb15 : Lt) : AExit → List AV → zaa → Prop := zat tP ze2 [1, 1, 0, 0, 1, 1, 0, 1, 0] zqo (zbz zyg Kb15 (zyd K))
def zyf (t0 t6 t9 t10 t12 t13 t16 t60 t61 t62 t67 t68 t69 : AV) (H : zaa) (K : Kt) (Kb15 : Lt) : Prop := ALoop tP zKx (zKw K Kb15) (zkO t0 t6 t9 t10 t12 t13 t16 t60 t61 t62 t67 t68 t69) H
def zqm (t0 t6 t9 t10 t12 t13 t16 t60 t61 t62 t67 t68 t69 : AV) (H : zaa) (K : Kt) (Kb15 : Lt) (Kb19 : Lt) : Prop :=
 zac .lss false t69 t68 fun t70 =>
 zag t70
 (zaj 2 t67 t69 fun t72 =>
 zad true 2 t72 H fun t73 =>
 zau [(.int .i64 0), .snil] H fun t18 H =>
 zak 2 t18 t73 H fun H =>
 zae H (fun K' => K' t0 H) fun t75 =>
 zae H (fun K' => K' t12 H) fun t76 =>
 zae H (fun K' => K' t69 H) fun t77 =>
 zae H (fun K' => zaj 3 t76 t77 (K' · H)) fun t78 =>
 zae H (fun K' => zal true 3 t78 H (K' · H)) fun t79 =>
 zae H (fun K' => zal true 2 t18 H (K' · H)) fun t80 =>
 zae H (fun K' => zaf 2 t6 (K' · H)) fun t81 =>
 zae H (fun K' => zal false 1 t81 H (K' · H)) fun t82 =>
 zae H (fun K' => K' t69 H) fun t83 =>
 zae H (fun K' => zaj 3 t82 t83 (K' · H)) fun t84 =>
 zae H (fun K' => zal true 3 t84 H (K' · H)) fun t85 =>
 zaG H (fun H K' => ACalls tP zii [t75, t79, t80, t85] H K') fun t86 =>
 zae H (fun K' => K' t86 H) fun t74 =>
 zae H (fun K' => zay t74 0 (K' · H)) fun t87 =>
 zae H (fun K' => zay t74 1 (K' · H)) fun t88 =>
 zau [(.bool false), .snil, .snil] H fun t19 H =>
 zak 3 t19 t87 H fun H =>
 zae H (fun K' => K' t88 H) fun t20 =>
 zac .neq false t20 (.int .i64 0) fun t90 =>
 zag t90
 (K (.bool false) H)
 (zad true 3 t16 H fun t91 =>
 zad true 3 t19 H fun t92 =>
 ACalls tP zeK [t91, t92] H fun t93 H =>
 zak 3 t16 t93 H fun H =>
 zac .add false t69 (.int .i64 1) fun t94 =>
 Kb19 (zkO t0 t6 t9 t10 t12 t13 t16 t60 t61 t62 t67 t68 t94) H))
 (zad true 3 t13 H fun t95 =>
 zad true 3 t16 H fun t96 =>
 ACalls tP zis [t95, t96] H fun t97 H =>
 zak 3 t13 t97 H fun H =>
 zac .add false t62 (.int .i64 1) fun t98 =>
 Kb15 (zkN t0 t6 t9 t10 t12 t13 t60 t61 t98) H)
def zql (t0 t6 t9 t10 t12 t13 t60 t61 t62 : AV) (H : zaa) (K : Kt) (Kb15 : Lt) : Prop :=
 zac .lss false t62 t61 fun t63 =>
 zag t63
 (zaj 1 t60 t62 fun t64 =>
 zad false 1 t64 H fun t65 =>
 ACalls tP zde [(.int .i64 1)] H fun t66 H =>
 zau [(.bool false), .snil, .snil] H fun t16 H =>
 zak 3 t16 t66 H fun H =>
 zah 1 t65 fun t68 =>
 zyf t0 t6 t9 t10 t12 t13 t16 t60 t61 t62 t65 t68 (.int .i64 0) H K Kb15)
 (zac .eql false t10 (.int .i64 0) fun t100 =>
 zab t100 true H (fun K' => zad true 3 t13 H (K' · H)) fun t102 H =>
 zab t100 true H (fun K' => zad true 3 t9 H (K' · H)) fun t103 H =>
 zab t100 true H (fun K' => ACalls tP znD [t102, t103] H K') fun t104 H =>
 zab t100 true H (fun K' => zac .eql false t104 (.int .i64 0) (K' · H)) fun t105 H =>
 zai t100 t105 (.bool false) fun t106 =>
 K t106 H)
def zqp (t0 t6 t9 t10 t11 t12 : AV) (H : zaa) (K : Kt) : Prop :=
 ACalls tP zde [(.int .i64 0)] H fun t59 H =>
 zau [(.bool false), .snil, .snil] H fun t13 H =>
 zak 3 t13 t59 H fun H =>
 zah 1 t11 fun t61 =>
 zye t0 t6 t9 t10 t12 t13 t11 t61 (.int .i64 0) H K
def zkP (t0 t6 t9 t10 t11 t12 : AV) (H : zaa) (K : Kt) : Prop :=
 zqp t0 t6 t9 t10 t11 t12 H K
def zyc (t0 t1 t2 t3 : AV) (H : zaa) (K : Kt) : Prop :=
 zao t1 H fun t5 H =>
 zao t2 H fun t6 H =>
 zao t3 H fun t7 H =>
 zad true 3 t5 H fun t23 =>
 zad true 2 t7 H fun t24 =>
 zad true 3 t6 H fun t25 =>
 ACalls tP zii [t0, t23, t24, t25] H fun t26 H =>
 zay t26 0 fun t27 =>
 zay t26 1 fun t28 =>
 zau [(.bool false), .snil, .snil] H fun t9 H =>
 zak 3 t9 t27 H fun H =>
 zac .neq false t28 (.int .i64 0) fun t30 =>
 zag t30
 (K (.bool false) H)
 (zaf 2 t5 fun t31 =>
 zad false 1 t31 H fun t32 =>
 zaf 0 t5 fun t33 =>
 zad false 1 t33 H fun t34 =>
 zac .eql false t34 (.int .i64 6) fun t36 =>
 zag t36
 (zaf 1 t7 fun t37 =>
 zad false 1 t37 H fun t38 =>
 zaz 1 [.snil] 1 [(0, t38)] fun t39 =>
 zkP t0 t6 t9 t28 t39 t32 H K)
 (zac .eql false t34 (.int .i64 5) fun t41 =>
 zag t41
 (zad true 3 t5 H fun t44 =>
 zaf 1 t6 fun t45 =>
 zad false 1 t45 H fun t46 =>
 zad true 2 t7 H fun t47 =>
 ACalls tP zgC [t0, t44, t46, t47] H fun t48 H =>
 zay t48 0 fun t49 =>
 zay t48 1 fun t50 =>
 zad true 3 t5 H fun t53 =>
 zaf 1 t6 fun t54 =>
 zad false 1 t54 H fun t55 =>
 ACalls tP zeb [t0, t53, t55] H fun t56 H =>
 zay t56 0 fun t57 =>
 zay t56 1 fun t58 =>
 zkP t0 t6 t9 t50 t49 t57 H K)
 (K (.bool false) H)))
theorem zKz {t0 t6 t9 t10 t12 t13 t16 t60 t61 t62 t67 t68 t69 : AV} {H : zaa} {K : Kt} {Kb15 : Lt} (Inv : Nat → AV → zaa → Prop) (n : Nat) (h0 : HSc H → Inv n t69 H)
  (round : Rd1 (fun t69 => zkO t0 t6 t9 t10 t12 t13 t16 t60 t61 t62 t67 t68 t69) (fun t69 => fun H Kb19 => zqm t0 t6 t9 t10 t12 t13 t16 t60 t61 t62 t67 t68 t69 H K Kb15 Kb19) H Inv) : zyf t0 t6 t9 t10 t12 t13 t16 t60 t61 t62 t67 t68 t69 H K Kb15 :=
 lp1 (M := ze2) zKA t69 (by kernel_rfl) Inv n h0 round
theorem zKy {t0 t6 t9 t10 t12 t13 t60 t61 t62 : AV} {H : zaa} {K : Kt} (Inv : Nat → AV → zaa → Prop) (n : Nat) (h0 : HSc H → Inv n t62 H)
  (round : Rd1 (fun t62 => zkN t0 t6 t9 t10 t12 t13 t60 t61 t62) (fun t62 => fun H Kb15 => zql t0 t6 t9 t10 t12 t13 t60 t61 t62 H K Kb15) H Inv) : zye t0 t6 t9 t10 t12 t13 t60 t61 t62 H K :=
 lp1 (M := ze2) zyg t62 (by kernel_rfl) Inv n h0 round
theorem zKB {t0 t1 t2 t3 : AV} {H : zaa} {K : Kt} (h : HSc H → zyc t0 t1 t2 t3 H K) : ACalls tP zih [t0, t1, t2, t3] H K :=
 zam (M := ze2) Tryz.func28 (c := zqn) (by kernel_rfl) (fun hs => Eq.mpr (by kernel_rfl) (h hs))
def zb8 : Nat → List Bool
 | 3 => rl false [0,1,4,1,1,3,16,3,150]
 | 8 => rl false [0,1,4,1,1,3,2,2,12,3,21,3,126]
 | 18 => rl false [0,1,4,1,1,3,7,1,67,2,92]
 | 24 => rl false [0,1,7,2,7,1,82,3,76]
 | 27 => rl false [0,1,7,2,7,1,2,2,78,3,76]
 | 33 => rl false [0,1,7,2,7,1,2,4,76,3,34,3,39]
 | _ => []
noncomputable def zeT : Code := Tryz.f128.body.getD .skip
noncomputable def zoS : List ResultVar := Tryz.f128.results.toList
def zjk (t0 t5 t7 t8 t9 t26 t27 t28 : AV) : List AV := t0 :: ux 4 (t5 :: ux 1 (t7 :: t8 :: t9 :: ux 16 (t26 :: t27 :: t28 :: ux 150 [])))
def zwf : List Bool := zb8 3
noncomputable def zoP : Code := zas [1, 1, 0, 1, 0, 0] zeT
def zv8 (K : Kt) : AExit → List AV → zaa → Prop := zat tP zb8 [1, 1, 0, 1, 0] zeT (zaA tP zoS K)
def zhd (t0 t5 t7 t8 t9 t26 t27 t28 : AV) (H : zaa) (K : Kt) : Prop := ALoop tP zoP (zv8 K) (zjk t0 t5 t7 t8 t9 t26 t27 t28) H
def zjm (t0 t5 t7 t8 t9 t12 t13 t26 t27 t28 t50 t51 t52 : AV) : List AV := t0 :: ux 4 (t5 :: ux 1 (t7 :: t8 :: t9 :: ux 2 (t12 :: t13 :: ux 12 (t26 :: t27 :: t28 :: ux 21 (t50 :: t51 :: t52 :: ux 126 [])))))
def zE4 : List Bool := zb8 8
noncomputable def zEV : Code := zas [1, 1, 0, 0, 1, 1, 1, 0, 1, 0, 0] zoP
def zES (K : Kt) (Kb3 : Lt) : AExit → List AV → zaa → Prop := zat tP zb8 [1, 1, 0, 0, 1, 1, 1, 0, 1, 0] zoP (zbz zwf Kb3 (zv8 K))
def zoR (t0 t5 t7 t8 t9 t12 t13 t26 t27 t28 t50 t51 t52 : AV) (H : zaa) (K : Kt) (Kb3 : Lt) : Prop := ALoop tP zEV (zES K Kb3) (zjm t0 t5 t7 t8 t9 t12 t13 t26 t27 t28 t50 t51 t52) H
def zv9 (t0 t5 t7 t8 t9 t12 t13 t26 t27 t28 t50 t51 t52 : AV) (H : zaa) (K : Kt) (Kb3 : Lt) (Kb8 : Lt) : Prop :=
 zac .add false t52 (.int .i64 1) fun t74 =>
 Kb8 (zjm t0 t5 t7 t8 t9 t12 t13 t26 t27 t28 t50 t51 t74) H
def zjn (t0 t5 t7 t8 t9 t12 t13 t26 t27 t28 t50 t51 t52 : AV) (H : zaa) (K : Kt) (Kb3 : Lt) (Kb8 : Lt) : Prop :=
 zv9 t0 t5 t7 t8 t9 t12 t13 t26 t27 t28 t50 t51 t52 H K Kb3 Kb8
def zjh (t0 t5 t7 t8 t9 t12 t13 t26 t27 t28 t50 t51 t52 : AV) (H : zaa) (K : Kt) (Kb3 : Lt) (Kb8 : Lt) : Prop :=
 zac .lss false t52 t51 fun t53 =>
 zag t53
 (zaj 1 t50 t52 fun t55 =>
 zad false 1 t55 H fun t56 =>
 aUn .not t56 fun t58 =>
 zag t58
 (zaf 2 t12 fun t59 =>
 zad false 1 t59 H fun t60 =>
 zaz 1 [(.int .i64 0)] 1 [(0, t52)] fun t62 =>
 zaw za8 1 8 t60 t62 H fun t63 H =>
 zaf 2 t12 fun t64 =>
 zak 1 t64 t63 H fun H =>
 zae H (fun K' => zaf 3 t12 (K' · H)) fun t65 =>
 zae H (fun K' => zal false 1 t65 H (K' · H)) fun t66 =>
 zae H (fun K' => K' t13 H) fun t67 =>
 zae H (fun K' => K' t52 H) fun t68 =>
 zae H (fun K' => zaj 3 t67 t68 (K' · H)) fun t69 =>
 zae H (fun K' => zal true 3 t69 H (K' · H)) fun t70 =>
 zae H (fun K' => zaz 3 [(.int .i64 0), (.int .i64 0), .snil] 1 [(0, t70)] (K' · H)) fun t71 =>
 zaw zaV 3 40 t66 t71 H fun t72 H =>
 zae H (fun K' => zaf 3 t12 (K' · H)) fun t73 =>
 zak 1 t73 t72 H fun H =>
 zjn t0 t5 t7 t8 t9 t12 t13 t26 t27 t28 t50 t51 t52 H K Kb3 Kb8)
 (zjn t0 t5 t7 t8 t9 t12 t13 t26 t27 t28 t50 t51 t52 H K Kb3 Kb8))
 (zad true 4 t12 H fun t76 =>
 zaz 4 [(.int .i64 0), .snil, .snil, .snil] 1 [(0, t76)] fun t77 =>
 zaw zdH 4 80 t9 t77 H fun t78 H =>
 zac .add false t28 (.int .i64 1) fun t79 =>
 Kb3 (zjk t0 t5 t7 t8 t78 t26 t27 t79) H)
def zji (t0 t5 t7 t8 t9 t17 t85 t86 : AV) : List AV := t0 :: ux 4 (t5 :: ux 1 (t7 :: t8 :: t9 :: ux 7 (t17 :: ux 67 (t85 :: t86 :: ux 92 []))))
def zE2 : List Bool := zb8 18
noncomputable def zET : Code := zas [1, 1, 1, 1, 0, 1, 0, 0] zeT
def zEQ (K : Kt) : AExit → List AV → zaa → Prop := zat tP zb8 [1, 1, 1, 1, 0, 1, 0] zeT (zaA tP zoS K)
def zhc (t0 t5 t7 t8 t9 t17 t85 t86 : AV) (H : zaa) (K : Kt) : Prop := ALoop tP zET (zEQ K) (zji t0 t5 t7 t8 t9 t17 t85 t86) H
def zjj (t0 t8 t9 t17 t100 t101 t102 : AV) : List AV := t0 :: ux 7 (t8 :: t9 :: ux 7 (t17 :: ux 82 (t100 :: t101 :: t102 :: ux 76 [])))
def zwd : List Bool := zb8 24
noncomputable def zoN : Code := zas [1, 1, 1, 1, 1, 1, 0, 1, 0, 0] zeT
def zv6 (K : Kt) : AExit → List AV → zaa → Prop := zat tP zb8 [1, 1, 1, 1, 1, 1, 0, 1, 0] zeT (zaA tP zoS K)
def zwa (t0 t8 t9 t17 t100 t101 t102 : AV) (H : zaa) (K : Kt) : Prop := ALoop tP zoN (zv6 K) (zjj t0 t8 t9 t17 t100 t101 t102) H
def zha (t0 t8 t9 t17 t20 t21 t100 t101 t102 : AV) : List AV := t0 :: ux 7 (t8 :: t9 :: ux 7 (t17 :: ux 2 (t20 :: t21 :: ux 78 (t100 :: t101 :: t102 :: ux 76 []))))
def zwe : List Bool := zb8 27
noncomputable def zoO : Code := zas [1, 1, 0, 0, 1, 1, 0, 0] zoN
def zv7 (K : Kt) (Kb24 : Lt) : AExit → List AV → zaa → Prop := zat tP zb8 [1, 1, 0, 0, 1, 1, 0] zoN (zbz zwd Kb24 (zv6 K))
def zwb (t0 t8 t9 t17 t20 t21 t100 t101 t102 : AV) (H : zaa) (K : Kt) (Kb24 : Lt) : Prop := ALoop tP zoO (zv7 K Kb24) (zha t0 t8 t9 t17 t20 t21 t100 t101 t102) H
def zoQ (t0 t8 t9 t17 t20 t21 t100 t101 t102 : AV) (H : zaa) (K : Kt) (Kb24 : Lt) (Kb27 : Lt) : Prop :=
 zac .sub false t21 (.int .i64 1) fun t111 =>
 Kb27 (zha t0 t8 t9 t17 t20 t111 t100 t101 t102) H
def zhb (t0 t8 t9 t17 t20 t21 t100 t101 t102 : AV) (H : zaa) (K : Kt) (Kb24 : Lt) (Kb27 : Lt) : Prop :=
 zoQ t0 t8 t9 t17 t20 t21 t100 t101 t102 H K Kb24 Kb27
def zjl (t0 t8 t9 t17 t20 t21 t22 t23 t100 t101 t102 t137 t138 t139 : AV) : List AV := t0 :: ux 7 (t8 :: t9 :: ux 7 (t17 :: ux 2 (t20 :: t21 :: t22 :: t23 :: ux 76 (t100 :: t101 :: t102 :: ux 34 (t137 :: t138 :: t139 :: ux 39 [])))))
def zE3 : List Bool := zb8 33
noncomputable def zEU : Code := zas [1, 0, 0, 1, 1, 1, 0, 1, 0, 0] zoO
def zER (K : Kt) (Kb24 : Lt) (Kb27 : Lt) : AExit → List AV → zaa → Prop := zat tP zb8 [1, 0, 0, 1, 1, 1, 0, 1, 0] zoO (zbz zwe Kb27 (zv7 K Kb24))
def zwc (t0 t8 t9 t17 t20 t21 t22 t23 t100 t101 t102 t137 t138 t139 : AV) (H : zaa) (K : Kt) (Kb24 : Lt) (Kb27 : Lt) : Prop := ALoop tP zEU (zER K Kb24 Kb27) (zjl t0 t8 t9 t17 t20 t21 t22 t23 t100 t101 t102 t137 t138 t139) H
def zoM (t0 t8 t9 t17 t20 t21 t22 t23 t100 t101 t102 t137 t138 t139 : AV) (H : zaa) (K : Kt) (Kb24 : Lt) (Kb27 : Lt) (Kb33 : Lt) : Prop :=
 zac .lss false t139 t138 fun t140 =>
 zag t140
 (zaj 1 t137 t139 fun t142 =>
 zad false 1 t142 H fun t143 =>
 zae H (fun K' => zal true 3 t23 H (K' · H)) fun t144 =>
 zae H (fun K' => K' t0 H) fun t145 =>
 zae H (fun K' => zaf 3 t22 (K' · H)) fun t146 =>
 zae H (fun K' => zal false 1 t146 H (K' · H)) fun t147 =>
 zae H (fun K' => K' t139 H) fun t148 =>
 zae H (fun K' => zaj 3 t147 t148 (K' · H)) fun t149 =>
 zae H (fun K' => zal true 3 t149 H (K' · H)) fun t150 =>
 zae H (fun K' => zaf 1 t22 (K' · H)) fun t151 =>
 zae H (fun K' => zal false 1 t151 H (K' · H)) fun t152 =>
 zae H (fun K' => K' t139 H) fun t153 =>
 zae H (fun K' => zaj 2 t152 t153 (K' · H)) fun t154 =>
 zae H (fun K' => zal true 2 t154 H (K' · H)) fun t155 =>
 zae H (fun K' => zaf 2 t20 (K' · H)) fun t156 =>
 zae H (fun K' => zal false 1 t156 H (K' · H)) fun t157 =>
 zae H (fun K' => K' t143 H) fun t158 =>
 zae H (fun K' => zaj 3 t157 t158 (K' · H)) fun t159 =>
 zae H (fun K' => zal true 3 t159 H (K' · H)) fun t160 =>
 zaG H (fun H K' => ACalls tP zft [t145, t150, t155, t160] H K') fun t161 =>
 zaG H (fun H K' => ACalls tP zeK [t144, t161] H K') fun t162 =>
 zak 3 t23 t162 H fun H =>
 zac .add false t139 (.int .i64 1) fun t163 =>
 Kb33 (zjl t0 t8 t9 t17 t20 t21 t22 t23 t100 t101 t102 t137 t138 t163) H)
 (zae H (fun K' => K' t17 H) fun t164 =>
 zae H (fun K' => K' t21 H) fun t165 =>
 zae H (fun K' => K' t17 H) fun t166 =>
 zae H (fun K' => K' t21 H) fun t167 =>
 zae H (fun K' => zaj 3 t166 t167 (K' · H)) fun t168 =>
 zae H (fun K' => zal true 3 t168 H (K' · H)) fun t169 =>
 zae H (fun K' => zal true 3 t23 H (K' · H)) fun t170 =>
 zaG H (fun H K' => ACalls tP zis [t169, t170] H K') fun t171 =>
 zae H (fun K' => zaj 3 t164 t165 (K' · H)) fun t172 =>
 zak 3 t172 t171 H fun H =>
 zhb t0 t8 t9 t17 t20 t21 t100 t101 t102 H K Kb24 Kb27)
def zjg (t0 t8 t9 t17 t20 t21 t100 t101 t102 : AV) (H : zaa) (K : Kt) (Kb24 : Lt) (Kb27 : Lt) : Prop :=
 zac .gtr false t21 (.int .i64 0) fun t109 =>
 zag t109
 (zac .sub false t21 (.int .i64 1) fun t114 =>
 zaj 4 t9 t114 fun t115 =>
 zad true 4 t115 H fun t116 =>
 zau [(.int .i64 0), .snil, .snil, .snil] H fun t22 H =>
 zak 4 t22 t116 H fun H =>
 zaf 0 t22 fun t117 =>
 zad false 1 t117 H fun t118 =>
 zaf 1 t20 fun t119 =>
 zad false 1 t119 H fun t120 =>
 zac .neq false t118 t120 fun t121 =>
 zab t121 false H (fun K' => K' t17 H) fun t123 H =>
 zab t121 false H (fun K' => K' t21 H) fun t124 H =>
 zab t121 false H (fun K' => zac .sub false t124 (.int .i64 1) (K' · H)) fun t125 H =>
 zab t121 false H (fun K' => zaj 3 t123 t125 (K' · H)) fun t126 H =>
 zab t121 false H (fun K' => zad true 3 t126 H (K' · H)) fun t127 H =>
 zab t121 false H (fun K' => ACalls tP zng [t127] H K') fun t128 H =>
 zab t121 false H (fun K' => zac .eql false t128 (.int .i64 0) (K' · H)) fun t129 H =>
 zai t121 (.bool true) t129 fun t130 =>
 zag t130
 (zhb t0 t8 t9 t17 t20 t21 t100 t101 t102 H K Kb24 Kb27)
 (zac .sub false t21 (.int .i64 1) fun t133 =>
 zaj 3 t17 t133 fun t134 =>
 zad true 3 t134 H fun t135 =>
 zau [(.bool false), .snil, .snil] H fun t23 H =>
 zak 3 t23 t135 H fun H =>
 zaf 2 t22 fun t136 =>
 zad false 1 t136 H fun t137 =>
 zah 1 t137 fun t138 =>
 zwc t0 t8 t9 t17 t20 t21 t22 t23 t100 t101 t102 t137 t138 (.int .i64 0) H K Kb24 Kb27))
 (zac .add false t102 (.int .i64 1) fun t173 =>
 Kb24 (zjj t0 t8 t9 t17 t100 t101 t173) H)
def zoK (t0 t8 t9 t17 t100 t101 t102 : AV) (H : zaa) (K : Kt) (Kb24 : Lt) : Prop :=
 zac .lss false t102 t101 fun t103 =>
 zag t103
 (zaj 3 t100 t102 fun t104 =>
 zad true 3 t104 H fun t105 =>
 zau [(.int .i64 0), (.int .i64 0), .snil] H fun t20 H =>
 zak 3 t20 t105 H fun H =>
 zah 1 t9 fun t107 =>
 zwb t0 t8 t9 t17 t20 t107 t100 t101 t102 H K Kb24)
 (zah 1 t9 fun t176 =>
 zaj 3 t17 t176 fun t177 =>
 zad true 3 t177 H fun t178 =>
 zak 3 t8 t178 H fun H =>
 zad true 3 t8 H fun r0 =>
 K r0 H)
def zoJ (t0 t5 t7 t8 t9 t17 t85 t86 : AV) (H : zaa) (K : Kt) (Kb18 : Lt) : Prop :=
 zac .lss false t86 t85 fun t87 =>
 zag t87
 (ACalls tP zde [(.int .i64 0)] H fun t91 H =>
 zaj 3 t17 t86 fun t92 =>
 zak 3 t92 t91 H fun H =>
 zac .add false t86 (.int .i64 1) fun t93 =>
 Kb18 (zji t0 t5 t7 t8 t9 t17 t85 t93) H)
 (ACalls tP zde [(.int .i64 1)] H fun t95 H =>
 zaj 3 t17 (.int .i64 0) fun t96 =>
 zak 3 t96 t95 H fun H =>
 zad true 3 t5 H fun t98 =>
 zad true 3 t7 H fun t99 =>
 ACalls tP znx [t0, t98, t99] H fun t100 H =>
 zah 1 t100 fun t101 =>
 zwa t0 t8 t9 t17 t100 t101 (.int .i64 0) H K)
def zoL (t0 t5 t7 t8 t9 t26 t27 t28 : AV) (H : zaa) (K : Kt) (Kb3 : Lt) : Prop :=
 zac .lss false t28 t27 fun t29 =>
 zag t29
 (zaj 2 t26 t28 fun t30 =>
 zad true 2 t30 H fun t31 =>
 zau [(.int .i64 0), .snil] H fun t11 H =>
 zak 2 t11 t31 H fun H =>
 zaf 0 t11 fun t32 =>
 zad false 1 t32 H fun t33 =>
 zaf 1 t11 fun t34 =>
 zad false 1 t34 H fun t35 =>
 zax [(.int .i64 0), .snil, .snil, .snil] [(0, 1), (1, 1), (2, 1), (3, 1)] [(0, t33), (1, t35)] fun t36 =>
 zau [(.int .i64 0), .snil, .snil, .snil] H fun t12 H =>
 zak 4 t12 t36 H fun H =>
 zad true 3 t5 H fun t39 =>
 zaf 0 t11 fun t40 =>
 zad false 1 t40 H fun t41 =>
 ACalls tP zeb [t0, t39, t41] H fun t42 H =>
 zay t42 0 fun t43 =>
 zay t42 1 fun t44 =>
 zaf 1 t5 fun t46 =>
 zad false 1 t46 H fun t47 =>
 zaf 0 t11 fun t48 =>
 zad false 1 t48 H fun t49 =>
 ACalls tP zdf [t0, t47, t49] H fun t50 H =>
 zah 1 t50 fun t51 =>
 zoR t0 t5 t7 t8 t9 t12 t43 t26 t27 t28 t50 t51 (.int .i64 0) H K Kb3)
 (zah 1 t9 fun t81 =>
 zac .add false t81 (.int .i64 1) fun t82 =>
 zbp 56 [(.bool false), .snil, .snil] t82 t82 H fun t83 H =>
 zah 1 t83 fun t85 =>
 zhc t0 t5 t7 t8 t9 t83 t85 (.int .i64 0) H K)
def zv5 (t0 t1 t2 t3 : AV) (H : zaa) (K : Kt) : Prop :=
 zao t1 H fun t5 H =>
 zao t3 H fun t7 H =>
 zau [(.bool false), .snil, .snil] H fun t8 H =>
 zah 1 t2 fun t27 =>
 zhd t0 t5 t7 t8 .snil t2 t27 (.int .i64 0) H K
theorem zE1 {t0 t5 t7 t8 t9 t12 t13 t26 t27 t28 t50 t51 t52 : AV} {H : zaa} {K : Kt} {Kb3 : Lt} (Inv : Nat → AV → zaa → Prop) (n : Nat) (h0 : HSc H → Inv n t52 H)
  (round : Rd1 (fun t52 => zjm t0 t5 t7 t8 t9 t12 t13 t26 t27 t28 t50 t51 t52) (fun t52 => fun H Kb8 => zjh t0 t5 t7 t8 t9 t12 t13 t26 t27 t28 t50 t51 t52 H K Kb3 Kb8) H Inv) : zoR t0 t5 t7 t8 t9 t12 t13 t26 t27 t28 t50 t51 t52 H K Kb3 :=
 lp1 (M := zb8) zE4 t52 (by kernel_rfl) Inv n h0 round
theorem zE0 {t0 t8 t9 t17 t20 t21 t22 t23 t100 t101 t102 t137 t138 t139 : AV} {H : zaa} {K : Kt} {Kb24 : Lt} {Kb27 : Lt} (Inv : Nat → AV → zaa → Prop) (n : Nat) (h0 : HSc H → Inv n t139 H)
  (round : Rd1 (fun t139 => zjl t0 t8 t9 t17 t20 t21 t22 t23 t100 t101 t102 t137 t138 t139) (fun t139 => fun H Kb33 => zoM t0 t8 t9 t17 t20 t21 t22 t23 t100 t101 t102 t137 t138 t139 H K Kb24 Kb27 Kb33) H Inv) : zwc t0 t8 t9 t17 t20 t21 t22 t23 t100 t101 t102 t137 t138 t139 H K Kb24 Kb27 :=
 lp1 (M := zb8) zE3 t139 (by kernel_rfl) Inv n h0 round
theorem zEY {t0 t8 t9 t17 t20 t21 t100 t101 t102 : AV} {H : zaa} {K : Kt} {Kb24 : Lt} (Inv : Nat → AV → zaa → Prop) (n : Nat) (h0 : HSc H → Inv n t21 H)
  (round : Rd1 (fun t21 => zha t0 t8 t9 t17 t20 t21 t100 t101 t102) (fun t21 => fun H Kb27 => zjg t0 t8 t9 t17 t20 t21 t100 t101 t102 H K Kb24 Kb27) H Inv) : zwb t0 t8 t9 t17 t20 t21 t100 t101 t102 H K Kb24 :=
 lp1 (M := zb8) zwe t21 (by kernel_rfl) Inv n h0 round
theorem zEX {t0 t8 t9 t17 t100 t101 t102 : AV} {H : zaa} {K : Kt} (Inv : Nat → AV → zaa → Prop) (n : Nat) (h0 : HSc H → Inv n t102 H)
  (round : Rd1 (fun t102 => zjj t0 t8 t9 t17 t100 t101 t102) (fun t102 => fun H Kb24 => zoK t0 t8 t9 t17 t100 t101 t102 H K Kb24) H Inv) : zwa t0 t8 t9 t17 t100 t101 t102 H K :=
 lp1 (M := zb8) zwd t102 (by kernel_rfl) Inv n h0 round
theorem zEW {t0 t5 t7 t8 t9 t17 t85 t86 : AV} {H : zaa} {K : Kt} (Inv : Nat → AV → zaa → Prop) (n : Nat) (h0 : HSc H → Inv n t86 H)
  (round : Rd1 (fun t86 => zji t0 t5 t7 t8 t9 t17 t85 t86) (fun t86 => fun H Kb18 => zoJ t0 t5 t7 t8 t9 t17 t85 t86 H K Kb18) H Inv) : zhc t0 t5 t7 t8 t9 t17 t85 t86 H K :=
 lp1 (M := zb8) zE2 t86 (by kernel_rfl) Inv n h0 round
theorem zEZ {t0 t5 t7 t8 t9 t26 t27 t28 : AV} {H : zaa} {K : Kt} (Inv : Nat → AV → AV → zaa → Prop) (n : Nat) (h0 : HSc H → Inv n t9 t28 H)
  (round : Rd2 (fun t9 => fun t28 => zjk t0 t5 t7 t8 t9 t26 t27 t28) (fun t9 => fun t28 => fun H Kb3 => zoL t0 t5 t7 t8 t9 t26 t27 t28 H K Kb3) H Inv) : zhd t0 t5 t7 t8 t9 t26 t27 t28 H K :=
 lp2 (M := zb8) zwf t9 t28 (by kernel_rfl) Inv n h0 round
theorem zE5 {t0 t1 t2 t3 : AV} {H : zaa} {K : Kt} (h : HSc H → zv5 t0 t1 t2 t3 H K) : ACalls tP zmZ [t0, t1, t2, t3] H K :=
 zam (M := zb8) Tryz.func128 (c := zeT) (by kernel_rfl) (fun hs => Eq.mpr (by kernel_rfl) (h hs))
def zMz (_ : Nat) : List Bool := []
noncomputable def zMA : Code := Tryz.f6.body.getD .skip
def zq4 (t0 t1 t2 t3 : AV) (H : zaa) (K : Kt) : Prop :=
 zao t1 H fun t5 H =>
 zao t2 H fun t6 H =>
 zao t3 H fun t7 H =>
 zad true 3 t5 H fun t11 =>
 ACalls tP znG [t0, t11] H fun t12 H =>
 aUn .not t12 fun t13 =>
 zab t13 false H (fun K' => zad true 2 t7 H (K' · H)) fun t15 H =>
 zab t13 false H (fun K' => ACalls tP zmT [t15] H K') fun t16 H =>
 zab t13 false H (fun K' => aUn .not t16 (K' · H)) fun t17 H =>
 zai t13 (.bool true) t17 fun t18 =>
 zab t18 false H (fun K' => zad true 3 t6 H (K' · H)) fun t20 H =>
 zab t18 false H (fun K' => ACalls tP zmU [t20] H K') fun t21 H =>
 zab t18 false H (fun K' => aUn .not t21 (K' · H)) fun t22 H =>
 zai t18 (.bool true) t22 fun t23 =>
 zab t23 false H (fun K' => zad true 3 t6 H (K' · H)) fun t25 H =>
 zab t23 false H (fun K' => ACalls tP zhX [t25] H K') fun t26 H =>
 zab t23 false H (fun K' => zac .gtr false t26 (.int .i64 80) (K' · H)) fun t27 H =>
 zai t23 (.bool true) t27 fun t28 =>
 zag t28
 (K (.bool true) H)
 (zad true 3 t5 H fun t30 =>
 zad true 2 t7 H fun t31 =>
 ACalls tP zm2 [t0, t30, t31] H fun t32 H =>
 zab t32 true H (fun K' => K' t0 H) fun t34 H =>
 zab t32 true H (fun K' => zad true 3 t6 H (K' · H)) fun t35 H =>
 zab t32 true H (fun K' => zad true 3 t5 H (K' · H)) fun t36 H =>
 zab t32 true H (fun K' => ACalls tP zm1 [t34, t35, t36] H K') fun t37 H =>
 zai t32 t37 (.bool false) fun t38 =>
 zab t38 true H (fun K' => zaf 0 t5 (K' · H)) fun t40 H =>
 zab t38 true H (fun K' => zad false 1 t40 H (K' · H)) fun t41 H =>
 zab t38 true H (fun K' => zac .eql false t41 (.int .i64 6) (K' · H)) fun t42 H =>
 zab t38 true H (fun K' => K' t42 H) fun t43 H =>
 zab t43 false H (fun K' => zaf 0 t5 (K' · H)) fun t44 H =>
 zab t43 false H (fun K' => zad false 1 t44 H (K' · H)) fun t45 H =>
 zab t43 false H (fun K' => zac .eql false t45 (.int .i64 5) (K' · H)) fun t46 H =>
 zab t38 true H (fun K' => zai t43 (.bool true) t46 (K' · H)) fun t47 H =>
 zai t38 t47 (.bool false) fun t48 =>
 zad true 3 t5 H fun t50 =>
 zad true 3 t6 H fun t51 =>
 zad true 2 t7 H fun t52 =>
 ACalls tP zih [t0, t50, t51, t52] H fun t53 H =>
 zac .eql true t53 t48 fun t55 =>
 zab t55 true H (fun K' => ACalls tP zie [] H K') fun t57 H =>
 zai t55 t57 (.bool false) fun t58 =>
 K t58 H)
theorem zMB {t0 t1 t2 t3 : AV} {H : zaa} {K : Kt} (h : HSc H → zq4 t0 t1 t2 t3 H K) : ACalls tP znz [t0, t1, t2, t3] H K :=
 zam (M := zMz) Tryz.func6 (c := zMA) (by kernel_rfl) (fun hs => Eq.mpr (by kernel_rfl) (h hs))
end Go.Proofs.YtjkkonpjecoieaaGreat
