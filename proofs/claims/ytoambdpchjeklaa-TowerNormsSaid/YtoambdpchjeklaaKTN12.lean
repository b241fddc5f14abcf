/- What towerNorms_holds needs: texts D3, D5, D4, D6, put together. -/
import Derived.Test.YtoambdpchjeklaaKTN11
set_option linter.unusedVariables false
set_option linter.unusedSimpArgs false
-- D3
section
namespace Go.Proofs.Ytoambdpchjeklaa.Pl
open Go.RowKit Go.Proofs.Ytoambdpchjeklaa.P Go.Proofs.Ytoambdpchjeklaa.Hand Go.Proofs.YtoambdpchjeklaaW.PrintWords
def tab (m : Nat) (f : Nat → Nat) : List Nat := (List.range m).map f
theorem tab_length (m : Nat) (f : Nat → Nat) : (tab m f).length = m := by simp [tab]
theorem tab_get {m : Nat} (f : Nat → Nat) {j : Nat} (h : j < m) : (tab m f)[j]? = some (f j) := by simp [tab, h]
theorem tab_ge {m : Nat} (f : Nat → Nat) {j : Nat} (h : m ≤ j) : (tab m f)[j]? = none := by rw [List.getElem?_eq_none]; rw [tab_length]; exact h
theorem rd_tab {m : Nat} (f : Nat → Nat) {j : Nat} (h : j < m) : rd (ints (tab m f)) (j : Int) = (f j : Int) := by
  rw [rd_ints, List.getD_eq_getElem?_getD, tab_get f h]; rfl
theorem tab_congr {m : Nat} {f g : Nat → Nat} (h : ∀ i, i < m → f i = g i) : tab m f = tab m g := List.map_congr_left (fun i hi => h i (List.mem_range.1 hi))
theorem set_tab {m : Nat} (f : Nat → Nat) {j : Nat} (v : Nat) (h : j < m) : (ints (tab m f)).set j (v : Int) = ints (tab m (fun i => if i = j then v else f i)) := by
  apply List.ext_getElem?
  intro i
  have e : ∀ g : Nat → Nat, (ints (tab m g))[i]? = if i < m then some ((g i : Nat) : Int) else none := by
    intro g
    unfold ints
    rw [List.getElem?_map]
    by_cases hi : i < m
    · rw [tab_get g hi, if_pos hi]; rfl
    · rw [tab_ge g (by omega), if_neg hi]; rfl
  rw [List.getElem?_set, e, e, ints_length, tab_length]
  by_cases hij : j = i
  · subst hij
    rw [if_pos rfl, if_pos h, if_pos h, if_pos rfl]
  · rw [if_neg hij]
    by_cases hi : i < m
    · rw [if_pos hi, if_pos hi, if_neg (fun h => hij h.symm)]
    · rw [if_neg hi, if_neg hi]
theorem shr_tab {m : Nat} (f : Nat → Nat) (h : 0 < m) : (shr1 (ints (tab m f))).set (0 : Int).toNat 0 = ints (tab m (fun i => if i = 0 then 0 else f (i - 1))) := by
  have e : ∀ (g : Nat → Nat) (i : Nat), (ints (tab m g))[i]? = if i < m then some ((g i : Nat) : Int) else none := by
    intro g i
    unfold ints
    rw [List.getElem?_map]
    by_cases hi : i < m
    · rw [tab_get g hi, if_pos hi]; rfl
    · rw [tab_ge g (by omega), if_neg hi]; rfl
  apply List.ext_getElem?
  intro i
  rw [e, List.getElem?_set, shr1_length, ints_length, tab_length]
  show (if 0 = i then if (0 : Int).toNat < m then some 0 else none else (shr1 (ints (tab m f)))[i]?) = _
  by_cases hi : i = 0
  · subst hi
    rw [if_pos rfl, if_pos (by simpa using h), if_pos h, if_pos rfl]
    rfl
  · rw [if_neg (fun h => hi h.symm)]
    unfold shr1
    rw [List.getElem?_append_right (by rw [List.length_take, ints_length, tab_length]; omega), List.length_take, ints_length, tab_length, Nat.min_eq_left (by omega), List.getElem?_take, e, if_neg hi]
    by_cases hm : i < m
    · rw [if_pos hm, if_pos (by omega), if_pos (by omega)]
    · rw [if_neg hm, if_neg (by omega)]
def zl {F : Cw.RD} (z : Cw.El F) : List Nat := tab F.m (fun i => (z.c i).v)
theorem zl_eq {F : Cw.RD} (z : Cw.El F) : z.lst.map Cw.Zp.v = zl z := by
  unfold Cw.El.lst zl tab; rw [List.map_map]; rfl
theorem zl_code {F : Cw.RD} (z : Cw.El F) : Cw.cd F.p (zl z) = z.code := by rw [← zl_eq]; rfl
theorem zp_lt {p : Nat} (a : Cw.Zp p) : a.v < p := a.lt
theorem zl_lt {F : Cw.RD} (z : Cw.El F) : ∀ a, a ∈ zl z → a < F.p := by
  intro a ha
  obtain ⟨i, -, rfl⟩ := List.mem_map.1 ha
  exact zp_lt _
theorem zl_dec {F : Cw.RD} {x : Nat} (h : x < F.p ^ F.m) : Cw.dg F.p F.m x = zl (Cw.El.dec F x) := by
  rw [← zl_eq, Cw.El.dgs, Cw.El.code_dec h]
structure Fits (F : Cw.RD) (mod : List Int) : Prop where
  small : F.p ^ F.m ≤ 256
  coef : ∀ i, 0 ≤ F.f i ∧ F.f i < F.p
  mod1 : F.m = 1 → mod = [] ∧ F.f 0 = 0
  modm : F.m ≠ 1 → mod.length = F.m ∧ ∀ i, i < F.m → mod.getD i 0 = F.f i
theorem Fits.p_le {F : Cw.RD} {mod : List Int} (h : Fits F mod) : F.p ≤ 256 := by
  have := Nat.pow_le_pow_right (n := F.p) (by have := F.prm.1; omega) F.mpos
  rw [Nat.pow_one] at this
  exact Nat.le_trans this h.small
theorem Fits.m_le {F : Cw.RD} {mod : List Int} (h : Fits F mod) : F.m ≤ 8 := by
  have h2 : 2 ^ F.m ≤ 2 ^ 8 := Nat.le_trans (Nat.pow_le_pow_left F.prm.1 _) h.small
  exact (Nat.pow_le_pow_iff_right (by omega)).1 h2
section
variable {F : Cw.RD} {mod : List Int}
theorem next_digit (Z X : Cw.El F) (b : Cw.Zp F.p) {j : Nat} (hj : j < F.m) :
    (((Cw.El.tx Z + Cw.El.sml b X).c j).v : Int) = (((if j = 0 then 0 else (Z.c (j - 1)).v : Nat) : Int) + ((F.p : Int) - ((Z.c (F.m - 1)).v : Int)) * F.f j + (b.v : Int) * ((X.c j).v : Int)) % (F.p : Int) := by
  rw [← Cw.zi_v]
  congr 2
  rw [Cw.El.c_add, Cw.El.c_tx _ hj, Cw.El.c_sml, Cw.zi_add, Cw.zi_add, Cw.zi_mul, Cw.zi_mul, Cw.zi_of, Cw.zi_of, Int.sub_eq_add_neg, Cw.zi_add, Cw.zi_p, Cw.zi_neg, Cw.zi_of, Cw.zero_add, Cw.neg_mul]
  congr 2
  by_cases h0 : j = 0
  · rw [if_pos h0, if_pos h0]; rfl
  · rw [if_neg h0, if_neg h0, Cw.zi_of]
theorem top_val (p s t b x c : Nat) (hp : p ≤ 256) (hs : s < p) (ht : t < p) (hb : b < p) (hx : x < p) (hc : c < p) :
    Int.tmod (wrap64 (wrap64 ((s : Int) + wrap64 (wrap64 ((p : Int) - (t : Int)) * (c : Int))) + wrap64 ((b : Int) * (x : Int)))) (p : Int) = ((s : Int) + ((p : Int) - (t : Int)) * (c : Int) + (b : Int) * (x : Int)) % (p : Int) := by
  have h1 : (p : Int) - (t : Int) = ((p - t : Nat) : Int) := by omega
  have m1 := Nat.mul_le_mul (show p - t ≤ 256 by omega) (show c ≤ 256 by omega)
  have m2 := Nat.mul_le_mul (show b ≤ 256 by omega) (show x ≤ 256 by omega)
  rw [h1, w64n _ (by omega), ← Int.natCast_mul, ← Int.natCast_mul, w64n _ (by omega), w64n _ (by omega), ← Int.natCast_add, w64n _ (by omega), ← Int.natCast_add, w64n _ (by omega)]
  exact Int.tmod_eq_emod_of_nonneg (by omega)
theorem low_val (p s b x : Nat) (hp : p ≤ 256) (hs : s < p) (hb : b < p) (hx : x < p) :
    Int.tmod (wrap64 (wrap64 ((s : Int) + wrap64 0) + wrap64 ((b : Int) * (x : Int)))) (p : Int) = ((s : Int) + (b : Int) * (x : Int)) % (p : Int) := by
  have m2 := Nat.mul_le_mul (show b ≤ 256 by omega) (show x ≤ 256 by omega)
  rw [w64 (n := 0) (by omega) (by omega), Int.add_zero, ← Int.natCast_mul, w64n _ (by omega), w64n _ (by omega), ← Int.natCast_add, w64n _ (by omega)]
  exact Int.tmod_eq_emod_of_nonneg (by omega)
theorem mul_inner (hF : Fits F mod) (X Y Z : Cw.El F) (i : Nat) (hi : i < F.m) (R : Int) : ∀ (d j : Nat), j + d = F.m →
    Ev (fun k => field_multiply.l0 k (ints (zl X)) (ints (zl Y)) (ints (zl (Cw.El.tx Z + Cw.El.sml (Y.c i) X))) ((i : Int) - 1) (F.p : Int) (F.m : Int) mod) R →
    Ev (fun k => field_multiply.l1 k (ints (zl X)) (ints (zl Y)) (ints (tab F.m (fun t => if t < j then ((Cw.El.tx Z + Cw.El.sml (Y.c i) X).c t).v else if t = 0 then 0 else (Z.c (t - 1)).v))) (i : Int) ((Z.c (F.m - 1)).v : Int) (F.m : Int) (j : Int) (F.p : Int) (F.m : Int) mod) R := by
  intro d
  have hm := hF.m_le
  have hp := hF.p_le
  have hp2 := F.prm.1
  induction d with
  | zero =>
    intro j hj H
    obtain rfl : j = F.m := by omega
    refine Ev.step (fun k => ?_) H
    simp only [field_multiply.l1]
    rw [if_neg (by omega), w64 (by omega) (by omega)]
    congr 2
    exact tab_congr (fun t ht => by rw [if_pos ht])
  | succ d ih =>
    intro j hj H
    refine Ev.step (fun k => ?_) (ih (j + 1) (by omega) H)
    have hjm : j < F.m := by omega
    have hcj : (j : Int) < (F.m : Int) := by omega
    have hj0 : (0 : Int) ≤ (j : Int) := by omega
    have hi0 : (0 : Int) ≤ (i : Int) := by omega
    have him : (i : Int) < (F.m : Int) := by omega
    have hpne : ¬ (F.p : Int) = 0 := by omega
    have hjj : ¬ j < j := by omega
    have hj1 : wrap64 ((j : Int) + 1) = ((j + 1 : Nat) : Int) := by rw [w64 (by omega) (by omega)]; rfl
    have hmc : F.m = 1 ∧ j = 0 ∧ ¬ (F.m : Int) > 1 ∨ ¬ F.m = 1 ∧ (F.m : Int) > 1 := by omega
    obtain ⟨c, hc', hcp⟩ : ∃ c : Nat, F.f j = (c : Int) ∧ c < F.p := by
      have hc := hF.coef j
      obtain ⟨c, hc'⟩ := Int.eq_ofNat_of_zero_le hc.1
      exact ⟨c, hc', by omega⟩
    have hset : ∀ v : Nat, v = ((Cw.El.tx Z + Cw.El.sml (Y.c i) X).c j).v → (ints (tab F.m (fun t => if t < j then ((Cw.El.tx Z + Cw.El.sml (Y.c i) X).c t).v else if t = 0 then 0 else (Z.c (t - 1)).v))).set j (v : Int) = ints (tab F.m (fun t => if t < j + 1 then ((Cw.El.tx Z + Cw.El.sml (Y.c i) X).c t).v else if t = 0 then 0 else (Z.c (t - 1)).v)) := by
      intro v hv
      rw [set_tab _ _ hjm]
      congr 1
      apply tab_congr
      intro t _
      by_cases h1 : t = j
      · rw [h1, if_pos rfl, if_pos (Nat.lt_succ_self j), hv]
      · rw [if_neg h1]
        by_cases h2 : t < j
        · rw [if_pos h2, if_pos (Nat.lt_succ_of_lt h2)]
        · rw [if_neg h2, if_neg (fun h => (Nat.lt_or_eq_of_le (Nat.le_of_lt_succ h)).elim h2 h1)]
    have hs : ((if j = 0 then 0 else (Z.c (j - 1)).v : Nat)) < F.p := by
      by_cases h0 : j = 0
      · rw [if_pos h0]; exact Nat.lt_of_lt_of_le (by decide) hp2
      · rw [if_neg h0]; exact zp_lt _
    have ht := zp_lt (Z.c (F.m - 1))
    have hb := zp_lt (Y.c i)
    have hx := zp_lt (X.c j)
    have hnd := next_digit Z X (Y.c i) hjm
    rw [hc'] at hnd
    have hr9 : rd (ints (tab F.m (fun t => if t < j then ((Cw.El.tx Z + Cw.El.sml (Y.c i) X).c t).v else if t = 0 then 0 else (Z.c (t - 1)).v))) (j : Int) = ((if j = 0 then 0 else (Z.c (j - 1)).v : Nat) : Int) := by
      rw [rd_tab _ hjm, if_neg hjj]
    have hr8 : rd (ints (zl Y)) (i : Int) = ((Y.c i).v : Int) := rd_tab _ hi
    have hr7 : rd (ints (zl X)) (j : Int) = ((X.c j).v : Int) := rd_tab _ hjm
    have hl9 : ∀ f, ((ints (tab F.m f)).length : Int) = (F.m : Int) := fun f => by rw [ints_length, tab_length]
    have hlX : ((ints (zl X)).length : Int) = (F.m : Int) := hl9 _
    have hlY : ((ints (zl Y)).length : Int) = (F.m : Int) := hl9 _
    have k9 := hcj; rw [← hl9 (fun t => if t < j then ((Cw.El.tx Z + Cw.El.sml (Y.c i) X).c t).v else if t = 0 then 0 else (Z.c (t - 1)).v)] at k9
    have kY := him; rw [← hlY] at kY
    have kX := hcj; rw [← hlX] at kX
    generalize hs9 : (if j = 0 then 0 else (Z.c (j - 1)).v : Nat) = s at hs hnd hr9
    generalize hN : (ints (tab F.m (fun t => if t < j + 1 then ((Cw.El.tx Z + Cw.El.sml (Y.c i) X).c t).v else if t = 0 then 0 else (Z.c (t - 1)).v))) = NEW at hset ⊢
    generalize hO : (ints (tab F.m (fun t => if t < j then ((Cw.El.tx Z + Cw.El.sml (Y.c i) X).c t).v else if t = 0 then 0 else (Z.c (t - 1)).v))) = OLD at hset hr9 k9 ⊢
    clear hN hO hs9 hl9 ih H
    generalize ((Cw.El.tx Z + Cw.El.sml (Y.c i) X).c j).v = nw at hnd hset
    generalize (Z.c (F.m - 1)).v = top at ht hnd ⊢
    generalize (Y.c i).v = yi at hb hnd hr8
    generalize (X.c j).v = xj at hx hnd hr7
    generalize ints (zl X) = LX at hr7 kX hlX ⊢
    generalize ints (zl Y) = LY at hr8 kY hlY ⊢
    rcases hmc with ⟨h1, hjz, hm1⟩ | ⟨h1, hm1⟩
    · have hf0 : c = 0 := by
        have := (hF.mod1 h1).2
        rw [hjz, this] at hc'
        exact Int.ofNat.inj hc'.symm
      have hv := low_val F.p _ _ _ hp hs hb hx
      rw [hf0, Int.natCast_zero, Int.mul_zero, Int.add_zero, ← hv] at hnd
      simp only [field_multiply.l1]
      rw [if_pos hcj, if_neg hm1, if_pos hj0, if_pos k9, if_pos hi0, if_pos kY, if_pos kX, if_neg hpne, hr9, hr8, hr7, hj1, Int.toNat_natCast, ← hnd, hset _ rfl]
    · obtain ⟨hml, hmd⟩ := hF.modm h1
      have hrm : rd mod (j : Int) = (c : Int) := by unfold rd; rw [Int.toNat_natCast, hmd j hjm]; exact hc'
      have hmj : (j : Int) < (mod.length : Int) := by rw [hml]; exact hcj
      have hv := top_val F.p _ _ _ _ _ hp hs ht hb hx hcp
      rw [← hv] at hnd
      simp only [field_multiply.l1]
      rw [if_pos hcj, if_pos hm1, if_pos hj0, if_pos hmj, if_pos k9, if_pos hi0, if_pos kY, if_pos kX, if_neg hpne, hr9, hr8, hr7, hrm, hj1, Int.toNat_natCast, ← hnd, hset _ rfl]
theorem mul_outer (hF : Fits F mod) (X Y : Cw.El F) : ∀ (n : Nat) (A B : List (Cw.Zp F.p)), A.length = n → A ++ B = Y.lst →
    Ev (fun k => field_multiply.l0 k (ints (zl X)) (ints (zl Y)) (ints (zl ((Cw.El.op F).act B X))) ((n : Int) - 1) (F.p : Int) (F.m : Int) mod) ((X * Y).code : Int) := by
  intro n
  have hm := hF.m_le
  have hm1 := F.mpos
  induction n with
  | zero =>
    intro A B hA hAB
    obtain rfl := List.length_eq_zero_iff.1 hA
    rw [List.nil_append] at hAB
    subst hAB
    have hv := valueOf_ev F.p (zl (X * Y)) (by have := F.prm.1; omega) (by have := hF.p_le; omega) (zl_lt _) (by unfold zl; rw [tab_length]; have := hF.small; omega) (by unfold zl; rw [tab_length]; omega)
    rw [zl_code] at hv
    refine Ev.step (fun k => ?_) (Ev.bind hv (Ev.now _))
    simp only [field_multiply.l0]
    rw [if_neg (by omega)]
    rfl
  | succ n ih =>
    intro A B hA hAB
    obtain ⟨A', a, rfl⟩ := Cw.snoc_ex A (by rintro rfl; simp at hA)
    simp at hA
    have e : A' ++ (a :: B) = Y.lst := by rw [← hAB]; simp
    have h := ih A' (a :: B) hA e
    have hn : n < F.m := by
      have := congrArg List.length e
      rw [Cw.El.lst_length, List.length_append, List.length_cons] at this
      omega
    have ha : Y.c n = a := by
      rw [← Cw.El.gd_lst, ← e, Cw.gd_append_right (by omega), hA, Nat.sub_self]; rfl
    have hact : (Cw.El.op F).act (a :: B) X = Cw.El.tx ((Cw.El.op F).act B X) + Cw.El.sml (Y.c n) X := by
      rw [Cw.Op.act_cons, ha]
      exact (Cw.El.op F).add_comm _ _
    rw [hact] at h
    have hin := mul_inner hF X Y ((Cw.El.op F).act B X) n hn _ F.m 0 (by omega) h
    refine Ev.step (fun k => ?_) hin
    simp only [field_multiply.l0]
    have hl9 : ((ints (zl ((Cw.El.op F).act B X))).length : Int) = (F.m : Int) := by unfold zl; rw [ints_length, tab_length]
    have e2 : wrap64 ((F.m : Int) - 1) = ((F.m - 1 : Nat) : Int) := by rw [w64 (by omega) (by omega)]; omega
    rw [if_pos (by omega), e2, if_pos (by omega), if_pos (by rw [hl9]; omega), if_pos (by rw [hl9]), if_pos (by rw [hl9]; omega), hl9]
    have hr : rd (ints (zl ((Cw.El.op F).act B X))) ((F.m - 1 : Nat) : Int) = ((((Cw.El.op F).act B X).c (F.m - 1)).v : Int) := rd_tab _ (by omega)
    rw [hr]
    unfold zl
    rw [shr_tab _ hm1, show ((n + 1 : Nat) : Int) - 1 = (n : Int) by omega]
    rfl
theorem multiply_ev (hF : Fits F mod) {x y : Nat} (hx : x < F.p ^ F.m) (hy : y < F.p ^ F.m) :
    Ev (fun k => field_multiply.f k (F.p : Int) (F.m : Int) mod (x : Int) (y : Int)) ((Cw.El.dec F x * Cw.El.dec F y).code : Int) := by
  have hs := hF.small
  have hm := hF.m_le
  have hp := F.prm.1
  have h1 := digitsOf_ev x F.p F.m (by omega) (by omega) (by omega)
  have h2 := digitsOf_ev y F.p F.m (by omega) (by omega) (by omega)
  rw [zl_dec hx] at h1
  rw [zl_dec hy] at h2
  have h3 := mul_outer hF (Cw.El.dec F x) (Cw.El.dec F y) F.m (Cw.El.dec F y).lst [] (Cw.El.lst_length _) (by simp)
  unfold field_multiply.f
  refine Ev.bind h1 (Ev.bind h2 (Ev.congr (fun k => ?_) h3))
  rw [if_pos (by omega), if_pos (by omega), Int.toNat_natCast, w64 (n := (F.m : Int) - 1) (by omega) (by omega)]
  congr 1
  rw [ints_zero]
  congr 1
  apply List.ext_getElem?
  intro i
  unfold zl
  by_cases hi : i < F.m
  · rw [tab_get _ hi, List.getElem?_replicate, if_pos hi]
    congr 1
    show 0 = ((0 : Cw.El F).c i).v
    rw [Cw.El.c_zero]
    show 0 = (Cw.zi 0 : Cw.Zp F.p).v
    unfold Cw.zi
    simp
  · rw [tab_ge _ (by omega), List.getElem?_replicate, if_neg hi]
end
end Go.Proofs.Ytoambdpchjeklaa.Pl
end
-- D5
section
namespace Go.Proofs.Ytoambdpchjeklaa.Pl
open Go.RowKit Go.Proofs.Ytoambdpchjeklaa.P Go.Proofs.Ytoambdpchjeklaa.Hand Go.Proofs.YtoambdpchjeklaaW.PrintWords
def stp (p d i j : Nat) (g lw : Nat → Nat) : Nat → Nat := fun t => if i - d ≤ t ∧ t < i - d + j then (g t + (p - g i) * lw (t - (i - d))) % p else g t
def nxt (p d i : Nat) (g lw : Nat → Nat) : Nat → Nat := fun t => if t = i then 0 else if i - d ≤ t ∧ t < i then (g t + (p - g i) * lw (t - (i - d))) % p else g t
theorem div_val (p a c b : Nat) (hp : p ≤ 256) (hp0 : 0 < p) (ha : a < p) (hc : c < p) (hb : b < p) :
    Int.tmod (wrap64 ((a : Int) + wrap64 (wrap64 ((p : Int) - (c : Int)) * (b : Int)))) (p : Int) = (((a + (p - c) * b) % p : Nat) : Int) := by
  have h1 : (p : Int) - (c : Int) = ((p - c : Nat) : Int) := by omega
  have m1 := Nat.mul_le_mul (show p - c ≤ 256 by omega) (show b ≤ 256 by omega)
  rw [h1, w64n _ (by omega), ← Int.natCast_mul, w64n _ (by omega), ← Int.natCast_add, w64n _ (by omega), Cw.tmod_nat]
theorem div_inner (p n d i : Nat) (g lw : Nat → Nat) (hp : p ≤ 256) (hp0 : 0 < p) (hn : n ≤ 100) (hdi : d ≤ i) (hin : i < n) (hg : ∀ t, g t < p) (hl : ∀ t, lw t < p) (R : Bool)
    (H : Ev (fun k => codewrightref04_divides.l0 k (ints (tab d lw)) (p : Int) (d : Int) (ints (tab n (nxt p d i g lw))) ((i : Int) - 1)) R) : ∀ e j, j + e = d →
    Ev (fun k => codewrightref04_divides.l1 k (ints (tab d lw)) (p : Int) (d : Int) (ints (tab n (stp p d i j g lw))) (i : Int) (g i : Int) (j : Int)) R := by
  intro e
  induction e with
  | zero =>
    intro j hj
    obtain rfl : j = d := by omega
    refine Ev.step (fun k => ?_) H
    have hl9 : ((ints (tab n (stp p j i j g lw))).length : Int) = (n : Int) := by rw [ints_length, tab_length]
    have hw : wrap64 ((i : Int) - 1) = (i : Int) - 1 := w64 (by omega) (by omega)
    have hjn : ¬ (j : Int) < (j : Int) := by omega
    have hi0 : (0 : Int) ≤ (i : Int) := by omega
    have hii : (i : Int) < (n : Int) := by omega
    have k9 := Int.lt_of_lt_of_le hii (Int.le_of_eq hl9.symm)
    simp only [codewrightref04_divides.l1]
    rw [if_neg hjn, if_pos hi0, if_pos k9, hw, Int.toNat_natCast, show (0 : Int) = ((0 : Nat) : Int) from rfl, set_tab _ _ hin]
    congr 2
    apply tab_congr
    intro t _
    unfold stp nxt
    by_cases ht : t = i
    · rw [if_pos ht, if_pos ht]
    · rw [if_neg ht, if_neg ht]
      by_cases h2 : i - j ≤ t ∧ t < i
      · rw [if_pos h2, if_pos (by omega)]
      · rw [if_neg h2, if_neg (by omega)]
  | succ e ih =>
    intro j hj
    refine Ev.step (fun k => ?_) (ih (j + 1) (by omega))
    have hjd9 : j < d := by omega
    have hlt9 : ¬ i - d + j < i - d + j := Nat.lt_irrefl _
    have hid : wrap64 (wrap64 ((i : Int) - (d : Int)) + (j : Int)) = ((i - d + j : Nat) : Int) := by
      rw [w64 (n := (i : Int) - (d : Int)) (by omega) (by omega), w64 (by omega) (by omega)]; omega
    have hjd : (j : Int) < (d : Int) := by omega
    have hj0 : (0 : Int) ≤ (j : Int) := by omega
    have hp9 : ¬ (p : Int) = 0 := by omega
    have h0 : (0 : Int) ≤ ((i - d + j : Nat) : Int) := by omega
    have h1 : ((i - d + j : Nat) : Int) < (n : Int) := by omega
    have h1n : i - d + j < n := by omega
    have hj1 : wrap64 ((j : Int) + 1) = ((j + 1 : Nat) : Int) := by rw [w64 (by omega) (by omega)]; rfl
    have hnew : ints (tab n (fun t => if t = i - d + j then (g (i - d + j) + (p - g i) * lw j) % p else stp p d i j g lw t)) = ints (tab n (stp p d i (j + 1) g lw)) := by
      congr 1
      apply tab_congr
      intro t _
      unfold stp
      by_cases ht : t = i - d + j
      · rw [if_pos ht, if_pos (by omega), ht, show i - d + j - (i - d) = j by omega]
      · rw [if_neg ht]
        by_cases h2 : i - d ≤ t ∧ t < i - d + j
        · rw [if_pos h2, if_pos (by omega)]
        · rw [if_neg h2, if_neg (by omega)]
    have hr8 : rd (ints (tab n (stp p d i j g lw))) ((i - d + j : Nat) : Int) = (g (i - d + j) : Int) := by
      rw [rd_tab _ h1n]
      unfold stp
      rw [if_neg (fun h => hlt9 h.2)]
    have hr0 : rd (ints (tab d lw)) (j : Int) = (lw j : Int) := rd_tab _ hjd9
    have hl9 : ((ints (tab n (stp p d i j g lw))).length : Int) = (n : Int) := by rw [ints_length, tab_length]
    have hlw : ((ints (tab d lw)).length : Int) = (d : Int) := by rw [ints_length, tab_length]
    have k9 := Int.lt_of_lt_of_le h1 (Int.le_of_eq hl9.symm)
    have kl := Int.lt_of_lt_of_le hjd (Int.le_of_eq hlw.symm)
    clear hl9 hlw
    simp only [codewrightref04_divides.l1]
    rw [if_pos hjd, hid, if_pos h0, if_pos k9, if_pos hj0, if_pos kl, if_neg hp9, hr8, hr0, div_val p _ _ _ hp hp0 (hg _) (hg _) (hl _), hj1, Int.toNat_natCast, set_tab _ _ h1n, hnew]
theorem l2_ev (n : Nat) (g : Nat → Nat) (hn : n ≤ 100) : ∀ e j, j + e = n → (∀ t, t < j → g t = 0) → Ev (fun k => codewrightref04_divides.l2 k (ints (tab n g)) (j : Int)) (decide (∀ t, t < n → g t = 0)) := by
  intro e
  have hl9 : ((ints (tab n g)).length : Int) = (n : Int) := by rw [ints_length, tab_length]
  induction e with
  | zero =>
    intro j hj h
    obtain rfl : j = n := by omega
    refine Ev.step (f := fun _ => some _) (fun k => ?_) (Ev.now _)
    simp only [codewrightref04_divides.l2]
    rw [hl9, if_neg (by omega), decide_eq_true h]
  | succ e ih =>
    intro j hj h
    have hjn : j < n := by omega
    have hr : rd (ints (tab n g)) (j : Int) = (g j : Int) := rd_tab _ hjn
    by_cases hz : g j = 0
    · refine Ev.step (fun k => ?_) (ih (j + 1) (by omega) (fun t ht => by
        by_cases htj : t = j
        · rw [htj]; exact hz
        · exact h t (by omega)))
      simp only [codewrightref04_divides.l2]
      rw [hl9, if_pos (by omega), if_pos (by omega), hr, if_pos (by omega), w64 (by omega) (by omega)]
      rfl
    · refine Ev.step (f := fun _ => some _) (fun k => ?_) (Ev.now _)
      simp only [codewrightref04_divides.l2]
      rw [hl9, if_pos (by omega), if_pos (by omega), hr, if_neg (by omega), decide_eq_false (fun hh => hz (hh j hjn))]
section
variable {F : Cw.RD} {mod : List Int}
open Cw.El in
theorem div_outer (hp : F.p ≤ 256) (d n : Nat) (lw : Nat → Nat) (hd : d < n) (hn : n ≤ 100) (hl : ∀ t, lw t < F.p) : ∀ (e : Nat) (g : Nat → Nat) (E : List (Cw.Zp F.p)), d + e ≤ n → (∀ t, g t < F.p) → (∀ t, d + e ≤ t → t < n → g t = 0) →
    Cw.DivRel (md F) (zl' F.p d lw ++ [1]) E (zl' F.p n g) → (e = n - d ∧ E = [] ∧ g (n - 1) = 1 ∨ e < n - d ∧ E.length ≤ n - d ∧ Cw.gd E (n - 1 - d) = 1) →
    ∃ (E' : List (Cw.Zp F.p)) (g' : Nat → Nat), (∀ t, g' t < F.p) ∧ (∀ t, d ≤ t → t < n → g' t = 0) ∧ Cw.DivRel (md F) (zl' F.p d lw ++ [1]) E' (zl' F.p n g') ∧ E'.length ≤ n - d ∧ Cw.gd E' (n - 1 - d) = 1 ∧
      Ev (fun k => codewrightref04_divides.l0 k (ints (tab d lw)) (F.p : Int) (d : Int) (ints (tab n g)) (((d + e : Nat) : Int) - 1)) (decide (∀ t, t < n → g' t = 0)) := by
  intro e
  have hp2 := F.prm.1
  induction e with
  | zero =>
    intro g E he hg hz hD hE
    rcases hE with ⟨h, _⟩ | ⟨_, h1, h2⟩
    · omega
    refine ⟨E, g, hg, hz, hD, h1, h2, Ev.step (fun k => ?_) (l2_ev n g hn n 0 (by omega) (fun t ht => by omega))⟩
    simp only [codewrightref04_divides.l0]
    rw [if_neg (by omega)]
    rfl
  | succ e ih =>
    intro g E he hg hz hD hE
    have hin : d + e < n := by omega
    have hgn : ∀ t, nxt F.p d (d + e) g lw t < F.p := by
      intro t
      unfold nxt
      by_cases h1 : t = d + e
      · rw [if_pos h1]; omega
      · rw [if_neg h1]
        by_cases h2 : d + e - d ≤ t ∧ t < d + e
        · rw [if_pos h2]; exact Nat.mod_lt _ (by omega)
        · rw [if_neg h2]; exact hg t
    have hstep := div_step (E := E) (G := md F) (n := n) (d := d) (i := d + e) (low := lw) (g := g) (g' := nxt F.p d (d + e) g lw) (by omega) hin hD (fun t ht => by
      unfold nxt
      by_cases h1 : t = d + e
      · rw [if_pos h1, if_pos h1]; rfl
      · rw [if_neg h1, if_neg h1]
        by_cases h2 : d + e - d ≤ t ∧ t < d + e
        · rw [if_pos h2, if_pos h2]
          have hgi := hg (d + e)
          rw [Int.natCast_emod, Cw.zi_emod, Int.natCast_add, Int.natCast_mul, Cw.zi_add, Cw.zi_mul, show ((F.p - g (d + e) : Nat) : Int) = (F.p : Int) + -(g (d + e) : Int) by omega, Cw.zi_add, Cw.zi_p, Cw.zero_add, Cw.zi_neg, Cw.neg_mul]
        · rw [if_neg h2, if_neg h2])
    obtain ⟨E', g', a1, a2, a3, a4, a5, a6⟩ := ih (nxt F.p d (d + e) g lw) _ (by omega) hgn (fun t ht htn => by
      unfold nxt
      by_cases h1 : t = d + e
      · rw [if_pos h1]
      · rw [if_neg h1, if_neg (by omega)]
        exact hz t (by omega) htn) hstep (Or.inr ⟨by omega, by
          rcases hE with ⟨h1, h2, h3⟩ | ⟨h1, h2, h3⟩
          · subst h2
            exact quo_len (Nat.zero_le _) _ (by omega)
          · exact quo_len h2 _ (by omega), by
          rcases hE with ⟨h1, h2, h3⟩ | ⟨h1, h2, h3⟩
          · subst h2
            rw [show d + e = n - 1 by omega, h3, Cw.gd_padd, Cw.gd_nil, Cw.zero_add, Cw.gd_shift, if_neg (by omega), Nat.sub_self, Cw.gd_zero]; rfl
          · exact quo_top h3 _ (by omega)⟩)
    refine ⟨E', g', a1, a2, a3, a4, a5, ?_⟩
    have hin2 := div_inner F.p n d (d + e) g lw hp (by omega) hn (by omega) hin hg hl _ a6 d 0 (by omega)
    refine Ev.step (fun k => ?_) hin2
    have hl9 : ((ints (tab n g)).length : Int) = (n : Int) := by rw [ints_length, tab_length]
    have hx : ((d + (e + 1) : Nat) : Int) - 1 = ((d + e : Nat) : Int) := by omega
    simp only [codewrightref04_divides.l0]
    rw [hx, if_pos (by omega), if_pos (by omega), hl9, if_pos (by omega), rd_tab _ hin]
    congr 2
    apply tab_congr
    intro t _
    unfold stp
    rw [if_neg (by omega)]
open Cw.El in
theorem divides_ev (hF : Fits F mod) (hm : F.m ≠ 1) (d : Nat) (lw : Nat → Nat) (hd : 1 ≤ d) (hdm : d < F.m) (hl : ∀ t, lw t < F.p) :
    (∃ E, Cw.DivRel (md F) (zl' F.p d lw ++ [1]) E [] ∧ E.length ≤ F.m + 1 - d ∧ Cw.gd E (F.m - d) = 1 ∧ Ev (fun k => codewrightref04_divides.f k (ints (tab d lw)) mod (F.p : Int)) true) ∨
    ((∀ E, ¬ Cw.DivRel (md F) (zl' F.p d lw ++ [1]) E []) ∧ Ev (fun k => codewrightref04_divides.f k (ints (tab d lw)) mod (F.p : Int)) false) := by
  have hp := hF.p_le
  have hp2 := F.prm.1
  have hm8 := hF.m_le
  obtain ⟨hml, hmd⟩ := hF.modm hm
  let g : Nat → Nat := fun t => if t < F.m then (F.f t).toNat else if t = F.m then 1 else 0
  have hg : ∀ t, g t < F.p := by
    intro t
    show (if t < F.m then (F.f t).toNat else if t = F.m then 1 else 0) < F.p
    have := hF.coef t
    by_cases h1 : t < F.m
    · rw [if_pos h1]; omega
    · rw [if_neg h1]
      by_cases h2 : t = F.m
      · rw [if_pos h2]; omega
      · rw [if_neg h2]; omega
  have hgm : mod ++ [1] = ints (tab (F.m + 1) g) := by
    have e1 : mod = ints (tab F.m g) := by
      apply List.ext_getElem?
      intro i
      unfold ints
      rw [List.getElem?_map]
      by_cases hi : i < F.m
      · rw [tab_get g hi]
        have h1 := hmd i hi
        rw [List.getD_eq_getElem?_getD, List.getElem?_eq_getElem (by omega)] at h1
        rw [List.getElem?_eq_getElem (by omega)]
        have h2 := hF.coef i
        show some _ = some _
        congr 1
        show _ = ((if i < F.m then (F.f i).toNat else if i = F.m then 1 else 0 : Nat) : Int)
        rw [if_pos hi, Int.toNat_of_nonneg h2.1, ← h1]; rfl
      · rw [tab_ge g (by omega), List.getElem?_eq_none (by omega)]; rfl
    have e2 : ((1 : Int)) = ((g F.m : Nat) : Int) := by
      show (1 : Int) = ((if F.m < F.m then (F.f F.m).toNat else if F.m = F.m then 1 else 0 : Nat) : Int)
      rw [if_neg (by omega), if_pos rfl]; rfl
    have e3 : ints (tab (F.m + 1) g) = ints (tab F.m g) ++ [(g F.m : Int)] := by
      unfold tab
      rw [List.range_succ, List.map_append, ints_append]; rfl
    rw [e3, ← e1, ← e2]
  have hst : Cw.DivRel (md F) (zl' F.p d lw ++ [1]) [] (zl' F.p (F.m + 1) g) := by
    refine (Cw.DivRel.start _ _).congr (fun i => ?_)
    rw [gd_zl']
    unfold md
    by_cases hi : i < F.m
    · rw [Cw.gd_append_left (by simpa using hi), Cw.gd_range, if_pos hi, if_pos (by omega)]
      have h2 := hF.coef i
      congr 1
      show F.f i = ((if i < F.m then (F.f i).toNat else if i = F.m then 1 else 0 : Nat) : Int)
      rw [if_pos hi]; omega
    · rw [Cw.gd_append_right (by simp; omega), List.length_map, List.length_range]
      by_cases hi2 : i = F.m
      · rw [if_pos (by omega), hi2, Nat.sub_self, Cw.gd_zero]
        show (1 : Cw.Zp F.p) = Cw.zi ((if F.m < F.m then (F.f F.m).toNat else if F.m = F.m then 1 else 0 : Nat) : Int)
        rw [if_neg (by omega), if_pos rfl]; rfl
      · rw [if_neg (by omega), Cw.gd_ge (by simp; omega)]
  have hout := div_outer hp d (F.m + 1) lw (by omega) (by omega) hl (F.m + 1 - d) g [] (by omega) hg (fun t h1 h2 => by omega) hst (Or.inl ⟨rfl, rfl, by
    show (if F.m + 1 - 1 < F.m then (F.f (F.m + 1 - 1)).toNat else if F.m + 1 - 1 = F.m then 1 else 0) = 1
    rw [if_neg (by omega), if_pos (by omega)]⟩)
  obtain ⟨E', g', a1, a2, a3, a4, a5, a6⟩ := hout
  have hgl : ((ints (tab (F.m + 1) g)).length : Int) = ((F.m + 1 : Nat) : Int) := by rw [ints_length, tab_length]
  have hdl : ((ints (tab d lw)).length : Int) = (d : Int) := by rw [ints_length, tab_length]
  have hlen : (([] : List Int)).length + mod.length < 17592186044416 := by rw [hml]; show 0 + F.m < _; omega
  have hlen2 : (([] : List Int) ++ mod).length < 17592186044416 := by rw [List.nil_append, hml]; omega
  have hf : ∀ b, Ev (fun k => codewrightref04_divides.l0 k (ints (tab d lw)) (F.p : Int) (d : Int) (ints (tab (F.m + 1) g)) (((d + (F.m + 1 - d) : Nat) : Int) - 1)) b → Ev (fun k => codewrightref04_divides.f k (ints (tab d lw)) mod (F.p : Int)) b := by
    intro b hb
    refine Ev.congr (fun k => ?_) hb
    unfold codewrightref04_divides.f
    show (if (([] : List Int)).length + mod.length < 17592186044416 then _ else _) = _
    rw [if_pos hlen]
    show (if (([] : List Int) ++ mod).length < 17592186044416 then _ else _) = _
    rw [if_pos hlen2]
    show codewrightref04_divides.l0 k (ints (tab d lw)) (F.p : Int) ((ints (tab d lw)).length : Int) (mod ++ [1]) (wrap64 (((mod ++ [1]).length : Int) - 1)) = _
    rw [hgm, hgl, hdl, w64 (by omega) (by omega)]
    congr 2
    omega
  by_cases hz : ∀ t, t < F.m + 1 → g' t = 0
  · refine Or.inl ⟨E', a3.congr (fun i => ?_), a4, ?_, hf _ ?_⟩
    · rw [gd_zl', Cw.gd_nil]
      by_cases hi : i < F.m + 1
      · rw [if_pos hi, hz i hi]; rfl
      · rw [if_neg hi]
    · rw [show F.m - d = F.m + 1 - 1 - d by omega]; exact a5
    · rw [decide_eq_true hz] at a6; exact a6
  · refine Or.inr ⟨fun E hE => hz ?_, hf _ ?_⟩
    · have hll : (zl' F.p d lw).length = d := by simp [zl']
      have hu := rem_unique (by rw [hll]; exact hd) a3 hE (fun i hi => by
        rw [hll] at hi
        rw [gd_zl']
        by_cases hi2 : i < F.m + 1
        · rw [if_pos hi2, a2 i hi hi2]; rfl
        · rw [if_neg hi2])
      intro t ht
      have h1 := hu t
      rw [gd_zl', if_pos ht] at h1
      have h2 := congrArg Cw.Zp.v h1
      rw [Cw.zi_nat_v, Nat.mod_eq_of_lt (a1 t)] at h2
      rw [h2]
      have h3 : (Cw.zi (((0 : Nat)) : Int) : Cw.Zp F.p).v = 0 % F.p := Cw.zi_nat_v 0
      rw [Nat.zero_mod] at h3
      exact h3
    · rw [decide_eq_false hz] at a6; exact a6
end
end Go.Proofs.Ytoambdpchjeklaa.Pl
end
-- D4
section
namespace Go.Proofs.Ytoambdpchjeklaa.Pl
open Go.RowKit Go.Proofs.Ytoambdpchjeklaa.P Go.Proofs.Ytoambdpchjeklaa.Hand Go.Proofs.YtoambdpchjeklaaW.PrintWords
def btab (m : Nat) (f : Nat → Bool) : List Bool := (List.range m).map f
theorem btab_length (m : Nat) (f : Nat → Bool) : (btab m f).length = m := by simp [btab]
theorem btab_get {m : Nat} (f : Nat → Bool) (i : Nat) : (btab m f)[i]? = if i < m then some (f i) else none := by
  unfold btab
  by_cases h : i < m
  · simp [h]
  · simp [h]
theorem rd_btab {m : Nat} (f : Nat → Bool) {j : Nat} (h : j < m) : rdOf false (btab m f) (j : Int) = f j := by
  unfold rdOf
  rw [Int.toNat_natCast, List.getD_eq_getElem?_getD, btab_get, if_pos h]; rfl
theorem set_btab {m : Nat} (f g : Nat → Bool) {j : Nat} (h : j < m) (hg : ∀ i, i < m → g i = if i = j then true else f i) : (btab m f).set j true = btab m g := by
  apply List.ext_getElem?
  intro i
  rw [List.getElem?_set, btab_get, btab_get, btab_length]
  by_cases hij : j = i
  · rw [if_pos hij, if_pos h, if_pos (hij ▸ h), hg i (hij ▸ h), if_pos hij.symm]
  · rw [if_neg hij]
    by_cases hi : i < m
    · rw [if_pos hi, if_pos hi, hg i hi, if_neg (fun h => hij h.symm)]
    · rw [if_neg hi, if_neg hi]
theorem ints_snoc_tab (n : Nat) (f : Nat → Nat) : ints (tab n f) ++ [(f n : Int)] = ints (tab (n + 1) f) := by
  unfold tab
  rw [List.range_succ, List.map_append, ints_append]; rfl
section
variable {F : Cw.RD} {mod : List Int}
open Classical in
noncomputable def seenB (X : Cw.El F) (i : Nat) (c : Nat) : Bool := decide (∃ t, t < i ∧ (Cw.pw X t).code = c)
theorem powers_loop (hF : Fits F mod) {x : Nat} (hx : x < F.p ^ F.m) : ∀ (d i : Nat), i + d = F.p ^ F.m → Cw.Apart (Cw.El.dec F x) i →
    ∃ n, Cw.Apart (Cw.El.dec F x) n ∧ ¬ Cw.Apart (Cw.El.dec F x) (n + 1) ∧
    Ev (fun k => field_powers.l0 k (x : Int) (ints (tab i (fun t => (Cw.pw (Cw.El.dec F x) t).code))) (btab (F.p ^ F.m) (seenB (Cw.El.dec F x) i)) ((Cw.pw (Cw.El.dec F x) i).code : Int) (F.p : Int) (F.m : Int) mod) (ints (tab n (fun t => (Cw.pw (Cw.El.dec F x) t).code))) := by
  intro d
  have hq := hF.small
  generalize hX : Cw.El.dec F x = X
  induction d with
  | zero =>
    intro i hi ha
    have := ha.le
    have := Cw.q_pos F
    omega
  | succ d ih =>
    intro i hi ha
    have hil := ha.le
    by_cases h0 : (Cw.pw X i).code = 0
    · refine ⟨i, ha, Cw.Apart.not_succ (Or.inl (Cw.code_eq_zero.1 h0)), ?_⟩
      refine Ev.step (f := fun _ => some _) (fun k => ?_) (Ev.now _)
      simp only [field_powers.l0]
      rw [if_pos (by rw [h0]; rfl)]
    have hc := (Cw.pw X i).code_lt
    have hz : ¬ (((Cw.pw X i).code : Nat) : Int) = 0 := by omega
    have hl : ((btab (F.p ^ F.m) (seenB X i)).length : Int) = ((F.p ^ F.m : Nat) : Int) := by rw [btab_length]
    by_cases h1 : ∃ t, t < i ∧ (Cw.pw X t).code = (Cw.pw X i).code
    · refine ⟨i, ha, Cw.Apart.not_succ (Or.inr ?_), ?_⟩
      · obtain ⟨t, ht, e⟩ := h1
        exact ⟨t, ht, Cw.El.code_inj e⟩
      refine Ev.step (f := fun _ => some _) (fun k => ?_) (Ev.now _)
      simp only [field_powers.l0]
      rw [if_neg hz, if_pos (Int.natCast_nonneg _), if_pos (by rw [hl]; omega), rd_btab _ hc, if_pos (show seenB X i (Cw.pw X i).code = true from decide_eq_true h1)]
    · have ha' : Cw.Apart X (i + 1) := ha.succ (fun e => h0 (by rw [e, Cw.El.code_zero])) (fun j hj e => h1 ⟨j, hj, by rw [e]⟩)
      obtain ⟨n, hn1, hn2, hn3⟩ := ih (i + 1) (by omega) ha'
      refine ⟨n, hn1, hn2, ?_⟩
      have hm := multiply_ev hF hc hx
      rw [Cw.El.dec_code, hX, ← Cw.pw_succ] at hm
      refine Ev.step (f := fun k => (field_multiply.f k (F.p : Int) (F.m : Int) mod ((Cw.pw X i).code : Int) (x : Int)).bind fun t114 => (field_powers.l0 k (x : Int) (ints (tab (i + 1) (fun t => (Cw.pw X t).code))) (btab (F.p ^ F.m) (seenB X (i + 1))) t114 (F.p : Int) (F.m : Int) mod)) (fun k => ?_) (Ev.bind hm hn3)
      have hlen : (ints (tab i (fun t => (Cw.pw X t).code))).length < 17592186044416 := by rw [ints_length, tab_length]; omega
      simp only [field_powers.l0]
      rw [if_neg hz, if_pos (Int.natCast_nonneg _), if_pos (by rw [hl]; omega), rd_btab _ hc, if_neg (by unfold seenB; rw [decide_eq_true_iff]; exact h1), if_pos hlen, ints_snoc_tab i (fun t => (Cw.pw X t).code), Int.toNat_natCast,
        set_btab (seenB X i) (seenB X (i + 1)) hc (fun c _ => by
          unfold seenB
          by_cases hcc : c = (Cw.pw X i).code
          · rw [if_pos hcc]; exact decide_eq_true ⟨i, by omega, hcc.symm⟩
          · rw [if_neg hcc]
            apply decide_eq_decide.2
            constructor
            · rintro ⟨t, ht, e⟩
              refine ⟨t, ?_, e⟩
              by_cases hti : t = i
              · rw [hti] at e; exact absurd e.symm hcc
              · omega
            · rintro ⟨t, ht, e⟩
              exact ⟨t, by omega, e⟩)]
theorem powers_ev (hF : Fits F mod) {x : Nat} (hx : x < F.p ^ F.m) : ∃ n, Cw.Apart (Cw.El.dec F x) n ∧ ¬ Cw.Apart (Cw.El.dec F x) (n + 1) ∧
    Ev (fun k => field_powers.f k (F.p : Int) (F.m : Int) mod ((F.p ^ F.m : Nat) : Int) (x : Int)) (ints (tab n (fun t => (Cw.pw (Cw.El.dec F x) t).code))) := by
  have hq := hF.small
  have hq2 := Cw.q_pos F
  obtain ⟨n, h1, h2, h3⟩ := powers_loop hF hx (F.p ^ F.m - 1) 1 (by omega) (Cw.Apart.one _)
  refine ⟨n, h1, h2, Ev.congr (fun k => ?_) h3⟩
  have e1 : ints (tab 1 (fun t => (Cw.pw (Cw.El.dec F x) t).code)) = [1] := by
    show [(((Cw.pw (Cw.El.dec F x) 0).code : Nat) : Int)] = [1]
    rw [Cw.pw_zero, Cw.El.code_one]; rfl
  have e2 : ((Cw.pw (Cw.El.dec F x) 1).code : Int) = (x : Int) := by rw [Cw.pw_one, Cw.El.code_dec hx]
  have e3 : (List.replicate (F.p ^ F.m) false).set (1 : Int).toNat true = btab (F.p ^ F.m) (seenB (Cw.El.dec F x) 1) := by
    have : List.replicate (F.p ^ F.m) false = btab (F.p ^ F.m) (fun _ => false) := by
      unfold btab
      rw [List.map_const', List.length_range]
    rw [this]
    refine set_btab _ _ (j := 1) (by omega) (fun i _ => ?_)
    unfold seenB
    by_cases hi : i = 1
    · rw [if_pos hi]; exact decide_eq_true ⟨0, by omega, by rw [Cw.pw_zero, Cw.El.code_one, hi]⟩
    · rw [if_neg hi]
      apply decide_eq_false
      rintro ⟨t, ht, e⟩
      rw [show t = 0 by omega, Cw.pw_zero, Cw.El.code_one] at e
      exact hi e.symm
  unfold field_powers.f
  rw [if_pos (Int.natCast_nonneg _), Int.toNat_natCast, if_pos (by omega)]
  show (if 1 < ((List.replicate (F.p ^ F.m) false).length : Int) then _ else _) = _
  rw [if_pos (by rw [List.length_replicate]; omega), e1, e2, e3]
def genList (X : Cw.El F) : List Int := ints (tab (F.p ^ F.m - 1) (fun t => (Cw.pw X t).code))
theorem generator_loop (hF : Fits F mod) : ∀ (d x : Nat), x + d = F.p ^ F.m → (1 ≤ x) → 
    (∃ c, x ≤ c ∧ c < F.p ^ F.m ∧ Cw.Gens (Cw.El.dec F c) ∧ Ev (fun k => field_generator.l0 k ((F.p ^ F.m : Nat) : Int) (x : Int) (F.p : Int) (F.m : Int) mod) (genList (Cw.El.dec F c))) ∨
    ((∀ c, x ≤ c → c < F.p ^ F.m → ¬ Cw.Gens (Cw.El.dec F c)) ∧ Ev (fun k => field_generator.l0 k ((F.p ^ F.m : Nat) : Int) (x : Int) (F.p : Int) (F.m : Int) mod) []) := by
  intro d
  have hq := hF.small
  have hq2 := Cw.q_pos F
  have w1 : wrap64 (((F.p ^ F.m : Nat) : Int) - 1) = ((F.p ^ F.m - 1 : Nat) : Int) := by rw [w64 (by omega) (by omega)]; omega
  have w2 : wrap64 (((F.p ^ F.m : Nat) : Int) - 2) = ((F.p ^ F.m - 2 : Nat) : Int) := by rw [w64 (by omega) (by omega)]; omega
  induction d with
  | zero =>
    intro x hx h1
    refine Or.inr ⟨fun c h1 h2 => by omega, ?_⟩
    refine Ev.step (f := fun _ => some _) (fun k => ?_) (Ev.now _)
    simp only [field_generator.l0]
    rw [if_neg (by omega)]
  | succ d ih =>
    intro x hx h1
    have hxq : x < F.p ^ F.m := by omega
    have hw : wrap64 ((x : Int) + 1) = ((x + 1 : Nat) : Int) := by rw [w64 (by omega) (by omega)]; rfl
    obtain ⟨n, hn1, hn2, hn3⟩ := powers_ev hF hxq
    have hlen : ((ints (tab n (fun t => (Cw.pw (Cw.El.dec F x) t).code))).length : Int) = (n : Int) := by rw [ints_length, tab_length]
    have hxi : ((x : Int) < ((F.p ^ F.m : Nat) : Int)) := by omega
    by_cases hnq : n = F.p ^ F.m - 1
    · subst hnq
      have hrd : rd (ints (tab (F.p ^ F.m - 1) (fun t => (Cw.pw (Cw.El.dec F x) t).code))) ((F.p ^ F.m - 2 : Nat) : Int) = ((Cw.pw (Cw.El.dec F x) (F.p ^ F.m - 2)).code : Int) := rd_tab _ (by omega)
      have hmu := multiply_ev hF ((Cw.pw (Cw.El.dec F x) (F.p ^ F.m - 2)).code_lt) hxq
      rw [Cw.El.dec_code, ← Cw.pw_succ, show F.p ^ F.m - 2 + 1 = F.p ^ F.m - 1 by omega] at hmu
      have hst : ∀ r, Ev (fun k => (field_multiply.f k (F.p : Int) (F.m : Int) mod ((Cw.pw (Cw.El.dec F x) (F.p ^ F.m - 2)).code : Int) (x : Int)).bind fun t120 => (if t120 = 1 then (some (genList (Cw.El.dec F x))) else (field_generator.l0 k ((F.p ^ F.m : Nat) : Int) ((x + 1 : Nat) : Int) (F.p : Int) (F.m : Int) mod))) r →
          Ev (fun k => field_generator.l0 k ((F.p ^ F.m : Nat) : Int) (x : Int) (F.p : Int) (F.m : Int) mod) r := by
        intro r hr
        refine Ev.step (fun k => by simp only [field_generator.l0]; rw [if_pos hxi]) (Ev.bind hn3 ?_)
        refine Ev.congr (fun k => ?_) hr
        rw [w1, w2, hlen, if_pos rfl, if_pos (Int.natCast_nonneg _), if_pos (by omega), hrd, hw]
        rfl
      by_cases hg : (Cw.pw (Cw.El.dec F x) (F.p ^ F.m - 1)).code = 1
      · refine Or.inl ⟨x, Nat.le_refl _, hxq, ⟨hn1, Cw.code_eq_one.1 hg⟩, hst _ (Ev.bind hmu ?_)⟩
        refine Ev.congr (fun k => ?_) (Ev.now _)
        rw [if_pos (by rw [hg]; rfl)]
      · have hng : ¬ Cw.Gens (Cw.El.dec F x) := fun h => hg (Cw.code_eq_one.2 h.2)
        have hst2 : ∀ r, Ev (fun k => field_generator.l0 k ((F.p ^ F.m : Nat) : Int) ((x + 1 : Nat) : Int) (F.p : Int) (F.m : Int) mod) r → Ev (fun k => field_generator.l0 k ((F.p ^ F.m : Nat) : Int) (x : Int) (F.p : Int) (F.m : Int) mod) r := by
          intro r hr
          refine hst _ (Ev.bind hmu (Ev.congr (fun k => ?_) hr))
          rw [if_neg (by omega)]
        rcases ih (x + 1) (by omega) (by omega) with ⟨c, hc1, hc2, hc3, hc4⟩ | ⟨hc1, hc2⟩
        · exact Or.inl ⟨c, by omega, hc2, hc3, hst2 _ hc4⟩
        · refine Or.inr ⟨fun c hc hcq => ?_, hst2 _ hc2⟩
          by_cases hcx : c = x
          · rw [hcx]; exact hng
          · exact hc1 c (by omega) hcq
    · have hng : ¬ Cw.Gens (Cw.El.dec F x) := fun h => by
        have h1 := hn1.le
        exact hn2 (h.1.mono (by omega))
      have hst2 : ∀ r, Ev (fun k => field_generator.l0 k ((F.p ^ F.m : Nat) : Int) ((x + 1 : Nat) : Int) (F.p : Int) (F.m : Int) mod) r → Ev (fun k => field_generator.l0 k ((F.p ^ F.m : Nat) : Int) (x : Int) (F.p : Int) (F.m : Int) mod) r := by
        intro r hr
        refine Ev.step (fun k => by simp only [field_generator.l0]; rw [if_pos hxi]) (Ev.bind hn3 ?_)
        refine Ev.congr (fun k => ?_) hr
        rw [w1, hlen, if_neg (by omega), hw]
      rcases ih (x + 1) (by omega) (by omega) with ⟨c, hc1, hc2, hc3, hc4⟩ | ⟨hc1, hc2⟩
      · exact Or.inl ⟨c, by omega, hc2, hc3, hst2 _ hc4⟩
      · refine Or.inr ⟨fun c hc hcq => ?_, hst2 _ hc2⟩
        by_cases hcx : c = x
        · rw [hcx]; exact hng
        · exact hc1 c (by omega) hcq
theorem generator_field (hF : Fits F mod) [Cw.Irr F] : ∃ G : GFv, G.F = F ∧ G.mod = mod ∧ Ev (fun k => field_generator.f k (F.p : Int) (F.m : Int) mod ((F.p ^ F.m : Nat) : Int)) G.exp := by
  have hq2 := Cw.q_pos F
  rcases generator_loop hF (F.p ^ F.m - 1) 1 (by omega) (Nat.le_refl _) with ⟨c, hc1, hc2, hc3, hc4⟩ | ⟨hc1, hc2⟩
  · exact ⟨⟨F, inferInstance, mod, Cw.El.dec F c, hc3.ord, hF.small, hF.coef, hF.mod1, hF.modm⟩, rfl, rfl, Ev.congr (fun k => rfl) (by
      have e : genList (Cw.El.dec F c) = (List.range (F.p ^ F.m - 1)).map (fun i => (((Cw.pw (Cw.El.dec F c) i).code : Nat) : Int)) := by
        unfold genList tab ints; rw [List.map_map]; rfl
      rw [e] at hc4
      exact hc4)⟩
  · obtain ⟨X, hX⟩ := Cw.gens_ex (F := F)
    have := hc1 X.code (by
      have h1 : X.code ≠ 0 := fun e => Cw.gens_ne hX (Cw.code_eq_zero.1 e)
      omega) X.code_lt
    rw [Cw.El.dec_code] at this
    exact absurd hX this
theorem generator_none (hF : Fits F mod) (h : ¬ Cw.Dom (Cw.El F)) : Ev (fun k => field_generator.f k (F.p : Int) (F.m : Int) mod ((F.p ^ F.m : Nat) : Int)) [] := by
  have hq2 := Cw.q_pos F
  rcases generator_loop hF (F.p ^ F.m - 1) 1 (by omega) (Nat.le_refl _) with ⟨c, hc1, hc2, hc3, hc4⟩ | ⟨hc1, hc2⟩
  · exact absurd hc3.dom h
  · exact hc2
end
end Go.Proofs.Ytoambdpchjeklaa.Pl
end
-- D6
section
namespace Go.Proofs.Ytoambdpchjeklaa.Pl
open Go.RowKit Go.Proofs.Ytoambdpchjeklaa.P Go.Proofs.Ytoambdpchjeklaa.Hand Go.Proofs.YtoambdpchjeklaaW.PrintWords
section
variable {F : Cw.RD} {mod : List Int}
def lwv (p d v : Nat) (t : Nat) : Nat := (Cw.dg p d v).getD t 0
theorem lwv_lt {p : Nat} (hp : 0 < p) (d v t : Nat) : lwv p d v t < p := by
  unfold lwv
  rw [List.getD_eq_getElem?_getD]
  by_cases h : t < (Cw.dg p d v).length
  · rw [List.getElem?_eq_getElem h]
    exact Cw.dg_lt hp d v _ (List.getElem_mem h)
  · rw [List.getElem?_eq_none (by omega)]
    exact hp
theorem lwv_tab (p d v : Nat) : tab d (lwv p d v) = Cw.dg p d v := by
  apply List.ext_getElem?
  intro i
  by_cases h : i < d
  · rw [tab_get _ h]
    unfold lwv
    rw [List.getD_eq_getElem?_getD, List.getElem?_eq_getElem (by rw [Cw.dg_length]; exact h)]; rfl
  · rw [tab_ge _ (by omega), List.getElem?_eq_none (by rw [Cw.dg_length]; omega)]
theorem low_v (low : List (Cw.Zp F.p)) : ∃ v, v < F.p ^ low.length ∧ Cw.El.zl' F.p low.length (lwv F.p low.length v) = low := by
  have hl : ∀ a, a ∈ low.map Cw.Zp.v → a < F.p := by
    intro a ha
    obtain ⟨b, _, rfl⟩ := List.mem_map.1 ha
    exact b.lt
  refine ⟨Cw.cd F.p (low.map Cw.Zp.v), by have := Cw.cd_lt _ hl; rwa [List.length_map] at this, ?_⟩
  have h1 := Cw.dg_cd _ hl
  rw [List.length_map] at h1
  apply List.ext_getElem?
  intro i
  unfold Cw.El.zl'
  by_cases h : i < low.length
  · rw [List.getElem?_map, List.getElem?_range h, List.getElem?_eq_getElem h]
    show some _ = some _
    congr 1
    unfold lwv
    rw [h1]
    show Cw.zi (((List.map Cw.Zp.v low).getD i 0 : Nat) : Int) = low[i]
    rw [List.getD_eq_getElem?_getD, List.getElem?_map, List.getElem?_eq_getElem h]
    exact Cw.zi_of _
  · rw [List.getElem?_eq_none (by simp; omega), List.getElem?_eq_none (by omega)]
def Free (F : Cw.RD) (d v : Nat) : Prop := ∀ d' v', 1 ≤ d' → d' < d ∨ d' = d ∧ v' < v → v' < F.p ^ d' → 2 * d' ≤ F.m → ∀ E, ¬ Cw.DivRel (Cw.El.md F) (Cw.El.zl' F.p d' (lwv F.p d' v') ++ [1]) E []
theorem Free.dom {d : Nat} (h : Free F d 0) (hd : F.m < 2 * d) : Cw.Dom (Cw.El F) := by
  refine Cw.El.dom_of_irr (fun low E h1 h2 hE => ?_)
  obtain ⟨v, hv, e⟩ := low_v low
  exact h low.length v h1 (Or.inl (by omega)) hv h2 E (by rw [e]; exact hE)
theorem dom_one (h : F.m = 1) : Cw.Dom (Cw.El F) := Cw.El.dom_of_irr (fun low E h1 h2 _ => by omega)
open Classical in
theorem irr_inner (hF : Fits F mod) (hm : F.m ≠ 1) (d : Nat) (hd : 1 ≤ d) (h2d : 2 * d ≤ F.m)
    (H : Free F (d + 1) 0 → Ev (fun k => codewrightref04_irreducible.l0 k mod (F.p : Int) ((F.p ^ d : Nat) : Int) ((d + 1 : Nat) : Int)) (decide (Cw.Dom (Cw.El F)))) : ∀ e v, v + e = F.p ^ d → Free F d v →
    Ev (fun k => codewrightref04_irreducible.l1 k mod (F.p : Int) ((F.p ^ d : Nat) : Int) (d : Int) (v : Int)) (decide (Cw.Dom (Cw.El F))) := by
  intro e
  have hp := hF.p_le
  have hp2 := F.prm.1
  have hm8 := hF.m_le
  have hs := hF.small
  have hpd : F.p ^ d ≤ F.p ^ F.m := Nat.pow_le_pow_right (by omega) (by omega)
  have hd1 : wrap64 ((d : Int) + 1) = ((d + 1 : Nat) : Int) := by rw [w64 (by omega) (by omega)]; rfl
  induction e with
  | zero =>
    intro v hv hf
    refine Ev.step (fun k => ?_) (H (fun d' v' h1 h2 h3 h4 E => ?_))
    · simp only [codewrightref04_irreducible.l1]
      rw [if_neg (by omega), hd1]
    · by_cases hdd : d' = d
      · subst hdd
        exact hf d' v' h1 (Or.inr ⟨rfl, by omega⟩) h3 h4 E
      · exact hf d' v' h1 (Or.inl (by omega)) h3 h4 E
  | succ e ih =>
    intro v hv hf
    have hvp : v < F.p ^ d := by omega
    have hvi : (v : Int) < ((F.p ^ d : Nat) : Int) := by omega
    have hv1 : wrap64 ((v : Int) + 1) = ((v + 1 : Nat) : Int) := by rw [w64 (by omega) (by omega)]; rfl
    have hdig := digits04_ev v F.p d (by omega) (by omega) (by omega)
    rw [← lwv_tab] at hdig
    rcases divides_ev hF hm d (lwv F.p d v) hd (by omega) (lwv_lt (by omega) d v) with ⟨E, hE, hE1, hE2, hev⟩ | ⟨hE, hev⟩
    · have hnd : ¬ Cw.Dom (Cw.El F) := fun hdom => by
        have hll : (Cw.El.zl' F.p d (lwv F.p d v)).length = d := by simp [Cw.El.zl']
        obtain ⟨x, y, _, _, h1, h2, h3⟩ := Cw.El.div_not_dom (by rw [hll]; exact hd) (by rw [hll]; omega) hE (by rw [hll]; exact hE1) (by rw [hll]; exact hE2)
        rcases hdom x y h1 with h | h
        · exact h2 h
        · exact h3 h
      rw [decide_eq_false hnd]
      refine Ev.step (fun k => by simp only [codewrightref04_irreducible.l1]; rw [if_pos hvi]) (Ev.bind hdig (Ev.bind hev ?_))
      exact Ev.congr (fun k => if_pos rfl) (Ev.now _)
    · refine Ev.step (fun k => by simp only [codewrightref04_irreducible.l1]; rw [if_pos hvi]) (Ev.bind hdig (Ev.bind hev ?_))
      refine Ev.congr (fun k => ?_) (ih (v + 1) (by omega) (fun d' v' h1 h2 h3 h4 E => ?_))
      · rw [if_neg (by decide), hv1]
      · by_cases hdd : d' = d ∧ v' = v
        · obtain ⟨rfl, rfl⟩ := hdd
          exact hE E
        · exact hf d' v' h1 (by omega) h3 h4 E
open Classical in
theorem irr_outer (hF : Fits F mod) (hm : F.m ≠ 1) : ∀ e d, d + e = 5 → 1 ≤ d → d ≤ F.m → Free F d 0 →
    Ev (fun k => codewrightref04_irreducible.l0 k mod (F.p : Int) ((F.p ^ (d - 1) : Nat) : Int) (d : Int)) (decide (Cw.Dom (Cw.El F))) := by
  intro e
  have hp := hF.p_le
  have hp2 := F.prm.1
  have hm8 := hF.m_le
  have hs := hF.small
  have hml := (hF.modm hm).1
  have stop : ∀ d, F.m < 2 * d → d ≤ 8 → Free F d 0 → Ev (fun k => codewrightref04_irreducible.l0 k mod (F.p : Int) ((F.p ^ (d - 1) : Nat) : Int) (d : Int)) (decide (Cw.Dom (Cw.El F))) := by
    intro d hd hd8 hf
    rw [decide_eq_true (hf.dom hd)]
    refine Ev.step (f := fun _ => some _) (fun k => ?_) (Ev.now _)
    simp only [codewrightref04_irreducible.l0]
    rw [w64 (by omega) (by omega), if_neg (by omega)]
  induction e with
  | zero =>
    intro d hd h1 hdm hf
    exact stop d (by omega) (by omega) hf
  | succ e ih =>
    intro d hd h1 hdm hf
    by_cases hc : F.m < 2 * d
    · exact stop d hc (by omega) hf
    · have hpd : F.p ^ d ≤ F.p ^ F.m := Nat.pow_le_pow_right (by omega) (by omega)
      have hin := irr_inner hF hm d h1 (by omega) (fun hf' => by
        have := ih (d + 1) (by omega) (by omega) (by omega) hf'
        rw [show d + 1 - 1 = d by omega] at this
        exact this) (F.p ^ d) 0 (by omega) hf
      refine Ev.step (fun k => ?_) hin
      have hmul : wrap64 (((F.p ^ (d - 1) : Nat) : Int) * (F.p : Int)) = ((F.p ^ d : Nat) : Int) := by
        rw [← Int.natCast_mul, ← Nat.pow_succ, show (d - 1).succ = d by omega, w64n _ (by omega)]
      simp only [codewrightref04_irreducible.l0]
      rw [w64 (n := 2 * (d : Int)) (by omega) (by omega), if_pos (by omega), hmul]
      rfl
open Classical in
theorem irreducible_ev (hF : Fits F mod) (hm : F.m ≠ 1) : Ev (fun k => codewrightref04_irreducible.f k mod (F.p : Int)) (decide (Cw.Dom (Cw.El F))) := by
  have h := irr_outer hF hm 4 1 (by omega) (by omega) F.mpos (fun d' v' h1 h2 h3 h4 E => by omega)
  rw [Nat.sub_self, Nat.pow_zero] at h
  exact h
end
def Shape (P M : Int) (mod : List Int) : Prop := ordV P M ≠ 0 ∧ Cw.Prm P.toNat ∧ (M = 1 ∧ mod = [] ∨ M ≠ 1 ∧ (mod.length : Int) = M ∧ ∀ i, i < mod.length → 0 ≤ mod.getD i 0 ∧ mod.getD i 0 < P)
theorem shape_fits {P M : Int} {mod : List Int} (h : Shape P M mod) : ∃ F : Cw.RD, Fits F mod ∧ (F.p : Int) = P ∧ (F.m : Int) = M := by
  obtain ⟨h1, h2, h3⟩ := h
  obtain ⟨p, m, rfl, rfl, hp1, hp2, hm1, hm2, hq, _⟩ := ordV_pos h1
  rw [Int.toNat_natCast] at h2
  rcases h3 with ⟨h3, rfl⟩ | ⟨h3, h4, h5⟩
  · refine ⟨⟨p, m, h2, by omega, fun _ => 0⟩, ⟨hq, fun i => ?_, fun _ => ⟨rfl, rfl⟩, fun h => ?_⟩, rfl, rfl⟩
    · show (0 : Int) ≤ 0 ∧ (0 : Int) < (p : Int)
      omega
    · exact absurd (by omega : m = 1) h
  · refine ⟨⟨p, m, h2, by omega, fun i => mod.getD i 0⟩, ⟨hq, fun i => ?_, fun h => ?_, fun h => ⟨?_, fun i hi => rfl⟩⟩, rfl, rfl⟩
    · show 0 ≤ mod.getD i 0 ∧ mod.getD i 0 < (p : Int)
      by_cases hi : i < mod.length
      · exact h5 i hi
      · rw [List.getD_eq_getElem?_getD, List.getElem?_eq_none (by omega)]
        show (0 : Int) ≤ 0 ∧ (0 : Int) < (p : Int)
        omega
    · exact absurd (show m = 1 from h) (by omega)
    · show mod.length = m
      omega
theorem fits_shape {F : Cw.RD} {mod : List Int} (h : Fits F mod) : Shape (F.p : Int) (F.m : Int) mod := by
  have hp2 := F.prm.1
  have hm := F.mpos
  have hm8 := h.m_le
  have hs := h.small
  refine ⟨?_, by rw [Int.toNat_natCast]; exact F.prm, ?_⟩
  · unfold ordV
    rw [Int.toNat_natCast, Int.toNat_natCast, if_pos ⟨by omega, by omega, by omega, hs⟩]
    have := Cw.q_pos F
    omega
  · by_cases h1 : F.m = 1
    · exact Or.inl ⟨by omega, (h.mod1 h1).1⟩
    · obtain ⟨h2, h3⟩ := h.modm h1
      refine Or.inr ⟨by omega, by omega, fun i hi => ?_⟩
      rw [h3 i (by omega)]
      exact h.coef i
theorem fits_ord {F : Cw.RD} {mod : List Int} (h : Fits F mod) : ordV (F.p : Int) (F.m : Int) = ((F.p ^ F.m : Nat) : Int) := by
  have hp2 := F.prm.1
  have hm := F.mpos
  have hm8 := h.m_le
  have hs := h.small
  unfold ordV
  rw [Int.toNat_natCast, Int.toNat_natCast, if_pos ⟨by omega, by omega, by omega, hs⟩]
theorem range_loop (P M : Int) (mod : List Int) (hml : (mod.length : Int) = M) (hm8 : M ≤ 8) : ∀ e i, i + e = mod.length → (∀ t, t < i → 0 ≤ mod.getD t 0 ∧ mod.getD t 0 < P) →
    ((∀ t, t < mod.length → 0 ≤ mod.getD t 0 ∧ mod.getD t 0 < P) ∧ Ev (fun k => field_shape.l0 k mod (mod.length : Int) (i : Int) P M mod) true ∧ (∀ b, Ev (fun k => codewrightref04_Check.l0 k (mod.length : Int) P M mod) b → Ev (fun k => codewrightref04_Check.l0 k (i : Int) P M mod) b)) ∨
    ((¬ ∀ t, t < mod.length → 0 ≤ mod.getD t 0 ∧ mod.getD t 0 < P) ∧ Ev (fun k => field_shape.l0 k mod (mod.length : Int) (i : Int) P M mod) false ∧ Ev (fun k => codewrightref04_Check.l0 k (i : Int) P M mod) 1) := by
  intro e
  induction e with
  | zero =>
    intro i hi h
    obtain rfl : i = mod.length := by omega
    refine Or.inl ⟨h, ?_, fun b hb => hb⟩
    refine Ev.step (f := fun _ => some _) (fun k => ?_) (Ev.now _)
    simp only [field_shape.l0]
    rw [if_neg (by omega)]
  | succ e ih =>
    intro i hi h
    have hil : (i : Int) < (mod.length : Int) := by omega
    have hi0 : (0 : Int) ≤ (i : Int) := by omega
    have hi1 : wrap64 ((i : Int) + 1) = ((i + 1 : Nat) : Int) := by rw [w64 (by omega) (by omega)]; rfl
    have hr : rd mod (i : Int) = mod.getD i 0 := by unfold rd; rw [Int.toNat_natCast]
    have hiM : (i : Int) < M := by omega
    by_cases h1 : mod.getD i 0 < 0
    · refine Or.inr ⟨fun hh => by have := (hh i (by omega)).1; omega, ?_, ?_⟩
      · refine Ev.step (f := fun _ => some _) (fun k => ?_) (Ev.now _)
        simp only [field_shape.l0]
        rw [if_pos hil, if_pos hi0, if_pos hil, hr, if_pos h1]
      · refine Ev.step (f := fun _ => some _) (fun k => ?_) (Ev.now _)
        simp only [codewrightref04_Check.l0]
        rw [if_pos hiM, if_pos hi0, if_pos hil, hr, if_pos h1]
    by_cases h2 : mod.getD i 0 ≥ P
    · refine Or.inr ⟨fun hh => by have := (hh i (by omega)).2; omega, ?_, ?_⟩
      · refine Ev.step (f := fun _ => some _) (fun k => ?_) (Ev.now _)
        simp only [field_shape.l0]
        rw [if_pos hil, if_pos hi0, if_pos hil, hr, if_neg h1, if_pos h2]
      · refine Ev.step (f := fun _ => some _) (fun k => ?_) (Ev.now _)
        simp only [codewrightref04_Check.l0]
        rw [if_pos hiM, if_pos hi0, if_pos hil, hr, if_neg h1, if_pos h2]
    have s1 : ∀ b, Ev (fun k => field_shape.l0 k mod (mod.length : Int) ((i + 1 : Nat) : Int) P M mod) b → Ev (fun k => field_shape.l0 k mod (mod.length : Int) (i : Int) P M mod) b := fun b hb => by
      refine Ev.step (fun k => ?_) hb
      simp only [field_shape.l0]
      rw [if_pos hil, if_pos hi0, if_pos hil, hr, if_neg h1, if_neg h2, hi1]
    have s2 : ∀ b, Ev (fun k => codewrightref04_Check.l0 k ((i + 1 : Nat) : Int) P M mod) b → Ev (fun k => codewrightref04_Check.l0 k (i : Int) P M mod) b := fun b hb => by
      refine Ev.step (fun k => ?_) hb
      simp only [codewrightref04_Check.l0]
      rw [if_pos hiM, if_pos hi0, if_pos hil, hr, if_neg h1, if_neg h2, hi1]
    rcases ih (i + 1) (by omega) (fun t ht => by
      by_cases hti : t = i
      · rw [hti]; omega
      · exact h t (by omega)) with ⟨a1, a2, a3⟩ | ⟨a1, a2, a3⟩
    · exact Or.inl ⟨a1, s1 _ a2, fun b hb => s2 _ (a3 b hb)⟩
    · exact Or.inr ⟨a1, s1 _ a2, s2 _ a3⟩
open Classical in
theorem shape_check (P M : Int) (mod : List Int) (hP : P < 9223372036854775808) :
    (¬ Shape P M mod ∧ Ev (fun k => field_shape.f k P M mod) false ∧ Ev (fun k => codewrightref04_Check.f k P M mod) 1) ∨
    (∃ F : Cw.RD, Fits F mod ∧ (F.p : Int) = P ∧ (F.m : Int) = M ∧ Ev (fun k => field_shape.f k P M mod) true ∧ Ev (fun k => codewrightref04_Check.f k P M mod) (if Cw.Dom (Cw.El F) then 0 else 1)) := by
  have ho := order_ev P M
  have ho4 := order04_ev P M mod hP
  by_cases h1 : ordV P M = 0
  · refine Or.inl ⟨fun h => h.1 h1, ?_, ?_⟩
    · rw [h1] at ho
      refine Ev.bind ho (Ev.congr (fun k => if_pos rfl) (Ev.step (f := fun _ => some _) (fun k => ?_) (Ev.now _)))
      simp only [field_shape.j0]; rfl
    · rw [h1] at ho4
      refine Ev.bind ho4 (Ev.congr (fun k => if_pos rfl) (Ev.step (f := fun _ => some _) (fun k => ?_) (Ev.now _)))
      simp only [codewrightref04_Check.j0]; rfl
  obtain ⟨p, m, rfl, rfl, hp1, hp2, hm1, hm2, hq, hov⟩ := ordV_pos h1
  have ip := isPrime_ev p (by omega) hp1
  have ip4 := prime04_ev p (by omega) hp1
  have s1 : ∀ b, Ev (fun k => field_shape.j0 k (!decide (Cw.Prm p)) (p : Int) (m : Int) mod) b → Ev (fun k => field_shape.f k (p : Int) (m : Int) mod) b := fun b hb => Ev.bind ho (Ev.congr (fun k => if_neg h1) (Ev.bind ip hb))
  have s2 : ∀ b, Ev (fun k => codewrightref04_Check.j0 k (!decide (Cw.Prm p)) (p : Int) (m : Int) mod) b → Ev (fun k => codewrightref04_Check.f k (p : Int) (m : Int) mod) b := fun b hb => Ev.bind ho4 (Ev.congr (fun k => if_neg h1) (Ev.bind ip4 hb))
  by_cases hpr : Cw.Prm p
  · rw [decide_eq_true hpr] at s1 s2
    by_cases hm : m = 1
    · by_cases hl : mod = []
      · have hS : Shape (p : Int) (m : Int) mod := ⟨h1, by rw [Int.toNat_natCast]; exact hpr, Or.inl ⟨by omega, hl⟩⟩
        obtain ⟨F, hF, e1, e2⟩ := shape_fits hS
        refine Or.inr ⟨F, hF, e1, e2, s1 _ ?_, s2 _ ?_⟩
        · refine Ev.step (f := fun _ => some _) (fun k => ?_) (Ev.now _)
          simp only [field_shape.j0]
          rw [if_neg (by decide), if_pos (by omega), hl]; rfl
        · rw [if_pos (dom_one (by omega))]
          refine Ev.step (f := fun _ => some _) (fun k => ?_) (Ev.now _)
          simp only [codewrightref04_Check.j0]
          rw [if_neg (by decide), if_pos (by omega), hl]; rfl
      · have hl0 : ¬ (mod.length : Int) = 0 := fun h => hl (List.length_eq_zero_iff.1 (by omega))
        refine Or.inl ⟨fun h => ?_, s1 _ ?_, s2 _ ?_⟩
        · rcases h.2.2 with h | h
          · exact hl h.2
          · exact h.1 (by omega)
        · refine Ev.step (f := fun _ => some _) (fun k => ?_) (Ev.now _)
          simp only [field_shape.j0]
          rw [if_neg (by decide), if_pos (by omega)]
          congr 1
          exact beq_eq_false_iff_ne.2 hl0
        · refine Ev.step (f := fun _ => some _) (fun k => ?_) (Ev.now _)
          simp only [codewrightref04_Check.j0]
          rw [if_neg (by decide), if_pos (by omega), if_neg hl0]
    · have hmi : ¬ (m : Int) = 1 := by omega
      by_cases hl : (mod.length : Int) = (m : Int)
      · have t1 : ∀ b, Ev (fun k => field_shape.l0 k mod (mod.length : Int) 0 (p : Int) (m : Int) mod) b → Ev (fun k => field_shape.f k (p : Int) (m : Int) mod) b := fun b hb => s1 _ (Ev.step (fun k => by
          simp only [field_shape.j0]
          rw [if_neg (by decide), if_neg hmi, if_pos hl]) hb)
        have t2 : ∀ b, Ev (fun k => codewrightref04_Check.l0 k 0 (p : Int) (m : Int) mod) b → Ev (fun k => codewrightref04_Check.f k (p : Int) (m : Int) mod) b := fun b hb => s2 _ (Ev.step (fun k => by
          simp only [codewrightref04_Check.j0]
          rw [if_neg (by decide), if_neg hmi, if_pos hl]) hb)
        rcases range_loop (p : Int) (m : Int) mod hl (by omega) mod.length 0 (by omega) (fun t ht => by omega) with ⟨a1, a2, a3⟩ | ⟨a1, a2, a3⟩
        · have hS : Shape (p : Int) (m : Int) mod := ⟨h1, by rw [Int.toNat_natCast]; exact hpr, Or.inr ⟨hmi, hl, a1⟩⟩
          obtain ⟨F, hF, e1, e2⟩ := shape_fits hS
          refine Or.inr ⟨F, hF, e1, e2, t1 _ a2, t2 _ (a3 _ ?_)⟩
          have hirr := irreducible_ev hF (by omega)
          rw [e1] at hirr
          refine Ev.step (fun k => by simp only [codewrightref04_Check.l0]; rw [if_neg (by omega)]) (Ev.bind hirr ?_)
          refine Ev.congr (fun k => ?_) (Ev.now _)
          by_cases hd : Cw.Dom (Cw.El F)
          · rw [decide_eq_true hd, if_pos rfl, if_pos hd]
          · rw [decide_eq_false hd, if_neg (by decide), if_neg hd]
        · refine Or.inl ⟨fun h => ?_, t1 _ a2, t2 _ a3⟩
          rcases h.2.2 with h | h
          · exact hmi h.1
          · exact a1 h.2.2
      · refine Or.inl ⟨fun h => ?_, s1 _ ?_, s2 _ ?_⟩
        · rcases h.2.2 with h | h
          · exact hmi h.1
          · exact hl h.2.1
        · refine Ev.step (f := fun _ => some _) (fun k => ?_) (Ev.now _)
          simp only [field_shape.j0]
          rw [if_neg (by decide), if_neg hmi, if_neg hl]
        · refine Ev.step (f := fun _ => some _) (fun k => ?_) (Ev.now _)
          simp only [codewrightref04_Check.j0]
          rw [if_neg (by decide), if_neg hmi, if_neg hl]
  · rw [decide_eq_false hpr] at s1 s2
    refine Or.inl ⟨fun h => hpr (by have := h.2.1; rwa [Int.toNat_natCast] at this), s1 _ ?_, s2 _ ?_⟩
    · refine Ev.step (f := fun _ => some _) (fun k => ?_) (Ev.now _)
      simp only [field_shape.j0]; rfl
    · refine Ev.step (f := fun _ => some _) (fun k => ?_) (Ev.now _)
      simp only [codewrightref04_Check.j0]; rfl
end Go.Proofs.Ytoambdpchjeklaa.Pl
end
