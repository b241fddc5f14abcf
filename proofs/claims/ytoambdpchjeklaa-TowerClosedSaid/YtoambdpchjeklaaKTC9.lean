/- What towerClosed_holds needs: texts D1, D2, put together. -/
import Derived.Test.YtoambdpchjeklaaKTC8
import Derived.Laws.BitsLemmas
import Derived.Laws.StructEq
import Derived.OrdersHeld
set_option linter.unusedVariables false
set_option linter.unusedSimpArgs false
-- D1
section
namespace Go.Proofs.Ytoambdpchjeklaa.Pl
open Go.RowKit Go.Proofs.Ytoambdpchjeklaa.P Go.Proofs.YtoambdpchjeklaaW.PrintWords
theorem w64 {n : Int} (h0 : -9223372036854775808 ≤ n) (h1 : n < 9223372036854775808) : wrap64 n = n := by
 unfold wrap64; omega
theorem w64n (n : Nat) (h : n < 9223372036854775808) : wrap64 (n : Int) = n := w64 (by omega) (by omega)
def ordV (P M : Int) : Int := if 2 ≤ P ∧ 1 ≤ M ∧ M ≤ 8 ∧ P.toNat ^ M.toNat ≤ 256 then ((P.toNat ^ M.toNat : Nat) : Int) else 0
theorem pow_le_of {p i m : Nat} (hp : 2 ≤ p) (h : i ≤ m) : p ^ i ≤ p ^ m := Nat.pow_le_pow_right (by omega) h
theorem order_loop (p m : Nat) (hp : 2 ≤ p) (hp2 : p ≤ 256) (hm : m ≤ 8) : ∀ d i, i + d = m → p ^ i ≤ 256 → Ev (fun k => field_order.l0 k (p : Int) ((p ^ i : Nat) : Int) (m : Int) (i : Int)) (if p ^ m ≤ 256 then ((p ^ m : Nat) : Int) else 0) := by
 intro d
 induction d with
 | zero =>
  intro i hi hle
  obtain rfl : i = m := by omega
  rw [if_pos hle]
  refine Ev.step (f := fun _ => some _) (fun k => ?_) (Ev.now _)
  simp only [field_order.l0]
  rw [if_neg (by omega)]
 | succ d ih =>
  intro i hi hle
  have hb : p ^ i * p ≤ 256 * 256 := Nat.mul_le_mul hle hp2
  have hw : wrap64 (((p ^ i : Nat) : Int) * (p : Int)) = ((p ^ (i + 1) : Nat) : Int) := by
   rw [← Int.natCast_mul, ← Nat.pow_succ]
   exact w64n _ (by rw [Nat.pow_succ]; omega)
  have hw2 : wrap64 ((i : Int) + 1) = ((i + 1 : Nat) : Int) := by rw [w64 (by omega) (by omega)]; rfl
  by_cases hc : p ^ (i + 1) ≤ 256
  ·refine Ev.step (fun k => ?_) (ih (i + 1) (by omega) hc)
   simp only [field_order.l0]
   rw [if_pos (by omega), hw, hw2, if_neg (by omega)]
  ·have hmm : ¬ p ^ m ≤ 256 := fun h => hc (Nat.le_trans (pow_le_of hp (by omega)) h)
   rw [if_neg hmm]
   refine Ev.step (f := fun _ => some _) (fun k => ?_) (Ev.now _)
   simp only [field_order.l0]
   rw [if_pos (by omega), hw, if_pos (by omega)]
theorem order_ev (P M : Int) : Ev (fun k => field_order.f k P M) (ordV P M) := by
 have zero : ordV P M = 0 → Ev (fun k => field_order.j0 k P M true) (ordV P M) := by
  intro h
  rw [h]
  refine Ev.step (f := fun _ => some _) (fun k => ?_) (Ev.now _)
  simp only [field_order.j0]
  rfl
 by_cases h1 : P < 2
 ·refine Ev.congr (fun k => ?_) (zero (by unfold ordV; rw [if_neg (by omega)]))
  unfold field_order.f
  rw [if_pos h1]
 by_cases h2 : P > 256
 ·refine Ev.congr (fun k => ?_) (zero ?_)
  ·unfold field_order.f
   rw [if_neg h1, if_pos h2]
  ·unfold ordV
   rw [if_neg]
   rintro ⟨a, b, c, d⟩
   have := pow_le_of (p := P.toNat) (i := 1) (m := M.toNat) (by omega) (by omega)
   rw [Nat.pow_one] at this
   omega
 by_cases h3 : M < 1
 ·refine Ev.congr (fun k => ?_) (zero (by unfold ordV; rw [if_neg (by omega)]))
  unfold field_order.f
  rw [if_neg h1, if_neg h2, if_pos h3]
 by_cases h4 : M > 8
 ·refine Ev.congr (fun k => ?_) (zero (by unfold ordV; rw [if_neg (by omega)]))
  unfold field_order.f
  rw [if_neg h1, if_neg h2, if_neg h3, decide_eq_true h4]
 obtain ⟨p, rfl⟩ := Int.eq_ofNat_of_zero_le (show 0 ≤ P by omega)
 obtain ⟨m, rfl⟩ := Int.eq_ofNat_of_zero_le (show 0 ≤ M by omega)
 have hl := order_loop p m (by omega) (by omega) (by omega) m 0 (by omega) (by simp)
 have e : (if p ^ m ≤ 256 then ((p ^ m : Nat) : Int) else 0) = ordV p m := by
  unfold ordV
  simp only [Int.toNat_natCast]
  by_cases hc : p ^ m ≤ 256
  ·rw [if_pos hc, if_pos ⟨by omega, by omega, by omega, hc⟩]
  ·rw [if_neg hc, if_neg (fun h => hc h.2.2.2)]
 rw [e] at hl
 refine Ev.congr (f := fun k => field_order.j0 k (p : Int) (m : Int) false) (fun k => ?_) ?_
 ·unfold field_order.f
  rw [if_neg h1, if_neg h2, if_neg h3, decide_eq_false h4]
 ·refine Ev.step (fun k => ?_) hl
  simp only [field_order.j0]
  rw [if_neg (by simp)]
  rfl
theorem order04_loop (p m : Nat) (hp : 2 ≤ p) (hm : m ≤ 8) (l : List Int) (hpw : (p : Int) < 9223372036854775808) : ∀ d i, i + d = m → p ^ i ≤ 256 → Ev (fun k => r4Order.l0 k ((p ^ i : Nat) : Int) (i : Int) (p : Int) (m : Int) l) (if p ^ m ≤ 256 then ((p ^ m : Nat) : Int) else 0) := by
 intro d
 induction d with
 | zero =>
  intro i hi hle
  obtain rfl : i = m := by omega
  rw [if_pos hle]
  refine Ev.step (f := fun _ => some _) (fun k => ?_) (Ev.now _)
  simp only [r4Order.l0]
  rw [if_neg (by omega)]
 | succ d ih =>
  intro i hi hle
  have hd : wrap64 (Int.tdiv 256 (p : Int)) = ((256 / p : Nat) : Int) := by
   rw [show (256 : Int) = ((256 : Nat) : Int) from rfl, Cw.tdiv_nat]
   exact w64n _ (by have := Nat.div_le_self 256 p; omega)
  have hw2 : wrap64 ((i : Int) + 1) = ((i + 1 : Nat) : Int) := by rw [w64 (by omega) (by omega)]; rfl
  have hiff : p ^ (i + 1) ≤ 256 ↔ p ^ i ≤ 256 / p := by
   rw [Nat.le_div_iff_mul_le (by omega), Nat.pow_succ]
  by_cases hc : p ^ (i + 1) ≤ 256
  ·have hw : wrap64 (((p ^ i : Nat) : Int) * (p : Int)) = ((p ^ (i + 1) : Nat) : Int) := by
    rw [← Int.natCast_mul, ← Nat.pow_succ]
    exact w64n _ (Nat.lt_of_le_of_lt hc (by omega))
   refine Ev.step (fun k => ?_) (ih (i + 1) (by omega) hc)
   have := hiff.1 hc
   simp only [r4Order.l0]
   rw [if_pos (by omega), if_neg (by omega), hd, if_neg (by omega), hw, hw2]
  ·have hmm : ¬ p ^ m ≤ 256 := fun h => hc (Nat.le_trans (pow_le_of hp (by omega)) h)
   have : ¬ p ^ i ≤ 256 / p := fun h => hc (hiff.2 h)
   rw [if_neg hmm]
   refine Ev.step (f := fun _ => some _) (fun k => ?_) (Ev.now _)
   simp only [r4Order.l0]
   rw [if_pos (by omega), if_neg (by omega), hd, if_pos (by omega)]
theorem order04_ev (P M : Int) (l : List Int) (hP : P < 9223372036854775808) : Ev (fun k => r4Order.f k P M l) (ordV P M) := by
 have zero : ordV P M = 0 → Ev (fun k => r4Order.j0 k true P M l) (ordV P M) := by
  intro h
  rw [h]
  refine Ev.step (f := fun _ => some _) (fun k => ?_) (Ev.now _)
  simp only [r4Order.j0]
  rfl
 by_cases h1 : P < 2
 ·refine Ev.congr (fun k => ?_) (zero (by unfold ordV; rw [if_neg (by omega)]))
  unfold r4Order.f
  rw [if_pos h1]
 by_cases h3 : M < 1
 ·refine Ev.congr (fun k => ?_) (zero (by unfold ordV; rw [if_neg (by omega)]))
  unfold r4Order.f
  rw [if_neg h1, if_pos h3]
 by_cases h4 : M > 8
 ·refine Ev.congr (fun k => ?_) (zero (by unfold ordV; rw [if_neg (by omega)]))
  unfold r4Order.f
  rw [if_neg h1, if_neg h3, decide_eq_true h4]
 obtain ⟨p, rfl⟩ := Int.eq_ofNat_of_zero_le (show 0 ≤ P by omega)
 obtain ⟨m, rfl⟩ := Int.eq_ofNat_of_zero_le (show 0 ≤ M by omega)
 have hl := order04_loop p m (by omega) (by omega) l hP m 0 (by omega) (by simp)
 have e : (if p ^ m ≤ 256 then ((p ^ m : Nat) : Int) else 0) = ordV p m := by
  unfold ordV
  simp only [Int.toNat_natCast]
  by_cases hc : p ^ m ≤ 256
  ·rw [if_pos hc, if_pos ⟨by omega, by omega, by omega, hc⟩]
  ·rw [if_neg hc, if_neg (fun h => hc h.2.2.2)]
 rw [e] at hl
 refine Ev.congr (f := fun k => r4Order.j0 k false (p : Int) (m : Int) l) (fun k => ?_) ?_
 ·unfold r4Order.f
  rw [if_neg h1, if_neg h3, decide_eq_false h4]
 ·refine Ev.step (fun k => ?_) hl
  simp only [r4Order.j0]
  rw [if_neg (by simp)]
  rfl
theorem ordV_pos {P M : Int} (h : ordV P M ≠ 0) : ∃ p m : Nat, P = p ∧ M = m ∧ 2 ≤ p ∧ p ≤ 256 ∧ 1 ≤ m ∧ m ≤ 8 ∧ p ^ m ≤ 256 ∧ ordV P M = ((p ^ m : Nat) : Int) := by
 unfold ordV at h ⊢
 by_cases hc : 2 ≤ P ∧ 1 ≤ M ∧ M ≤ 8 ∧ P.toNat ^ M.toNat ≤ 256
 ·rw [if_pos hc]
  have := pow_le_of (p := P.toNat) (i := 1) (m := M.toNat) (by omega) (by omega)
  rw [Nat.pow_one] at this
  exact ⟨P.toNat, M.toNat, by omega, by omega, by omega, by omega, by omega, by omega, hc.2.2.2, rfl⟩
 ·rw [if_neg hc] at h
  exact absurd rfl h
open Classical in
theorem prime_none {n d : Nat} (h : ∀ e, 2 ≤ e → e < d → ¬ e ∣ n) (hn : 2 ≤ n) (hd : n < d * d) : Cw.Prm n := by
 refine ⟨hn, fun e he => ?_⟩
 obtain ⟨f, hf⟩ := he
 by_cases h1 : e = 1
 ·exact Or.inl h1
 by_cases h2 : e = n
 ·exact Or.inr h2
 exfalso
 have e0 : e ≠ 0 := by rintro rfl; omega
 have f0 : f ≠ 0 := by rintro rfl; omega
 have f1 : f ≠ 1 := by rintro rfl; omega
 have a := h e (by omega)
 have b := h f (by omega)
 have ha : d ≤ e := by
  by_cases hh : d ≤ e
  ·exact hh
  ·exact absurd ⟨f, hf⟩ (a (by omega))
 have hb : d ≤ f := by
  by_cases hh : d ≤ f
  ·exact hh
  ·exact absurd ⟨e, by rw [hf, Nat.mul_comm]⟩ (b (by omega))
 have := Nat.mul_le_mul ha hb
 omega
theorem not_prm {n d : Nat} (hd : 2 ≤ d) (hn : d < n) (h : d ∣ n) : ¬ Cw.Prm n := fun hp => by
 rcases hp.2 d h with h | h <;> omega
open Classical in
theorem isPrime_loop (n : Nat) (hn : n ≤ 65536) (hn2 : 2 ≤ n) : ∀ g d, d + g = 300 → 2 ≤ d → (∀ e, 2 ≤ e → e < d → ¬ e ∣ n) → Ev (fun k => field_isPrime.l0 k (n : Int) (d : Int)) (decide (Cw.Prm n)) := by
 intro g
 induction g with
 | zero =>
  intro d hd h2 h
  obtain rfl : d = 300 := by omega
  refine Ev.step (f := fun _ => some _) (fun k => ?_) (Ev.now _)
  simp only [field_isPrime.l0]
  rw [w64 (by omega) (by omega), if_neg (by omega), decide_eq_true (prime_none h hn2 (by omega)), decide_eq_true (by omega)]
 | succ g ih =>
  intro d hd h2 h
  have hdd : d * d ≤ 300 * 300 := Nat.mul_le_mul (by omega) (by omega)
  have hw : wrap64 ((d : Int) * (d : Int)) = ((d * d : Nat) : Int) := by
   rw [← Int.natCast_mul]
   exact w64n _ (by omega)
  by_cases hc : d * d ≤ n
  ·by_cases hdv : d ∣ n
   ·have hlt : d < n := by
     have : 2 * d ≤ d * d := Nat.mul_le_mul_right _ h2
     omega
    refine Ev.step (f := fun _ => some _) (fun k => ?_) (Ev.now _)
    simp only [field_isPrime.l0]
    rw [hw, if_pos (by omega), if_neg (by omega), Cw.tmod_nat, Nat.mod_eq_zero_of_dvd hdv, if_pos (by rfl), decide_eq_false (not_prm h2 hlt hdv)]
   ·refine Ev.step (fun k => ?_) (ih (d + 1) (by omega) (by omega) (fun e he hlt => by
     by_cases hh : e = d
     ·rw [hh]; exact hdv
     ·exact h e he (by omega)))
    simp only [field_isPrime.l0]
    have : n % d ≠ 0 := fun h0 => hdv (Nat.dvd_of_mod_eq_zero h0)
    rw [hw, if_pos (by omega), if_neg (by omega), Cw.tmod_nat, if_neg (by omega), w64 (by omega) (by omega)]
    rfl
  ·refine Ev.step (f := fun _ => some _) (fun k => ?_) (Ev.now _)
   simp only [field_isPrime.l0]
   rw [hw, if_neg (by omega), decide_eq_true (prime_none h hn2 (by omega)), decide_eq_true (by omega)]
open Classical in
theorem isPrime_ev (n : Nat) (hn : n ≤ 65536) (hn2 : 2 ≤ n) : Ev (fun k => field_isPrime.f k (n : Int)) (decide (Cw.Prm n)) :=
 isPrime_loop n hn hn2 298 2 rfl (by omega) (fun e h1 h2 => by omega)
open Classical in
theorem prime04_loop (n : Nat) (hn : n ≤ 65536) (hn2 : 2 ≤ n) : ∀ g d, d + g = n → 2 ≤ d → (∀ e, 2 ≤ e → e < d → ¬ e ∣ n) → Ev (fun k => r4prime.l0 k (n : Int) (d : Int)) (decide (Cw.Prm n)) := by
 intro g
 induction g with
 | zero =>
  intro d hd h2 h
  obtain rfl : d = n := by omega
  refine Ev.step (f := fun _ => some _) (fun k => ?_) (Ev.now _)
  simp only [r4prime.l0]
  have : 2 * d ≤ d * d := Nat.mul_le_mul_right _ h2
  rw [if_neg (by omega), decide_eq_true (prime_none h hn2 (by omega))]
 | succ g ih =>
  intro d hd h2 h
  by_cases hdv : d ∣ n
  ·refine Ev.step (f := fun _ => some _) (fun k => ?_) (Ev.now _)
   simp only [r4prime.l0]
   rw [if_pos (by omega), if_neg (by omega), Cw.tmod_nat, Nat.mod_eq_zero_of_dvd hdv, if_pos (by rfl), decide_eq_false (not_prm h2 (by omega) hdv)]
  ·refine Ev.step (fun k => ?_) (ih (d + 1) (by omega) (by omega) (fun e he hlt => by
    by_cases hh : e = d
    ·rw [hh]; exact hdv
    ·exact h e he (by omega)))
   simp only [r4prime.l0]
   have : n % d ≠ 0 := fun h0 => hdv (Nat.dvd_of_mod_eq_zero h0)
   rw [if_pos (by omega), if_neg (by omega), Cw.tmod_nat, if_neg (by omega), w64 (by omega) (by omega)]
   rfl
open Classical in
theorem prime04_ev (n : Nat) (hn : n ≤ 65536) (hn2 : 2 ≤ n) : Ev (fun k => r4prime.f k (n : Int)) (decide (Cw.Prm n)) := by
 obtain ⟨g, hg⟩ := Nat.le.dest hn2
 exact prime04_loop n hn hn2 g 2 hg (by omega) (fun e h1 h2 => by omega)
end Go.Proofs.Ytoambdpchjeklaa.Pl
end
-- D2
section
namespace Go.Proofs.Ytoambdpchjeklaa.Pl
open Go.RowKit Go.Proofs.Ytoambdpchjeklaa.P Go.Proofs.YtoambdpchjeklaaW.PrintWords
def ints (l : List Nat) : List Int := l.map (fun a : Nat => (a : Int))
theorem ints_length (l : List Nat) : (ints l).length = l.length := by simp [ints]
theorem ints_append (a b : List Nat) : ints (a ++ b) = ints a ++ ints b := by simp [ints]
theorem ints_cons (a : Nat) (b : List Nat) : ints (a :: b) = (a : Int) :: ints b := rfl
theorem ints_zero (d : Nat) : List.replicate d (0 : Int) = ints (List.replicate d 0) := by simp [ints]
theorem rd_at {a b : List Int} {x : Int} {i : Int} (h : i = (a.length : Int)) : rd (a ++ x :: b) i = x := by
 subst h
 unfold rd
 rw [Int.toNat_natCast, List.getD_eq_getElem?_getD, List.getElem?_append_right (Nat.le_refl _)]
 simp
theorem rd_ints (l : List Nat) (i : Nat) : rd (ints l) (i : Int) = ((l.getD i 0 : Nat) : Int) := by
 unfold rd ints
 rw [Int.toNat_natCast, List.getD_eq_getElem?_getD, List.getD_eq_getElem?_getD, List.getElem?_map]
 cases l[i]? <;> rfl
theorem set_at {a b : List Int} {x y : Int} {i : Nat} (h : i = a.length) : (a ++ x :: b).set i y = a ++ y :: b := by
 subst h
 rw [List.set_append_right _ _ (Nat.le_refl _), Nat.sub_self]
 rfl
theorem digitsOf_loop (p : Nat) (hp : 0 < p) (m : Nat) (hm : m < 4294967296) : ∀ (d : Nat) (y : Nat) (A : List Nat), y < 4294967296 → A.length + d = m →
  Ev (fun k => field_digitsOf.l0 k (y : Int) (p : Int) (ints (A ++ List.replicate d 0)) (m : Int) (A.length : Int)) (ints (A ++ Cw.dg p d y)) := by
 intro d
 induction d with
 | zero =>
  intro y A hy hA
  refine Ev.step (f := fun _ => some _) (fun k => ?_) (Ev.now _)
  simp only [field_digitsOf.l0]
  rw [if_neg (by omega)]
  rfl
 | succ d ih =>
  intro y A hy hA
  have h := ih (y / p) (A ++ [y % p]) (Nat.lt_of_le_of_lt (Nat.div_le_self _ _) hy) (by simp; omega)
  have e : A ++ Cw.dg p (d + 1) y = (A ++ [y % p]) ++ Cw.dg p d (y / p) := by simp [Cw.dg]
  rw [e]
  refine Ev.step (fun k => ?_) h
  simp only [field_digitsOf.l0]
  have hd := Nat.div_le_self y p
  have hs : (ints (A ++ List.replicate (d + 1) 0)).set A.length (((y % p : Nat)) : Int) = ints (A ++ [y % p] ++ List.replicate d 0) := by
   rw [List.replicate_succ, ints_append, ints_cons, set_at (by rw [ints_length]), List.append_assoc, ints_append]
   rfl
  rw [if_pos (by omega), if_neg (by omega), if_pos (by omega), if_pos (by rw [ints_length, List.length_append, List.length_replicate]; omega), Cw.tdiv_nat, Cw.tmod_nat, w64n _ (by omega), w64 (by omega) (by omega), Int.toNat_natCast, hs]
  rw [List.length_append]
  rfl
theorem digitsOf_ev (x p m : Nat) (hx : x < 4294967296) (hp : 0 < p) (hm : m < 4294967296) : Ev (fun k => field_digitsOf.f k (x : Int) (p : Int) (m : Int)) (ints (Cw.dg p m x)) := by
 have h := digitsOf_loop p hp m hm m x [] hx (by simp)
 refine Ev.congr (fun k => ?_) h
 unfold field_digitsOf.f
 rw [if_pos (by omega), if_pos (by omega), Option.bind_some, Int.toNat_natCast, ints_zero, ints_length, List.length_replicate]
 rfl
theorem digits04_loop (p : Nat) (hp : 0 < p) (m : Nat) (hm : m < 4294967296) : ∀ (d : Nat) (y : Nat) (A : List Nat), y < 4294967296 → A.length + d = m →
  Ev (fun k => r4digits.l0 k (y : Int) (p : Int) (m : Int) (ints (A ++ List.replicate d 0)) (A.length : Int)) (ints (A ++ Cw.dg p d y)) := by
 intro d
 induction d with
 | zero =>
  intro y A hy hA
  refine Ev.step (f := fun _ => some _) (fun k => ?_) (Ev.now _)
  simp only [r4digits.l0]
  rw [if_neg (by omega)]
  rfl
 | succ d ih =>
  intro y A hy hA
  have h := ih (y / p) (A ++ [y % p]) (Nat.lt_of_le_of_lt (Nat.div_le_self _ _) hy) (by simp; omega)
  have e : A ++ Cw.dg p (d + 1) y = (A ++ [y % p]) ++ Cw.dg p d (y / p) := by simp [Cw.dg]
  rw [e]
  refine Ev.step (fun k => ?_) h
  simp only [r4digits.l0]
  have hd := Nat.div_le_self y p
  have hs : (ints (A ++ List.replicate (d + 1) 0)).set A.length (((y % p : Nat)) : Int) = ints (A ++ [y % p] ++ List.replicate d 0) := by
   rw [List.replicate_succ, ints_append, ints_cons, set_at (by rw [ints_length]), List.append_assoc, ints_append]
   rfl
  rw [if_pos (by omega), if_neg (by omega), if_pos (by omega), if_pos (by rw [ints_length, List.length_append, List.length_replicate]; omega), Cw.tdiv_nat, Cw.tmod_nat, w64n _ (by omega), w64 (by omega) (by omega), Int.toNat_natCast, hs]
  rw [List.length_append]
  rfl
theorem digits04_ev (x p m : Nat) (hx : x < 4294967296) (hp : 0 < p) (hm : m < 4294967296) : Ev (fun k => r4digits.f k (x : Int) (p : Int) (m : Int)) (ints (Cw.dg p m x)) := by
 have h := digits04_loop p hp m hm m x [] hx (by simp)
 refine Ev.congr (fun k => ?_) h
 unfold r4digits.f
 rw [if_pos (by omega), if_pos (by omega), Int.toNat_natCast, ints_zero]
 rfl
theorem cd_le {p : Nat} {l : List Nat} (hl : ∀ a, a ∈ l → a < p) (hs : p ^ l.length ≤ 65536) : Cw.cd p l < 65536 := Nat.lt_of_lt_of_le (Cw.cd_lt l hl) hs
theorem pow_suffix {p : Nat} (hp : 0 < p) (A B : List Nat) (hs : p ^ (A ++ B).length ≤ 65536) : p ^ B.length ≤ 65536 := by
 rw [List.length_append] at hs
 exact Nat.le_trans (Nat.pow_le_pow_right hp (by omega)) hs
theorem valueOf_loop (p : Nat) (hp : 0 < p) (hp2 : p ≤ 65536) : ∀ (n : Nat) (A B : List Nat), A.length = n → (∀ a, a ∈ A ++ B → a < p) → p ^ (A ++ B).length ≤ 65536 → (A ++ B).length ≤ 65536 →
  Ev (fun k => field_valueOf.l0 k (ints (A ++ B)) (p : Int) (Cw.cd p B : Int) ((n : Int) - 1)) (Cw.cd p (A ++ B) : Int) := by
 intro n
 induction n with
 | zero =>
  intro A B hA hl hs hb
  obtain rfl := List.length_eq_zero_iff.1 hA
  refine Ev.step (f := fun _ => some _) (fun k => ?_) (Ev.now _)
  simp only [field_valueOf.l0]
  rw [if_neg (by omega)]
  rfl
 | succ n ih =>
  intro A B hA hl hs hb
  obtain ⟨A', a, rfl⟩ := Cw.snoc_ex A (by rintro rfl; simp at hA)
  simp at hA
  have e : A' ++ [a] ++ B = A' ++ (a :: B) := by simp
  rw [e] at hl hs hb ⊢
  have h := ih A' (a :: B) hA hl hs hb
  refine Ev.step (fun k => ?_) h
  simp only [field_valueOf.l0]
  have hB := cd_le (p := p) (l := B) (fun x hx => hl x (by simp [hx])) (by
   have := pow_suffix hp (A' ++ [a]) B (by rw [e]; exact hs)
   exact this)
  have ha := hl a (by simp)
  have hm : Cw.cd p B * p ≤ 65536 * 65536 := Nat.mul_le_mul (by omega) hp2
  have hr : rd (ints (A' ++ a :: B)) (((n + 1 : Nat) : Int) - 1) = (a : Int) := by
   rw [ints_append, ints_cons]
   exact rd_at (by rw [ints_length]; omega)
  have hv : Cw.cd p (a :: B) = Cw.cd p B * p + a := by simp [Cw.cd, Nat.mul_comm, Nat.add_comm]
  rw [if_pos (by omega), if_pos (by omega), if_pos (by rw [ints_length, List.length_append, List.length_cons]; omega), hr, ← Int.natCast_mul, w64n _ (by omega), ← Int.natCast_add, w64n _ (by omega), w64 (by omega) (by rw [List.length_append] at hb; omega), ← hv]
  congr 1
  omega
theorem valueOf_ev (p : Nat) (l : List Nat) (hp : 0 < p) (hp2 : p ≤ 65536) (hl : ∀ a, a ∈ l → a < p) (hs : p ^ l.length ≤ 65536) (hb : l.length ≤ 65536) : Ev (fun k => field_valueOf.f k (ints l) (p : Int)) (Cw.cd p l : Int) := by
 have h := valueOf_loop p hp hp2 l.length l [] rfl (by simpa using hl) (by simpa using hs) (by simpa using hb)
 rw [List.append_nil] at h
 refine Ev.congr (fun k => ?_) h
 unfold field_valueOf.f
 rw [ints_length, w64 (by omega) (by omega)]
 rfl
theorem value04_loop (p : Nat) (hp : 0 < p) (hp2 : p ≤ 65536) (M : Int) (l : List Int) : ∀ (n : Nat) (A B : List Nat), A.length = n → (∀ a, a ∈ A ++ B → a < p) → p ^ (A ++ B).length ≤ 65536 → (A ++ B).length ≤ 65536 →
  Ev (fun k => r4Value.l0 k (ints (A ++ B)) (Cw.cd p B : Int) ((n : Int) - 1) (p : Int) M l) (Cw.cd p (A ++ B) : Int) := by
 intro n
 induction n with
 | zero =>
  intro A B hA hl hs hb
  obtain rfl := List.length_eq_zero_iff.1 hA
  refine Ev.step (f := fun _ => some _) (fun k => ?_) (Ev.now _)
  simp only [r4Value.l0]
  rw [if_neg (by omega)]
  rfl
 | succ n ih =>
  intro A B hA hl hs hb
  obtain ⟨A', a, rfl⟩ := Cw.snoc_ex A (by rintro rfl; simp at hA)
  simp at hA
  have e : A' ++ [a] ++ B = A' ++ (a :: B) := by simp
  rw [e] at hl hs hb ⊢
  have h := ih A' (a :: B) hA hl hs hb
  refine Ev.step (fun k => ?_) h
  simp only [r4Value.l0]
  have hB := cd_le (p := p) (l := B) (fun x hx => hl x (by simp [hx])) (by
   have := pow_suffix hp (A' ++ [a]) B (by rw [e]; exact hs)
   exact this)
  have ha := hl a (by simp)
  have hm : Cw.cd p B * p ≤ 65536 * 65536 := Nat.mul_le_mul (by omega) hp2
  have hr : rd (ints (A' ++ a :: B)) (((n + 1 : Nat) : Int) - 1) = (a : Int) := by
   rw [ints_append, ints_cons]
   exact rd_at (by rw [ints_length]; omega)
  have hv : Cw.cd p (a :: B) = Cw.cd p B * p + a := by simp [Cw.cd, Nat.mul_comm, Nat.add_comm]
  rw [if_pos (by omega), if_pos (by omega), if_pos (by rw [ints_length, List.length_append, List.length_cons]; omega), hr, ← Int.natCast_mul, w64n _ (by omega), ← Int.natCast_add, w64n _ (by omega), w64 (by omega) (by rw [List.length_append] at hb; omega), ← hv]
  congr 1
  omega
theorem value04_ev (p : Nat) (l : List Nat) (M : Int) (mod : List Int) (hp : 0 < p) (hp2 : p ≤ 65536) (hl : ∀ a, a ∈ l → a < p) (hs : p ^ l.length ≤ 65536) (hb : l.length ≤ 65536) : Ev (fun k => r4Value.f k (p : Int) M mod (ints l)) (Cw.cd p l : Int) := by
 have h := value04_loop p hp hp2 M mod l.length l [] rfl (by simpa using hl) (by simpa using hs) (by simpa using hb)
 rw [List.append_nil] at h
 refine Ev.congr (fun k => ?_) h
 unfold r4Value.f
 rw [ints_length, w64 (by omega) (by omega)]
 rfl
end Go.Proofs.Ytoambdpchjeklaa.Pl
end
