/- What dlogReaches_holds needs: texts D2, Pa5, Pa6, Q1, put together. -/
import Derived.Test.YtbohbfggmnjpdaaKLR8
import Derived.Laws.BitsLemmas
import Derived.Laws.StructEq
import Derived.OrdersHeld
set_option linter.unusedVariables false
set_option linter.unusedSimpArgs false
-- D2
section
namespace Go.Proofs.Ytbohbfggmnjpdaa.Pl
open Go.RowKit Go.Proofs.Ytbohbfggmnjpdaa.P Go.Proofs.YtbohbfggmnjpdaaW.PrintWords
def ints (l : List Nat) : List Int := l.map (fun a : Nat => (a : Int))
theorem ints_length (l : List Nat) : (ints l).length = l.length := by simp [ints]
theorem ints_append (a b : List Nat) : ints (a ++ b) = ints a ++ ints b := by simp [ints]
theorem ints_cons (a : Nat) (b : List Nat) : ints (a :: b) = (a : Int) :: ints b := rfl
theorem ints_zero (d : Nat) : List.replicate d (0 : Int) = ints (List.replicate d 0) := by simp [ints]
theorem rd_at {a b : List Int} {x : Int} {i : Int} (h : i = (a.length : Int)) : rd (a ++ x :: b) i = x := by
 subst h
 unfold rd
 rw [Int.toNat_natCast, List.getD_eq_getElem?_getD, List.getElem?_append_right (Nat.le_refl _)]
 simp
theorem rd_ints (l : List Nat) (i : Nat) : rd (ints l) (i : Int) = ((l.getD i 0 : Nat) : Int) := by
 unfold rd ints
 rw [Int.toNat_natCast, List.getD_eq_getElem?_getD, List.getD_eq_getElem?_getD, List.getElem?_map]
 cases l[i]? <;> rfl
theorem set_at {a b : List Int} {x y : Int} {i : Nat} (h : i = a.length) : (a ++ x :: b).set i y = a ++ y :: b := by
 subst h
 rw [List.set_append_right _ _ (Nat.le_refl _), Nat.sub_self]
 rfl
theorem digitsOf_loop (p : Nat) (hp : 0 < p) (m : Nat) (hm : m < 4294967296) : ∀ (d : Nat) (y : Nat) (A : List Nat), y < 4294967296 → A.length + d = m →
  Ev (fun k => field_digitsOf.l0 k (y : Int) (p : Int) (ints (A ++ List.replicate d 0)) (m : Int) (A.length : Int)) (ints (A ++ Cw.dg p d y)) := by
 intro d
 induction d with
 | zero =>
  intro y A hy hA
  refine Ev.step (f := fun _ => some _) (fun k => ?_) (Ev.now _)
  simp only [field_digitsOf.l0]
  rw [if_neg (by omega)]
  rfl
 | succ d ih =>
  intro y A hy hA
  have h := ih (y / p) (A ++ [y % p]) (Nat.lt_of_le_of_lt (Nat.div_le_self _ _) hy) (by simp; omega)
  have e : A ++ Cw.dg p (d + 1) y = (A ++ [y % p]) ++ Cw.dg p d (y / p) := by simp [Cw.dg]
  rw [e]
  refine Ev.step (fun k => ?_) h
  simp only [field_digitsOf.l0]
  have hd := Nat.div_le_self y p
  have hs : (ints (A ++ List.replicate (d + 1) 0)).set A.length (((y % p : Nat)) : Int) = ints (A ++ [y % p] ++ List.replicate d 0) := by
   rw [List.replicate_succ, ints_append, ints_cons, set_at (by rw [ints_length]), List.append_assoc, ints_append]
   rfl
  rw [if_pos (by omega), if_neg (by omega), if_pos (by omega), if_pos (by rw [ints_length, List.length_append, List.length_replicate]; omega), Cw.tdiv_nat, Cw.tmod_nat, w64n _ (by omega), w64 (by omega) (by omega), Int.toNat_natCast, hs]
  rw [List.length_append]
  rfl
theorem digitsOf_ev (x p m : Nat) (hx : x < 4294967296) (hp : 0 < p) (hm : m < 4294967296) : Ev (fun k => field_digitsOf.f k (x : Int) (p : Int) (m : Int)) (ints (Cw.dg p m x)) := by
 have h := digitsOf_loop p hp m hm m x [] hx (by simp)
 refine Ev.congr (fun k => ?_) h
 unfold field_digitsOf.f
 rw [if_pos (by omega), if_pos (by omega), Option.bind_some, Int.toNat_natCast, ints_zero, ints_length, List.length_replicate]
 rfl
theorem digits04_loop (p : Nat) (hp : 0 < p) (m : Nat) (hm : m < 4294967296) : ∀ (d : Nat) (y : Nat) (A : List Nat), y < 4294967296 → A.length + d = m →
  Ev (fun k => r4digits.l0 k (y : Int) (p : Int) (m : Int) (ints (A ++ List.replicate d 0)) (A.length : Int)) (ints (A ++ Cw.dg p d y)) := by
 intro d
 induction d with
 | zero =>
  intro y A hy hA
  refine Ev.step (f := fun _ => some _) (fun k => ?_) (Ev.now _)
  simp only [r4digits.l0]
  rw [if_neg (by omega)]
  rfl
 | succ d ih =>
  intro y A hy hA
  have h := ih (y / p) (A ++ [y % p]) (Nat.lt_of_le_of_lt (Nat.div_le_self _ _) hy) (by simp; omega)
  have e : A ++ Cw.dg p (d + 1) y = (A ++ [y % p]) ++ Cw.dg p d (y / p) := by simp [Cw.dg]
  rw [e]
  refine Ev.step (fun k => ?_) h
  simp only [r4digits.l0]
  have hd := Nat.div_le_self y p
  have hs : (ints (A ++ List.replicate (d + 1) 0)).set A.length (((y % p : Nat)) : Int) = ints (A ++ [y % p] ++ List.replicate d 0) := by
   rw [List.replicate_succ, ints_append, ints_cons, set_at (by rw [ints_length]), List.append_assoc, ints_append]
   rfl
  rw [if_pos (by omega), if_neg (by omega), if_pos (by omega), if_pos (by rw [ints_length, List.length_append, List.length_replicate]; omega), Cw.tdiv_nat, Cw.tmod_nat, w64n _ (by omega), w64 (by omega) (by omega), Int.toNat_natCast, hs]
  rw [List.length_append]
  rfl
theorem digits04_ev (x p m : Nat) (hx : x < 4294967296) (hp : 0 < p) (hm : m < 4294967296) : Ev (fun k => r4digits.f k (x : Int) (p : Int) (m : Int)) (ints (Cw.dg p m x)) := by
 have h := digits04_loop p hp m hm m x [] hx (by simp)
 refine Ev.congr (fun k => ?_) h
 unfold r4digits.f
 rw [if_pos (by omega), if_pos (by omega), Int.toNat_natCast, ints_zero]
 rfl
theorem cd_le {p : Nat} {l : List Nat} (hl : ∀ a, a ∈ l → a < p) (hs : p ^ l.length ≤ 65536) : Cw.cd p l < 65536 := Nat.lt_of_lt_of_le (Cw.cd_lt l hl) hs
theorem pow_suffix {p : Nat} (hp : 0 < p) (A B : List Nat) (hs : p ^ (A ++ B).length ≤ 65536) : p ^ B.length ≤ 65536 := by
 rw [List.length_append] at hs
 exact Nat.le_trans (Nat.pow_le_pow_right hp (by omega)) hs
theorem valueOf_loop (p : Nat) (hp : 0 < p) (hp2 : p ≤ 65536) : ∀ (n : Nat) (A B : List Nat), A.length = n → (∀ a, a ∈ A ++ B → a < p) → p ^ (A ++ B).length ≤ 65536 → (A ++ B).length ≤ 65536 →
  Ev (fun k => field_valueOf.l0 k (ints (A ++ B)) (p : Int) (Cw.cd p B : Int) ((n : Int) - 1)) (Cw.cd p (A ++ B) : Int) := by
 intro n
 induction n with
 | zero =>
  intro A B hA hl hs hb
  obtain rfl := List.length_eq_zero_iff.1 hA
  refine Ev.step (f := fun _ => some _) (fun k => ?_) (Ev.now _)
  simp only [field_valueOf.l0]
  rw [if_neg (by omega)]
  rfl
 | succ n ih =>
  intro A B hA hl hs hb
  obtain ⟨A', a, rfl⟩ := Cw.snoc_ex A (by rintro rfl; simp at hA)
  simp at hA
  have e : A' ++ [a] ++ B = A' ++ (a :: B) := by simp
  rw [e] at hl hs hb ⊢
  have h := ih A' (a :: B) hA hl hs hb
  refine Ev.step (fun k => ?_) h
  simp only [field_valueOf.l0]
  have hB := cd_le (p := p) (l := B) (fun x hx => hl x (by simp [hx])) (by
   have := pow_suffix hp (A' ++ [a]) B (by rw [e]; exact hs)
   exact this)
  have ha := hl a (by simp)
  have hm : Cw.cd p B * p ≤ 65536 * 65536 := Nat.mul_le_mul (by omega) hp2
  have hr : rd (ints (A' ++ a :: B)) (((n + 1 : Nat) : Int) - 1) = (a : Int) := by
   rw [ints_append, ints_cons]
   exact rd_at (by rw [ints_length]; omega)
  have hv : Cw.cd p (a :: B) = Cw.cd p B * p + a := by simp [Cw.cd, Nat.mul_comm, Nat.add_comm]
  rw [if_pos (by omega), if_pos (by omega), if_pos (by rw [ints_length, List.length_append, List.length_cons]; omega), hr, ← Int.natCast_mul, w64n _ (by omega), ← Int.natCast_add, w64n _ (by omega), w64 (by omega) (by rw [List.length_append] at hb; omega), ← hv]
  congr 1
  omega
theorem valueOf_ev (p : Nat) (l : List Nat) (hp : 0 < p) (hp2 : p ≤ 65536) (hl : ∀ a, a ∈ l → a < p) (hs : p ^ l.length ≤ 65536) (hb : l.length ≤ 65536) : Ev (fun k => field_valueOf.f k (ints l) (p : Int)) (Cw.cd p l : Int) := by
 have h := valueOf_loop p hp hp2 l.length l [] rfl (by simpa using hl) (by simpa using hs) (by simpa using hb)
 rw [List.append_nil] at h
 refine Ev.congr (fun k => ?_) h
 unfold field_valueOf.f
 rw [ints_length, w64 (by omega) (by omega)]
 rfl
theorem value04_loop (p : Nat) (hp : 0 < p) (hp2 : p ≤ 65536) (M : Int) (l : List Int) : ∀ (n : Nat) (A B : List Nat), A.length = n → (∀ a, a ∈ A ++ B → a < p) → p ^ (A ++ B).length ≤ 65536 → (A ++ B).length ≤ 65536 →
  Ev (fun k => r4Value.l0 k (ints (A ++ B)) (Cw.cd p B : Int) ((n : Int) - 1) (p : Int) M l) (Cw.cd p (A ++ B) : Int) := by
 intro n
 induction n with
 | zero =>
  intro A B hA hl hs hb
  obtain rfl := List.length_eq_zero_iff.1 hA
  refine Ev.step (f := fun _ => some _) (fun k => ?_) (Ev.now _)
  simp only [r4Value.l0]
  rw [if_neg (by omega)]
  rfl
 | succ n ih =>
  intro A B hA hl hs hb
  obtain ⟨A', a, rfl⟩ := Cw.snoc_ex A (by rintro rfl; simp at hA)
  simp at hA
  have e : A' ++ [a] ++ B = A' ++ (a :: B) := by simp
  rw [e] at hl hs hb ⊢
  have h := ih A' (a :: B) hA hl hs hb
  refine Ev.step (fun k => ?_) h
  simp only [r4Value.l0]
  have hB := cd_le (p := p) (l := B) (fun x hx => hl x (by simp [hx])) (by
   have := pow_suffix hp (A' ++ [a]) B (by rw [e]; exact hs)
   exact this)
  have ha := hl a (by simp)
  have hm : Cw.cd p B * p ≤ 65536 * 65536 := Nat.mul_le_mul (by omega) hp2
  have hr : rd (ints (A' ++ a :: B)) (((n + 1 : Nat) : Int) - 1) = (a : Int) := by
   rw [ints_append, ints_cons]
   exact rd_at (by rw [ints_length]; omega)
  have hv : Cw.cd p (a :: B) = Cw.cd p B * p + a := by simp [Cw.cd, Nat.mul_comm, Nat.add_comm]
  rw [if_pos (by omega), if_pos (by omega), if_pos (by rw [ints_length, List.length_append, List.length_cons]; omega), hr, ← Int.natCast_mul, w64n _ (by omega), ← Int.natCast_add, w64n _ (by omega), w64 (by omega) (by rw [List.length_append] at hb; omega), ← hv]
  congr 1
  omega
theorem value04_ev (p : Nat) (l : List Nat) (M : Int) (mod : List Int) (hp : 0 < p) (hp2 : p ≤ 65536) (hl : ∀ a, a ∈ l → a < p) (hs : p ^ l.length ≤ 65536) (hb : l.length ≤ 65536) : Ev (fun k => r4Value.f k (p : Int) M mod (ints l)) (Cw.cd p l : Int) := by
 have h := value04_loop p hp hp2 M mod l.length l [] rfl (by simpa using hl) (by simpa using hs) (by simpa using hb)
 rw [List.append_nil] at h
 refine Ev.congr (fun k => ?_) h
 unfold r4Value.f
 rw [ints_length, w64 (by omega) (by omega)]
 rfl
end Go.Proofs.Ytbohbfggmnjpdaa.Pl
end
-- Pa5
section
namespace Go.Proofs.Ytbohbfggmnjpdaa.P
noncomputable section
open Go.RowKit Go.Proofs.Ytbohbfggmnjpdaa.Hand Go.Proofs.YtbohbfggmnjpdaaW.PrintWords Go.Proofs.YtbohbfggmnjpdaaW.PrintLast Go.Proofs.YtbohbfggmnjpdaaW.PrintMore
set_option linter.unusedVariables false
set_option linter.unusedSimpArgs false
mutual
def r4Mul.l0 : Nat → List Int → List Int → List Int → Int → Int → Int → List Int → Option (Int)
 | 0, _, _, _, _, _, _, _ => none
 | k + 1, x7, x8, x9, x10, x197000, x197001, x197002 => if x10 < x197001 then (r4Mul.l1 k x7 x8 x9 x10 0 x197000 x197001 x197002) else (r4Mul.l2 k x9 (wrap64 ((wrap64 (2 * x197001)) - 2)) x197000 x197001 x197002)
def r4Mul.l1 : Nat → List Int → List Int → List Int → Int → Int → Int → Int → List Int → Option (Int)
 | 0, _, _, _, _, _, _, _, _ => none
 | k + 1, x7, x8, x9, x10, x11, x197000, x197001, x197002 => if x11 < x197001 then (if 0 ≤ (wrap64 (x10 + x11)) then (if (wrap64 (x10 + x11)) < (x9.length : Int) then (if 0 ≤ x10 then (if x10 < (x7.length : Int) then (if 0 ≤ x11 then (if x11 < (x8.length : Int) then (if x197000 = 0 then (none) else (r4Mul.l1 k x7 x8 (x9.set ((wrap64 (x10 + x11)) : Int).toNat (Int.tmod (wrap64 ((rd x9 (wrap64 (x10 + x11))) + (wrap64 ((rd x7 x10) * (rd x8 x11))))) x197000)) x10 (wrap64 (x11 + 1)) x197000 x197001 x197002)) else (none)) else (none)) else (none)) else (none)) else (none)) else (none)) else (r4Mul.l0 k x7 x8 x9 (wrap64 (x10 + 1)) x197000 x197001 x197002)
def r4Mul.l2 : Nat → List Int → Int → Int → Int → List Int → Option (Int)
 | 0, _, _, _, _, _ => none
 | k + 1, x9, x12, x197000, x197001, x197002 => if x12 ≥ x197001 then (r4Mul.l3 k x9 x12 0 x197000 x197001 x197002) else (if 0 ≤ x197001 then (if x197001 ≤ (x9.length : Int) then ((r4Value.f k x197000 x197001 x197002 (x9.take (x197001 : Int).toNat)).bind fun t214 => (some t214)) else (none)) else (none))
def r4Mul.l3 : Nat → List Int → Int → Int → Int → Int → List Int → Option (Int)
 | 0, _, _, _, _, _, _ => none
 | k + 1, x9, x12, x13, x197000, x197001, x197002 => if x13 < x197001 then (if 0 ≤ (wrap64 ((wrap64 (x12 - x197001)) + x13)) then (if (wrap64 ((wrap64 (x12 - x197001)) + x13)) < (x9.length : Int) then (if 0 ≤ x12 then (if x12 < (x9.length : Int) then (if 0 ≤ x13 then (if x13 < (x197002.length : Int) then (if x197000 = 0 then (none) else (r4Mul.l3 k (x9.set ((wrap64 ((wrap64 (x12 - x197001)) + x13)) : Int).toNat (Int.tmod (wrap64 ((rd x9 (wrap64 ((wrap64 (x12 - x197001)) + x13))) + (wrap64 ((wrap64 (x197000 - (rd x9 x12))) * (rd x197002 x13))))) x197000)) x12 (wrap64 (x13 + 1)) x197000 x197001 x197002)) else (none)) else (none)) else (none)) else (none)) else (none)) else (none)) else (r4Mul.l2 k x9 (wrap64 (x12 - 1)) x197000 x197001 x197002)
end
def r4Mul.f (k : Nat) (a0_0 : Int) (a0_1 : Int) (l0_2 : List Int) (a1 : Int) (a2 : Int) : Option (Int) := (r4Digits.f k a0_0 a0_1 l0_2 a1).bind fun t197 => ((r4Digits.f k a0_0 a0_1 l0_2 a2).bind fun t200 => (if 0 ≤ (wrap64 ((wrap64 (2 * a0_1)) - 1)) then (if (wrap64 ((wrap64 (2 * a0_1)) - 1) : Int).toNat ≤ 35184372088832 then (r4Mul.l0 k t197 t200 (List.replicate (wrap64 ((wrap64 (2 * a0_1)) - 1) : Int).toNat 0) 0 a0_0 a0_1 l0_2) else (none)) else (none)))
end
end Go.Proofs.Ytbohbfggmnjpdaa.P
end
-- Pa6
section
namespace Go.Proofs.Ytbohbfggmnjpdaa.P
noncomputable section
open Go.RowKit Go.Proofs.Ytbohbfggmnjpdaa.Hand Go.Proofs.YtbohbfggmnjpdaaW.PrintWords Go.Proofs.YtbohbfggmnjpdaaW.PrintLast Go.Proofs.YtbohbfggmnjpdaaW.PrintMore
set_option linter.unusedVariables false
set_option linter.unusedSimpArgs false
def r4MulOrder.l0 : Nat → Int → Int → Int → Int → Int → List Int → Option (Int)
 | 0, _, _, _, _, _, _ => none
 | k + 1, x1, x5, x6, x220000, x220001, x220002 => if x6 = 1 then (some x5) else ((r4Mul.f k x220000 x220001 x220002 x6 x1).bind fun t221 => (r4MulOrder.l0 k x1 (wrap64 (x5 + 1)) t221 x220000 x220001 x220002))
def r4MulOrder.f (k : Nat) (a0_0 : Int) (a0_1 : Int) (l0_2 : List Int) (a1 : Int) : Option (Int) := (r4In.f k a0_0 a0_1 l0_2 a1).bind fun t220 => (if t220 = 0 then (some 0) else (r4MulOrder.l0 k t220 1 t220 a0_0 a0_1 l0_2))
def r8IsPrimitive.f (k : Nat) (a0_0 : Int) (a0_1 : Int) (l0_2 : List Int) (a1 : Int) : Option (Bool) := (r4MulOrder.f k a0_0 a0_1 l0_2 a1).bind fun t251 => ((r4Order.f k a0_0 a0_1 l0_2).bind fun t252 => (some (t251 == (wrap64 (t252 - 1)))))
def r8Primitive.l0 : Nat → Int → Int → Int → List Int → Option (Int)
 | 0, _, _, _, _ => none
 | k + 1, x3, x254000, x254001, x254002 => (r4Order.f k x254000 x254001 x254002).bind fun t254 => (if x3 < (wrap64 (t254 - 1)) then ((r8IsPrimitive.f k x254000 x254001 x254002 x3).bind fun t255 => (if t255 = true then (some x3) else (r8Primitive.l0 k (wrap64 (x3 + 1)) x254000 x254001 x254002))) else (some x3))
def r8Primitive.f (k : Nat) (a0_0 : Int) (a0_1 : Int) (l0_2 : List Int) : Option (Int) := r8Primitive.l0 k 1 a0_0 a0_1 l0_2
end
end Go.Proofs.Ytbohbfggmnjpdaa.P
end
-- Q1
section
namespace Go.Proofs.Ytbohbfggmnjpdaa.Pl
open Go.RowKit Go.Proofs.Ytbohbfggmnjpdaa.P Go.Proofs.Ytbohbfggmnjpdaa.Hand Go.Proofs.YtbohbfggmnjpdaaW.PrintWords
def IsPrl (n : Nat) (l : List Nat) : Prop := l.Pairwise (· < ·) ∧ ∀ p, p ∈ l ↔ Cw.Prm p ∧ p ∣ n
def leastOk (n : Nat) : Bool := decide (2 ≤ (leastV (n : Int)).toNat) && decide (leastV (n : Int) = ((leastV (n : Int)).toNat : Int)) && decide (n % (leastV (n : Int)).toNat = 0) && (List.range (leastV (n : Int)).toNat).all (fun d => decide (d < 2) || decide (n % d ≠ 0))
theorem least_all : (List.range 256).all (fun n => decide (n < 2) || leastOk n) = true := by kernel_rfl
theorem least_spec (n : Nat) (h1 : 2 ≤ n) (h2 : n ≤ 255) : ∃ p : Nat, leastV (n : Int) = (p : Int) ∧ Cw.Prm p ∧ p ∣ n ∧ ∀ r, Cw.Prm r → r ∣ n → p ≤ r := by
 have h := List.all_eq_true.1 least_all n (List.mem_range.2 (by omega))
 rw [Bool.or_eq_true, decide_eq_true_iff] at h
 rcases h with h | h
 ·omega
 unfold leastOk at h
 rw [Bool.and_eq_true, Bool.and_eq_true, Bool.and_eq_true, decide_eq_true_iff, decide_eq_true_iff, decide_eq_true_iff] at h
 obtain ⟨⟨⟨a1, a2⟩, a3⟩, a4⟩ := h
 have hmin : ∀ d, 2 ≤ d → d < (leastV (n : Int)).toNat → ¬ d ∣ n := by
  intro d hd1 hd2 hd3
  have := List.all_eq_true.1 a4 d (List.mem_range.2 hd2)
  rw [Bool.or_eq_true, decide_eq_true_iff, decide_eq_true_iff] at this
  rcases this with h | h
  ·omega
  ·exact h (Nat.mod_eq_zero_of_dvd hd3)
 have hdv : (leastV (n : Int)).toNat ∣ n := Nat.dvd_of_mod_eq_zero a3
 refine ⟨(leastV (n : Int)).toNat, a2, ⟨a1, fun d hd => ?_⟩, hdv, fun r hr hrn => ?_⟩
 ·by_cases hd1 : d = 1
  ·exact Or.inl hd1
  ·right
   have hd0 : d ≠ 0 := by
    rintro rfl
    have := Nat.eq_zero_of_zero_dvd hd
    omega
   have hle := Nat.le_of_dvd (by omega) hd
   by_cases hlt : d < (leastV (n : Int)).toNat
   ·exact absurd (Nat.dvd_trans hd hdv) (hmin d (by omega) hlt)
   ·omega
 ·by_cases hlt : r < (leastV (n : Int)).toNat
  ·exact absurd hrn (hmin r hr.1 hlt)
  ·omega
theorem factor_inner (p : Nat) (hp : Cw.Prm p) : ∀ (b x : Nat), x ≤ b → 1 ≤ x → x ≤ 255 → ∀ c : Int, ∃ x' c', 1 ≤ x' ∧ x' ≤ x ∧ (p ∣ x → x' < x) ∧ ¬ p ∣ x' ∧ (∀ r, Cw.Prm r → (r ∣ x ↔ r ∣ x' ∨ (r = p ∧ p ∣ x))) ∧
  (∀ acc : List S87, acc.length < 8796093022208 → ∀ R, Ev (fun k => number_Factor.l0 k (x' : Int) (acc ++ [(⟨(p : Int), c'⟩ : S87)])) R → Ev (fun k => number_Factor.l1 k (x : Int) acc (p : Int) (p : Int) c) R) := by
 intro b
 have hp2 := hp.1
 have c2 : ¬ (p : Int) = 0 := by omega
 induction b with
 | zero => intro x h1 h2; omega
 | succ b ih =>
  intro x hx h1 h255 c
  by_cases hdv : p ∣ x
  ·obtain ⟨y, rfl⟩ := hdv
   have hy0 : y ≠ 0 := by rintro rfl; omega
   have hyx : y < p * y := by
    have := Nat.mul_le_mul_right y hp2
    omega
   have hdiv : Int.tdiv ((p * y : Nat) : Int) (p : Int) = (y : Int) := by rw [Cw.tdiv_nat, Nat.mul_div_cancel_left _ (by omega)]
   obtain ⟨x', c', a1, a2, a3, a4, a5, a6⟩ := ih y (by omega) (by omega) (by omega) (wrap64 (c + 1))
   refine ⟨x', c', a1, by omega, fun _ => by omega, a4, fun r hr => ?_, fun acc hacc R hR => Ev.step (fun k => ?_) (a6 acc hacc R hR)⟩
   ·constructor
    ·intro h
     rcases hr.dvd_mul h with h | h
     ·right
      rcases hp.2 r h with h | h
      ·have := hr.1; omega
      ·exact ⟨h, Nat.dvd_mul_right _ _⟩
     ·rcases (a5 r hr).1 h with h | h
      ·exact Or.inl h
      ·exact Or.inr ⟨h.1, Nat.dvd_mul_right _ _⟩
    ·rintro (h | h)
     ·exact Nat.dvd_trans ((a5 r hr).2 (Or.inl h)) (Nat.dvd_mul_left _ _)
     ·rw [h.1]; exact Nat.dvd_mul_right _ _
   ·simp only [number_Factor.l1]
    rw [if_neg c2, Cw.tmod_nat, Nat.mul_mod_right, if_pos (by rfl), hdiv, w64n y (by omega)]
  ·refine ⟨x, c, h1, Nat.le_refl _, fun h => absurd h hdv, hdv, fun r hr => ⟨fun h => Or.inl h, fun h => h.elim id (fun h => absurd h.2 hdv)⟩, fun acc hacc R hR => Ev.step (fun k => ?_) hR⟩
   have : x % p ≠ 0 := fun h0 => hdv (Nat.dvd_of_mod_eq_zero h0)
   simp only [number_Factor.l1]
   rw [if_neg c2, Cw.tmod_nat, if_neg (by omega), if_pos hacc]
theorem factor_outer : ∀ (b m : Nat), m ≤ b → 1 ≤ m → m ≤ 255 → ∃ (L : List S87) (l : List Nat), L.map S87.f0 = ints l ∧ IsPrl m l ∧ L.length ≤ m ∧ ∀ acc : List S87, acc.length ≤ 1000 - m → Ev (fun k => number_Factor.l0 k (m : Int) acc) (acc ++ L, 0) := by
 intro b
 induction b with
 | zero => intro m h1 h2; omega
 | succ b ih =>
  intro m hm h1 h255
  by_cases hm1 : m = 1
  ·subst hm1
   refine ⟨[], [], rfl, ⟨List.Pairwise.nil, fun p => ⟨fun h => by simp at h, fun h => ?_⟩⟩, by simp, fun acc _ => ?_⟩
   ·have := h.1.1
    have := Nat.le_of_dvd (by omega) h.2
    omega
   ·refine Ev.step (f := fun _ => some _) (fun k => ?_) (Ev.now _)
    simp only [number_Factor.l0]
    rw [if_neg (by omega), List.append_nil]
  ·obtain ⟨p, hpv, hpr, hpd, hmin⟩ := least_spec m (by omega) h255
   obtain ⟨x', c', a1, a2, a3, a4, a5, a6⟩ := factor_inner p hpr m m (Nat.le_refl _) h1 h255 0
   have hx'lt := a3 hpd
   obtain ⟨L, l, e1, e2, e3, e4⟩ := ih x' (by omega) a1 (by omega)
   refine ⟨⟨(p : Int), c'⟩ :: L, p :: l, by rw [List.map_cons, e1, ints_cons], ⟨?_, fun r => ?_⟩, by rw [List.length_cons]; omega, fun acc hacc => ?_⟩
   ·rw [List.pairwise_cons]
    refine ⟨fun r hr => ?_, e2.1⟩
    obtain ⟨hr1, hr2⟩ := (e2.2 r).1 hr
    have h3 := hmin r hr1 ((a5 r hr1).2 (Or.inl hr2))
    have h4 : r ≠ p := fun e => a4 (e ▸ hr2)
    omega
   ·rw [List.mem_cons, e2.2]
    constructor
    ·rintro (h | h)
     ·rw [h]; exact ⟨hpr, hpd⟩
     ·exact ⟨h.1, (a5 r h.1).2 (Or.inl h.2)⟩
    ·intro h
     rcases (a5 r h.1).1 h.2 with h' | h'
     ·exact Or.inr ⟨h.1, h'⟩
     ·exact Or.inl h'.1
   ·have h9 := a6 acc (by omega) _ (e4 (acc ++ [(⟨(p : Int), c'⟩ : S87)]) (by rw [List.length_append]; simp; omega))
    rw [List.append_assoc, List.singleton_append] at h9
    have hl : number_least.f (m : Int) = some (p : Int) := by
     unfold number_least.f
     rw [if_pos (by omega), hpv]
    refine Ev.step (fun k => ?_) h9
    simp only [number_Factor.l0]
    rw [if_pos (by omega), hl]
    rfl
theorem factor_ev (n : Nat) (h1 : 1 ≤ n) (h2 : n ≤ 255) : ∃ (L : List S87) (l : List Nat), L.map S87.f0 = ints l ∧ IsPrl n l ∧ L.length ≤ n ∧ Ev (fun k => number_Factor.f k (n : Int)) (L, 0) := by
 obtain ⟨L, l, e1, e2, e3, e4⟩ := factor_outer n n (Nat.le_refl _) h1 h2
 refine ⟨L, l, e1, e2, e3, Ev.congr (fun k => ?_) (e4 [] (by simp))⟩
 unfold number_Factor.f
 have : number_in.f (n : Int) 1 = some true := by
  unfold number_in.f
  rw [if_pos (by omega), decide_eq_true (by omega)]
 rw [this]
 rfl
theorem primesP_loop (L : List S87) (hL : L.length ≤ 255) : ∀ e i, i + e = L.length → Ev (fun k => dlog_primes.l0 k ((L.take i).map S87.f0 ++ List.replicate e 0) L (L.length : Int) (i : Int)) (L.map S87.f0) := by
 intro e
 induction e with
 | zero =>
  intro i hi
  refine Ev.step (f := fun _ => some _) (fun k => ?_) (Ev.now _)
  simp only [dlog_primes.l0]
  rw [if_neg (by omega), List.take_of_length_le (by omega), List.replicate_zero, List.append_nil]
 | succ e ih =>
  intro i hi
  have hil : i < L.length := by omega
  have c1 : (i : Int) < (L.length : Int) := by omega
  have c2 : (0 : Int) ≤ (i : Int) := by omega
  have hi1 : wrap64 ((i : Int) + 1) = ((i + 1 : Nat) : Int) := by rw [w64 (by omega) (by omega)]; rfl
  have hlen : ((L.take i).map S87.f0).length = i := by rw [List.length_map, List.length_take]; omega
  have c3 : (i : Int) < (((L.take i).map S87.f0 ++ List.replicate (e + 1) 0).length : Int) := by
   rw [List.length_append, hlen, List.length_replicate]; omega
  have hr : (rd_T87 L (i : Int)).f0 = (L[i]).f0 := by
   unfold rd_T87
   rw [Int.toNat_natCast, List.getD_eq_getElem?_getD, List.getElem?_eq_getElem hil]; rfl
  have hset : ((L.take i).map S87.f0 ++ List.replicate (e + 1) 0).set i (L[i]).f0 = (L.take (i + 1)).map S87.f0 ++ List.replicate e 0 := by
   rw [List.set_append_right _ _ (by omega), hlen, Nat.sub_self, List.replicate_succ, List.set_cons_zero, List.take_add_one, List.getElem?_eq_getElem hil, List.map_append]
   simp
  refine Ev.step (fun k => ?_) (ih (i + 1) (by omega))
  simp only [dlog_primes.l0]
  rw [if_pos c1, if_pos c2, if_pos c1, if_pos c3, hr, Int.toNat_natCast, hset, hi1]
theorem primesP_ev (n : Nat) (h1 : 1 ≤ n) (h2 : n ≤ 255) : ∃ l, IsPrl n l ∧ Ev (fun k => dlog_primes.f k (n : Int)) (ints l) := by
 obtain ⟨L, l, e1, e2, e3, e4⟩ := factor_ev n h1 h2
 refine ⟨l, e2, Ev.bind e4 ?_⟩
 have h := primesP_loop L (by omega) L.length 0 (by omega)
 rw [e1] at h
 refine Ev.congr (fun k => ?_) h
 rw [if_pos (Int.natCast_nonneg _), if_pos (by rw [Int.toNat_natCast]; show L.length ≤ _; omega), Int.toNat_natCast]
 rfl
end Go.Proofs.Ytbohbfggmnjpdaa.Pl
end
