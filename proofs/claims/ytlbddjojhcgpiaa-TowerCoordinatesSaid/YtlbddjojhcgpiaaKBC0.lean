/- What towerCoordinates_holds needs: texts Alg, Fin, GF, Tr, Res, Con, El, Irr, Gv, Int, Dvd, Gen, Gauss, Lin, put together. -/
set_option linter.unusedVariables false
set_option linter.unusedSimpArgs false
set_option linter.unusedSectionVars false
set_option maxHeartbeats 8000000
set_option maxRecDepth 100000
namespace Go.Proofs.Ytlbddjojhcgpiaa
end Go.Proofs.Ytlbddjojhcgpiaa
namespace Go.Proofs.Ytlbddjojhcgpiaa.GS
end Go.Proofs.Ytlbddjojhcgpiaa.GS
namespace Go.Proofs.Ytlbddjojhcgpiaa.Hand
end Go.Proofs.Ytlbddjojhcgpiaa.Hand
namespace Go.Proofs.Ytlbddjojhcgpiaa.P
end Go.Proofs.Ytlbddjojhcgpiaa.P
namespace Go.Proofs.Ytlbddjojhcgpiaa.Pl
end Go.Proofs.Ytlbddjojhcgpiaa.Pl
namespace Go.Proofs.Ytlbddjojhcgpiaa.Rk
end Go.Proofs.Ytlbddjojhcgpiaa.Rk
namespace Go.Proofs.Ytlbddjojhcgpiaa.towerCoordinates
end Go.Proofs.Ytlbddjojhcgpiaa.towerCoordinates
namespace Go.Proofs.YtlbddjojhcgpiaaW.PrintLast
end Go.Proofs.YtlbddjojhcgpiaaW.PrintLast
namespace Go.Proofs.YtlbddjojhcgpiaaW.PrintMore
end Go.Proofs.YtlbddjojhcgpiaaW.PrintMore
namespace Go.Proofs.YtlbddjojhcgpiaaW.PrintWords
end Go.Proofs.YtlbddjojhcgpiaaW.PrintWords
namespace Go.Proofs.Ytlbddjojhcgpiaa
abbrev tB : Bool := true
abbrev fB : Bool := false
theorem sm1 {α β : Type} {f : α → β} {l : List α} : l.toArray.map f = (l.map f).toArray := List.map_toArray ..
theorem sm2 {α β : Type} {f : α → β} {a : α} {l : List α} : (a :: l).map f = f a :: l.map f := rfl
theorem sm3 {α β : Type} {f : α → β} : ([] : List α).map f = [] := rfl
theorem sm4 {α : Type} {i : Nat} {l : List α} : (l.drop i).length = l.length - i := List.length_drop ..
theorem sm5 {α : Type} {i : Nat} {l : List α} : (l.take i).length = min i l.length := List.length_take ..
end Go.Proofs.Ytlbddjojhcgpiaa
namespace Go.Proofs.Ytlbddjojhcgpiaa
theorem sz1 {α : Type} {l : List α} {i : Nat} {a : α} : l.toArray.setIfInBounds i a = (l.set i a).toArray := List.setIfInBounds_toArray ..
theorem sz2 {α : Type} {a b : α} {l : List α} : (a :: l).set 0 b = b :: l := rfl
theorem sz3 {α : Type} {a b : α} {l : List α} {n : Nat} : (a :: l).set (n + 1) b = a :: l.set n b := rfl
end Go.Proofs.Ytlbddjojhcgpiaa
-- Alg
section
namespace Cw
class Rg (K : Type) extends Add K, Mul K, Neg K, Zero K, One K where
 add_assoc' : ∀ a b c : K, a + b + c = a + (b + c)
 add_comm' : ∀ a b : K, a + b = b + a
 zero_add' : ∀ a : K, 0 + a = a
 neg_add' : ∀ a : K, -a + a = 0
 mul_assoc' : ∀ a b c : K, a * b * c = a * (b * c)
 mul_comm' : ∀ a b : K, a * b = b * a
 one_mul' : ∀ a : K, 1 * a = a
 mul_add' : ∀ a b c : K, a * (b + c) = a * b + a * c
section ring
variable {K : Type} [Rg K]
theorem add_assoc (a b c : K) : a + b + c = a + (b + c) := Rg.add_assoc' a b c
theorem add_comm (a b : K) : a + b = b + a := Rg.add_comm' a b
theorem zero_add (a : K) : 0 + a = a := Rg.zero_add' a
theorem neg_add (a : K) : -a + a = 0 := Rg.neg_add' a
theorem mul_assoc (a b c : K) : a * b * c = a * (b * c) := Rg.mul_assoc' a b c
theorem mul_comm (a b : K) : a * b = b * a := Rg.mul_comm' a b
theorem one_mul (a : K) : 1 * a = a := Rg.one_mul' a
theorem mul_add (a b c : K) : a * (b + c) = a * b + a * c := Rg.mul_add' a b c
instance : Std.Associative (α := K) (· + ·) := ⟨add_assoc⟩
instance : Std.Commutative (α := K) (· + ·) := ⟨add_comm⟩
instance : Std.Associative (α := K) (· * ·) := ⟨mul_assoc⟩
instance : Std.Commutative (α := K) (· * ·) := ⟨mul_comm⟩
theorem add_left_comm (a b c : K) : a + (b + c) = b + (a + c) := by ac_rfl
theorem mul_left_comm (a b c : K) : a * (b * c) = b * (a * c) := by ac_rfl
theorem add_zero (a : K) : a + 0 = a := by rw [add_comm, zero_add]
theorem add_neg (a : K) : a + -a = 0 := by rw [add_comm, neg_add]
theorem mul_one (a : K) : a * 1 = a := by rw [mul_comm, one_mul]
theorem add_mul (a b c : K) : (a + b) * c = a * c + b * c := by rw [mul_comm, mul_add, mul_comm c a, mul_comm c b]
theorem add_left_cancel {a b c : K} (h : a + b = a + c) : b = c := by
 have : -a + (a + b) = -a + (a + c) := by rw [h]
 rwa [← add_assoc, ← add_assoc, neg_add, zero_add, zero_add] at this
theorem mul_zero (a : K) : a * 0 = 0 := by
 apply add_left_cancel (a := a * 0); rw [← mul_add, add_zero, add_zero]
theorem zero_mul (a : K) : 0 * a = 0 := by rw [mul_comm, mul_zero]
theorem neg_unique {a b : K} (h : a + b = 0) : b = -a := by
 apply add_left_cancel (a := a); rw [h, add_neg]
theorem neg_neg (a : K) : - -a = a := (neg_unique (neg_add a)).symm
theorem neg_zero : -(0 : K) = 0 := (neg_unique (zero_add 0)).symm
theorem neg_mul (a b : K) : -a * b = -(a * b) := neg_unique (by rw [← add_mul, add_neg, zero_mul])
theorem mul_neg (a b : K) : a * -b = -(a * b) := neg_unique (by rw [← mul_add, add_neg, mul_zero])
theorem neg_add_rev (a b : K) : -(a + b) = -a + -b := by
 symm; apply neg_unique
 rw [show a + b + (-a + -b) = (a + -a) + (b + -b) from by ac_rfl, add_neg, add_neg, zero_add]
theorem neg_inj {a b : K} (h : -a = -b) : a = b := by rw [← neg_neg a, h, neg_neg]
theorem sub_eq_zero {a b : K} (h : a + -b = 0) : a = b := by
 have := neg_unique h; rw [neg_inj this]
theorem add_add_add_comm (a b c d : K) : (a + b) + (c + d) = (a + c) + (b + d) := by ac_rfl
def sm (n : Nat) (f : Nat → K) : K := match n with
 | 0 => 0
 | n + 1 => sm n f + f n
theorem sm_zero (f : Nat → K) : sm 0 f = 0 := rfl
theorem sm_succ (n : Nat) (f : Nat → K) : sm (n + 1) f = sm n f + f n := rfl
theorem sm_congr {n : Nat} {f g : Nat → K} (h : ∀ i, i < n → f i = g i) : sm n f = sm n g := by
 induction n with
 | zero => rfl
 | succ n ih => rw [sm_succ, sm_succ, ih (fun i hi => h i (by omega)), h n (by omega)]
theorem sm_add (n : Nat) (f g : Nat → K) : sm n (fun i => f i + g i) = sm n f + sm n g := by
 induction n with
 | zero => rw [sm_zero, sm_zero, sm_zero, zero_add]
 | succ n ih => rw [sm_succ, sm_succ, sm_succ, ih]; ac_rfl
theorem sm_mul (n : Nat) (a : K) (f : Nat → K) : sm n (fun i => a * f i) = a * sm n f := by
 induction n with
 | zero => rw [sm_zero, sm_zero, mul_zero]
 | succ n ih => rw [sm_succ, sm_succ, ih, mul_add]
theorem sm_mul_right (n : Nat) (a : K) (f : Nat → K) : sm n (fun i => f i * a) = sm n f * a := by
 rw [mul_comm, ← sm_mul]; exact sm_congr (fun i _ => mul_comm _ _)
theorem sm_neg (n : Nat) (f : Nat → K) : sm n (fun i => -f i) = - sm n f := by
 induction n with
 | zero => rw [sm_zero, sm_zero, neg_zero]
 | succ n ih => rw [sm_succ, sm_succ, ih, neg_add_rev]
theorem sm_const_zero (n : Nat) : sm n (fun _ => (0 : K)) = 0 := by
 induction n with
 | zero => rfl
 | succ n ih => rw [sm_succ, ih, zero_add]
theorem sm_zero_of {n : Nat} {f : Nat → K} (h : ∀ i, i < n → f i = 0) : sm n f = 0 := by
 rw [sm_congr h, sm_const_zero]
theorem sm_comm (n k : Nat) (f : Nat → Nat → K) : sm n (fun i => sm k (fun j => f i j)) = sm k (fun j => sm n (fun i => f i j)) := by
 induction n with
 | zero => simp only [sm_zero]; rw [sm_const_zero]
 | succ n ih => simp only [sm_succ]; rw [sm_add, ih]
theorem sm_head (n : Nat) (f : Nat → K) : sm (n + 1) f = f 0 + sm n (fun i => f (i + 1)) := by
 induction n with
 | zero => rw [sm_succ, sm_zero, sm_zero, zero_add, add_zero]
 | succ n ih => rw [sm_succ, ih, sm_succ, add_assoc]
theorem sm_append (a b : Nat) (f : Nat → K) : sm (a + b) f = sm a f + sm b (fun i => f (a + i)) := by
 induction b with
 | zero => rw [sm_zero, add_zero]; rfl
 | succ b ih => rw [← Nat.add_assoc, sm_succ, ih, sm_succ, add_assoc]
theorem sm_single {n : Nat} {f : Nat → K} (k : Nat) (hk : k < n) (h : ∀ i, i < n → i ≠ k → f i = 0) : sm n f = f k := by
 induction n with
 | zero => omega
 | succ n ih =>
  rw [sm_succ];by_cases e : k = n
  ·subst e; rw [sm_zero_of (fun i hi => h i (by omega) (by omega)), zero_add]
  rw [ih (by omega) (fun i hi hne => h i (by omega) hne), h n (by omega) (by omega), add_zero]
theorem sm_rotate (n : Nat) (f : Nat → K) (h : f n = f 0) : sm n (fun i => f (i + 1)) = sm n f := by
 have h1 := sm_head n f;rw [sm_succ, h, add_comm] at h1;exact (add_left_cancel h1).symm
def pw (x : K) : Nat → K
 | 0 => 1
 | n + 1 => pw x n * x
theorem pw_zero (x : K) : pw x 0 = 1 := rfl
theorem pw_succ (x : K) (n : Nat) : pw x (n + 1) = pw x n * x := rfl
theorem pw_one (x : K) : pw x 1 = x := by rw [pw_succ, pw_zero, one_mul]
theorem pw_add (x : K) (a b : Nat) : pw x (a + b) = pw x a * pw x b := by
 induction b with
 | zero => rw [Nat.add_zero, pw_zero, mul_one]
 | succ b ih => rw [← Nat.add_assoc, pw_succ, ih, pw_succ, mul_assoc]
theorem pw_mul (x : K) (a b : Nat) : pw x (a * b) = pw (pw x a) b := by
 induction b with
 | zero => rfl
 | succ b ih => rw [Nat.mul_succ, pw_add, ih, pw_succ]
theorem mul_pw (x y : K) (n : Nat) : pw (x * y) n = pw x n * pw y n := by
 induction n with
 | zero => rw [pw_zero, pw_zero, pw_zero, one_mul]
 | succ n ih => rw [pw_succ, pw_succ, pw_succ, ih]; ac_rfl
theorem one_pw (n : Nat) : pw (1 : K) n = 1 := by
 induction n with
 | zero => rfl
 | succ n ih => rw [pw_succ, ih, one_mul]
theorem zero_pw {n : Nat} (h : 0 < n) : pw (0 : K) n = 0 := by
 obtain ⟨k, rfl⟩ : ∃ k, n = k + 1 := ⟨n - 1, by omega⟩;rw [pw_succ, mul_zero]
def nm (n : Nat) (x : K) : K := match n with
 | 0 => 0
 | n + 1 => nm n x + x
theorem nm_zero (x : K) : nm 0 x = 0 := rfl
theorem nm_succ (n : Nat) (x : K) : nm (n + 1) x = nm n x + x := rfl
theorem nm_eq (n : Nat) (x : K) : nm n x = nm n 1 * x := by
 induction n with
 | zero => rw [nm_zero, nm_zero, zero_mul]
 | succ n ih => rw [nm_succ, nm_succ, ih, add_mul, one_mul]
theorem nm_add (a b : Nat) (x : K) : nm (a + b) x = nm a x + nm b x := by
 induction b with
 | zero => rw [nm_zero, add_zero]; rfl
 | succ b ih => rw [← Nat.add_assoc, nm_succ, ih, nm_succ, add_assoc]
theorem nm_mul (a b : Nat) (x : K) : nm (a * b) x = nm a (nm b x) := by
 induction a with
 | zero => rw [Nat.zero_mul]; rfl
 | succ a ih => rw [Nat.succ_mul, nm_add, ih, nm_succ]
theorem nm_of_zero (n : Nat) : nm n (0 : K) = 0 := by
 induction n with
 | zero => rfl
 | succ n ih => rw [nm_succ, ih, zero_add]
def ev (c : List K) (x : K) : K := match c with
 | [] => 0
 | a :: c => a + x * ev c x
theorem ev_nil (x : K) : ev [] x = 0 := rfl
theorem ev_cons (a : K) (c : List K) (x : K) : ev (a :: c) x = a + x * ev c x := rfl
theorem ev_append (c d : List K) (x : K) : ev (c ++ d) x = ev c x + pw x c.length * ev d x := by
 induction c with
 | nil => rw [List.nil_append, ev_nil, zero_add, List.length_nil, pw_zero, one_mul]
 | cons a c ih => rw [List.cons_append, ev_cons, ih, ev_cons, List.length_cons, pw_succ, mul_add, add_assoc]; congr 2; ac_rfl
def dv (r : K) : List K → List K
 | [] => []
 | [_] => []
 | _ :: b :: c => ev (b :: c) r :: dv r (b :: c)
theorem dv_length (r : K) : ∀ c : List K, (dv r c).length = c.length - 1
 | [] => rfl
 | [_] => rfl
 | _ :: b :: c => by rw [dv, List.length_cons, dv_length r (b :: c)]; simp
theorem dv_ev (r x : K) : ∀ c : List K, ev c x = ev c r + (x + -r) * ev (dv r c) x
 | [] => by simp only [dv, ev_nil, mul_zero, add_zero]
 | [a] => by simp only [dv, ev_nil, ev_cons, mul_zero, add_zero]
 | a :: b :: c => by
  have ih := dv_ev r x (b :: c);rw [dv, ev_cons a, ev_cons (ev (b :: c) r), ev_cons a];generalize ev (dv r (b :: c)) x = q at *;generalize ev (b :: c) r = e at *;rw [ih]; simp only [mul_add, add_mul, neg_mul, mul_neg]
  have h1 : x * e = r * e + (x * e + -(r * e)) := by
   rw [add_comm (x * e), ← add_assoc, add_neg, zero_add]
  have h2 : x * (x * q) = x * (x * q) := rfl
  calc a + (x * e + (x * (x * q) + -(x * (r * q)))) = a + ((r * e + (x * e + -(r * e))) + (x * (x * q) + -(x * (r * q)))) := by rw [← h1]
   _ = a + r * e + (x * e + -(r * e) + (x * (x * q) + -(r * (x * q)))) := by rw [mul_left_comm x r q]; ac_rfl
theorem dv_zero (r : K) : ∀ c : List K, ev c r = 0 → (∀ a, a ∈ dv r c → a = 0) → ∀ a, a ∈ c → a = 0
 | [], _, _, a, h => by cases h
 | [b], h0, _, a, h => by
  rw [ev_cons, ev_nil, mul_zero, add_zero] at h0;have := List.mem_singleton.1 h; rw [this, h0]
 | a :: b :: c, h0, h1, x, h => by
  rw [dv] at h1;have e := h1 _ List.mem_cons_self;have ih := dv_zero r (b :: c) e (fun y hy => h1 y (List.mem_cons_of_mem _ hy));rw [ev_cons, e, mul_zero, add_zero] at h0;rcases List.mem_cons.1 h with rfl | h
  ·exact h0
  exact ih _ h
end ring
def Dom (K : Type) [Rg K] : Prop := ∀ a b : K, a * b = 0 → a = 0 ∨ b = 0
theorem roots_zero {K : Type} [Rg K] (hd : Dom K) : ∀ (l : List K) (c : List K), l.Nodup → c.length ≤ l.length → (∀ x, x ∈ l → ev c x = 0) → ∀ a, a ∈ c → a = 0
 | [], c, _, hlen, _, a, ha => by
  have : c = [] := List.length_eq_zero_iff.1 (by simpa using hlen);rw [this] at ha; cases ha
 | r :: l, c, hnd, hlen, hr, a, ha => by
  have hnd' := List.nodup_cons.1 hnd;have e0 := hr r List.mem_cons_self;refine dv_zero r c e0 ?_ a ha;refine roots_zero hd l (dv r c) hnd'.2 (by rw [dv_length]; simp at hlen; omega) ?_;intro x hx;have h1 := hr x (List.mem_cons_of_mem _ hx);rw [dv_ev r x, e0, zero_add] at h1;rcases hd _ _ h1 with h | h
  ·exact absurd (sub_eq_zero h) (fun e => hnd'.1 (e ▸ hx))
  exact h
end Cw
end
-- Fin
section
namespace Cw
theorem nodup_len {α : Type} [DecidableEq α] : ∀ (l k : List α), l.Nodup → (∀ x, x ∈ l → x ∈ k) → l.length ≤ k.length
 | [], _, _, _ => Nat.zero_le _
 | x :: l, k, hnd, hs => by
  have hnd' := List.nodup_cons.1 hnd;have hx : x ∈ k := hs x List.mem_cons_self;have := nodup_len l (k.erase x) hnd'.2 (fun y hy => (List.mem_erase_of_ne (fun e => hnd'.1 (by rw [← e]; exact hy))).2 (hs y (List.mem_cons_of_mem _ hy)));have h2 := List.length_erase_of_mem hx;have h3 := List.length_pos_of_mem hx;simp only [List.length_cons]; omega
theorem nodup_full {α : Type} [DecidableEq α] {l k : List α} (hl : l.Nodup) (hs : ∀ x, x ∈ l → x ∈ k) (hlen : k.length ≤ l.length) : ∀ x, x ∈ k → x ∈ l := by
 intro x hx;refine Classical.byContradiction fun hn => ?_
 have := nodup_len (x :: l) k (List.nodup_cons.2 ⟨hn, hl⟩) (fun y hy => by rcases List.mem_cons.1 hy with rfl | h; exact hx; exact hs y h);simp only [List.length_cons] at this; omega
theorem nodup_map {α β : Type} {f : α → β} {l : List α} (hl : l.Nodup) (hf : ∀ x, x ∈ l → ∀ y, y ∈ l → f x = f y → x = y) : (l.map f).Nodup := by
 induction l with
 | nil => exact List.nodup_nil
 | cons a l ih =>
  have h := List.nodup_cons.1 hl;rw [List.map_cons, List.nodup_cons];refine ⟨?_, ih h.2 (fun x hx y hy => hf x (List.mem_cons_of_mem _ hx) y (List.mem_cons_of_mem _ hy))⟩;intro hm;obtain ⟨y, hy, e⟩ := List.mem_map.1 hm;have := hf y (List.mem_cons_of_mem _ hy) a List.mem_cons_self e;exact h.1 (this ▸ hy)
theorem nodup_filter {α : Type} (p : α → Bool) {l : List α} (h : l.Nodup) : (l.filter p).Nodup := h.filter _
def fib {α β : Type} [DecidableEq β] (f : α → β) (l : List α) (y : β) : List α := l.filter (fun x => decide (f x = y))
theorem mem_fib {α β : Type} [DecidableEq β] {f : α → β} {l : List α} {y : β} {x : α} : x ∈ fib f l y ↔ x ∈ l ∧ f x = y := by
 unfold fib; rw [List.mem_filter]; simp
def ns {α : Type} (l : List α) (f : α → Nat) : Nat := match l with
 | [] => 0
 | a :: l => f a + ns l f
theorem ns_le {α : Type} {l : List α} {f : α → Nat} {b : Nat} (h : ∀ x, x ∈ l → f x ≤ b) : ns l f ≤ l.length * b := by
 induction l with
 | nil => simp [ns]
 | cons a l ih =>
  have h1 := h a List.mem_cons_self;have h2 := ih (fun x hx => h x (List.mem_cons_of_mem _ hx));simp only [ns, List.length_cons, Nat.succ_mul]; omega
theorem ns_eq {α : Type} {l : List α} {f : α → Nat} {b : Nat} (h : ∀ x, x ∈ l → f x ≤ b) (he : l.length * b ≤ ns l f) : ∀ x, x ∈ l → f x = b := by
 induction l with
 | nil => intro x hx; cases hx
 | cons a l ih =>
  have h1 := h a List.mem_cons_self;have h2 : ns l f ≤ l.length * b := ns_le (fun x hx => h x (List.mem_cons_of_mem _ hx));simp only [ns, List.length_cons, Nat.succ_mul] at he;intro x hx;rcases List.mem_cons.1 hx with rfl | hx
  ·omega
  exact ih (fun x hx => h x (List.mem_cons_of_mem _ hx)) (by omega) x hx
theorem ns_fib {α β : Type} [DecidableEq β] (f : α → β) (k : List β) (hk : k.Nodup) : ∀ (l : List α), (∀ x, x ∈ l → f x ∈ k) → ns k (fun y => (fib f l y).length) = l.length := by
 intro l;induction l with
 | nil => intro _; clear hk; induction k with
  | nil => rfl
  | cons a k ih => simp only [ns]; rw [ih (fun x hx => by cases hx)]; rfl
 | cons a l ih =>
  intro h;have h1 := ih (fun x hx => h x (List.mem_cons_of_mem _ hx));rw [List.length_cons, ← h1];have ha := h a List.mem_cons_self;clear ih h h1;induction k with
  | nil => cases ha
  | cons b k ih =>
   have hb := List.nodup_cons.1 hk;simp only [ns];by_cases e : f a = b
   ·have hk2 : ∀ k' : List β, b ∉ k' → ns k' (fun y => (fib f (a :: l) y).length) = ns k' (fun y => (fib f l y).length) := by
     intro k' hk';induction k' with
     | nil => rfl
     | cons c k' ih' =>
      have hc : ¬ (b = c ∨ b ∈ k') := fun h => hk' (List.mem_cons.2 h)
      simp only [ns]; rw [ih' (fun h => hc (Or.inr h))];congr 1
      unfold fib; rw [List.filter_cons_of_neg]; simp; intro e2; exact hc (Or.inl (by rw [← e, e2]))
    rw [hk2 k hb.1]
    have : (fib f (a :: l) b).length = (fib f l b).length + 1 := by
     unfold fib; rw [List.filter_cons_of_pos (by simp [e]), List.length_cons]
    omega
   have hm : f a ∈ k := by rcases List.mem_cons.1 ha with h | h; exact absurd h e; exact h
   rw [ih hb.2 hm]
   have : (fib f (a :: l) b).length = (fib f l b).length := by
    unfold fib; rw [List.filter_cons_of_neg (by simp [e])]
   omega
theorem fib_exact {α β : Type} [DecidableEq β] (f : α → β) (l : List α) (k : List β) (a b : Nat) (hk : k.Nodup) (him : ∀ x, x ∈ l → f x ∈ k) (hkb : k.length ≤ b) (hf : ∀ y, y ∈ k → (fib f l y).length ≤ a) (hl : a * b ≤ l.length) (ha : 0 < a) :
  k.length = b ∧ ∀ y, y ∈ k → (fib f l y).length = a := by
 have h1 := ns_fib f k hk l him;have h2 := ns_le (l := k) (f := fun y => (fib f l y).length) hf;have h3 : k.length * a ≤ b * a := Nat.mul_le_mul_right _ hkb;have h4 : a * b = b * a := Nat.mul_comm _ _
 have h5 : k.length = b := by
  have : b * a ≤ k.length * a := by omega
  have := Nat.le_of_mul_le_mul_right this ha;omega
 refine ⟨h5, ns_eq hf (by rw [h5]; omega)⟩
def Prm (n : Nat) : Prop := 2 ≤ n ∧ ∀ d, d ∣ n → d = 1 ∨ d = n
theorem prm_factor : ∀ n : Nat, 2 ≤ n → ∃ r, Prm r ∧ r ∣ n := by
 intro n;induction n using Nat.strongRecOn with
 | ind n ih =>
  intro hn;by_cases h : ∀ d, d ∣ n → d = 1 ∨ d = n
  ·exact ⟨n, ⟨hn, h⟩, Nat.dvd_refl _⟩
  obtain ⟨d, hd⟩ := Classical.not_forall.1 h;have hdn : d ∣ n := Classical.byContradiction fun c => hd (fun x => absurd x c)
  have h1 : ¬ (d = 1 ∨ d = n) := fun c => hd (fun _ => c)
  have hpos : 0 < d := Nat.pos_of_dvd_of_pos hdn (by omega);have hle := Nat.le_of_dvd (by omega) hdn;obtain ⟨r, hr, hrd⟩ := ih d (by omega) (by omega);exact ⟨r, hr, Nat.dvd_trans hrd hdn⟩
theorem Prm.coprime {r n : Nat} (h : Prm r) (hn : ¬ r ∣ n) : Nat.Coprime r n := by
 rcases h.2 _ (Nat.gcd_dvd_left r n) with e | e
 ·exact e
 exact absurd (e ▸ Nat.gcd_dvd_right r n) hn
theorem Prm.dvd_mul {r a b : Nat} (h : Prm r) (hd : r ∣ a * b) : r ∣ a ∨ r ∣ b := by
 by_cases ha : r ∣ a
 ·exact Or.inl ha
 exact Or.inr ((h.coprime ha).dvd_of_dvd_mul_left hd)
theorem prm_pow_split {r : Nat} (hr : 2 ≤ r) : ∀ n : Nat, 0 < n → ∃ e k, n = r ^ e * k ∧ ¬ r ∣ k := by
 intro n;induction n using Nat.strongRecOn with
 | ind n ih =>
  intro hn;by_cases h : r ∣ n
  ·obtain ⟨c, rfl⟩ := h;have hc : 0 < c := Nat.pos_of_ne_zero (fun e => by rw [e] at hn; simp at hn)
   have hlt : c < r * c := by
    have := Nat.mul_le_mul_right c hr; omega
   obtain ⟨e, k, hk, hnd⟩ := ih c hlt hc;exact ⟨e + 1, k, by rw [hk, Nat.pow_succ, Nat.mul_comm (r ^ e) r, Nat.mul_assoc], hnd⟩
  exact ⟨0, n, by simp, h⟩
theorem dvd_prm_pow {r : Nat} (h : Prm r) : ∀ e d : Nat, d ∣ r ^ (e + 1) → d = r ^ (e + 1) ∨ d ∣ r ^ e := by
 intro e d hd;obtain ⟨c, hc⟩ := hd;by_cases hrc : r ∣ c
 ·obtain ⟨k, rfl⟩ := hrc;right
  refine ⟨k, ?_⟩;have hr : 0 < r := by have := h.1; omega
  apply Nat.eq_of_mul_eq_mul_right hr
  rw [← Nat.pow_succ, hc]; ac_rfl
 left
 have hcop : Nat.Coprime (r ^ (e + 1)) c := Nat.Coprime.pow_left _ (h.coprime hrc)
 have : c ∣ 1 := by
  have h2 : c ∣ r ^ (e + 1) := ⟨d, by rw [hc, Nat.mul_comm]⟩;have := Nat.dvd_gcd h2 (Nat.dvd_refl c);rwa [hcop] at this
 have : c = 1 := Nat.dvd_one.1 this;rw [hc, this, Nat.mul_one]
end Cw
end
-- GF
section
namespace Cw
class GF (K : Type) extends Rg K where
 deq : DecidableEq K
 p : Nat
 m : Nat
 els : List K
 prm : Prm p
 mpos : 0 < m
 nodup : els.Nodup
 all : ∀ x, x ∈ els
 card : els.length = p ^ m
 one_ne : (1 : K) ≠ 0
 char : nm p (1 : K) = 0
 inv : ∀ a : K, a ≠ 0 → ∃ b, a * b = 1
instance {K : Type} [GF K] : DecidableEq K := GF.deq
section gf
variable {K : Type} [GF K]
theorem dom : Dom K := by
 intro a b h;by_cases ha : a = 0
 ·exact Or.inl ha
 right
 obtain ⟨c, hc⟩ := GF.inv a ha;have : c * (a * b) = c * 0 := by rw [h]
 rw [← mul_assoc, mul_comm c a, hc, one_mul, mul_zero] at this;exact this
theorem mul_ne {a b : K} (ha : a ≠ 0) (hb : b ≠ 0) : a * b ≠ 0 := fun h => by
 rcases dom a b h with h | h
 ·exact ha h
 exact hb h
theorem mul_cancel {a b c : K} (ha : a ≠ 0) (h : a * b = a * c) : b = c := by
 obtain ⟨d, hd⟩ := GF.inv a ha;have : d * (a * b) = d * (a * c) := by rw [h]
 rwa [← mul_assoc, ← mul_assoc, mul_comm d a, hd, one_mul, one_mul] at this
theorem pw_ne {a : K} (ha : a ≠ 0) (n : Nat) : pw a n ≠ 0 := by
 induction n with
 | zero => exact GF.one_ne
 | succ n ih => exact mul_ne ih ha
abbrev qq (K : Type) [GF K] : Nat := GF.p K ^ GF.m K
theorem p_ge : 2 ≤ GF.p K := (GF.prm (K := K)).1
theorem pow_ge (d : Nat) : 1 ≤ GF.p K ^ d := Nat.one_le_pow _ _ (by have := p_ge (K := K); omega)
theorem pow_gt (d : Nat) (h : 0 < d) : 2 ≤ GF.p K ^ d := by
 obtain ⟨e, rfl⟩ : ∃ e, d = e + 1 := ⟨d - 1, by omega⟩;rw [Nat.pow_succ];have h1 := p_ge (K := K);have h2 := Nat.mul_le_mul (pow_ge (K := K) e) h1;omega
theorem qq_ge : 2 ≤ qq K := pow_gt _ GF.mpos
def lp (l : List K) : K := match l with
 | [] => 1
 | a :: l => a * lp l
theorem lp_perm {l k : List K} (h : l.Perm k) : lp l = lp k := by
 induction h with
 | nil => rfl
 | cons x _ ih => simp only [lp, ih]
 | swap x y l => simp only [lp]; exact mul_left_comm _ _ _
 | trans _ _ h1 h2 => rw [h1, h2]
theorem lp_map (x : K) (l : List K) : lp (l.map (x * ·)) = pw x l.length * lp l := by
 induction l with
 | nil => simp only [List.map_nil, lp, List.length_nil, pw_zero, one_mul]
 | cons a l ih => simp only [List.map_cons, lp, List.length_cons, ih, pw_succ]; ac_rfl
theorem lp_ne {l : List K} (h : ∀ x, x ∈ l → x ≠ 0) : lp l ≠ 0 := by
 induction l with
 | nil => exact GF.one_ne
 | cons a l ih => exact mul_ne (h a List.mem_cons_self) (ih (fun x hx => h x (List.mem_cons_of_mem _ hx)))
def nz (K : Type) [GF K] : List K := (GF.els (K := K)).filter (fun x => decide (x ≠ 0))
theorem mem_nz {x : K} : x ∈ nz K ↔ x ≠ 0 := by
 unfold nz; rw [List.mem_filter]; simp [GF.all x]
theorem nz_nodup : (nz K).Nodup := nodup_filter _ GF.nodup
theorem nz_len : (nz K).length = qq K - 1 := by
 have h : (0 :: nz K).length = qq K := by
  have hn : (0 :: nz K).Nodup := List.nodup_cons.2 ⟨fun h => mem_nz.1 h rfl, nz_nodup⟩;have h1 := nodup_len (0 :: nz K) (GF.els (K := K)) hn (fun x _ => GF.all x)
  have h2 := nodup_len (GF.els (K := K)) (0 :: nz K) GF.nodup (fun x _ => by
   by_cases e : x = 0
   ·rw [e]; exact List.mem_cons_self
   exact List.mem_cons_of_mem _ (mem_nz.2 e))
  rw [GF.card] at h1 h2;show (0 :: nz K).length = GF.p K ^ GF.m K
  omega
 simp only [List.length_cons] at h; omega
theorem pw_card {x : K} (hx : x ≠ 0) : pw x (qq K - 1) = 1 := by
 have hnd : ((nz K).map (x * ·)).Nodup := nodup_map nz_nodup (fun a _ b _ h => mul_cancel hx h)
 have hp : ((nz K).map (x * ·)).Perm (nz K) := by
  rw [List.perm_ext_iff_of_nodup hnd nz_nodup];intro a;constructor
  ·intro h;obtain ⟨b, hb, rfl⟩ := List.mem_map.1 h;exact mem_nz.2 (mul_ne hx (mem_nz.1 hb))
  exact nodup_full hnd (fun a h => by
   obtain ⟨b, hb, rfl⟩ := List.mem_map.1 h;exact mem_nz.2 (mul_ne hx (mem_nz.1 hb))) (by simp) a
 have h := lp_perm hp;rw [lp_map, nz_len] at h;have h2 : lp (nz K) * pw x (qq K - 1) = lp (nz K) * 1 := by rw [mul_one, mul_comm]; exact h
 exact mul_cancel (lp_ne (fun y hy => mem_nz.1 hy)) h2
theorem pw_q (x : K) : pw x (qq K) = x := by
 by_cases h : x = 0
 ·rw [h]; exact zero_pw (by have := qq_ge (K := K); omega)
 have h2 := qq_ge (K := K);rw [show qq K = (qq K - 1) + 1 from by omega, pw_succ, pw_card h, one_mul]
def IsOrd (x : K) (n : Nat) : Prop := 0 < n ∧ ∀ k, pw x k = 1 ↔ n ∣ k
theorem least_ex {P : Nat → Prop} (h : ∃ n, P n) : ∃ n, P n ∧ ∀ k, k < n → ¬ P k := by
 obtain ⟨n, hn⟩ := h;induction n using Nat.strongRecOn with
 | ind n ih =>
  by_cases hk : ∃ k, k < n ∧ P k
  ·obtain ⟨k, hk, hp⟩ := hk;exact ih k hk hp
  exact ⟨n, hn, fun k hkn hp => hk ⟨k, hkn, hp⟩⟩
theorem ord_of_least {x : K} {n : Nat} (hn : 0 < n) (h1 : pw x n = 1) (hl : ∀ k, 0 < k → k < n → pw x k ≠ 1) : IsOrd x n := by
 refine ⟨hn, fun k => ⟨fun h => ?_, fun ⟨c, hc⟩ => by rw [hc, pw_mul, h1, one_pw]⟩⟩
 have h2 : pw x (k % n) = 1 := by
  have : pw x k = pw x (n * (k / n) + k % n) := by rw [Nat.div_add_mod]
  rw [pw_add, pw_mul, h1, one_pw, one_mul] at this;rw [← this, h]
 by_cases hz : k % n = 0
 ·exact Nat.dvd_of_mod_eq_zero hz
 exact absurd h2 (hl _ (by omega) (Nat.mod_lt _ hn))
theorem ord_ex {x : K} (hx : x ≠ 0) : ∃ n, IsOrd x n := by
 obtain ⟨n, ⟨h0, h1⟩, hl⟩ := least_ex (P := fun n => 0 < n ∧ pw x n = 1) ⟨qq K - 1, by have := qq_ge (K := K); omega, pw_card hx⟩;exact ⟨n, ord_of_least h0 h1 (fun k hk hkn h => hl k hkn ⟨hk, h⟩)⟩
theorem IsOrd.pow_one {x : K} {n : Nat} (h : IsOrd x n) : pw x n = 1 := (h.2 n).2 (Nat.dvd_refl n)
theorem IsOrd.ne {x : K} {n : Nat} (h : IsOrd x n) : x ≠ 0 := fun e => by
 have := h.pow_one; rw [e, zero_pw h.1] at this; exact GF.one_ne this.symm
theorem ord_mul {a b : K} {n k : Nat} (ha : IsOrd a n) (hb : IsOrd b k) (hc : Nat.Coprime n k) : IsOrd (a * b) (n * k) := by
 refine ⟨Nat.mul_pos ha.1 hb.1, fun t => ⟨fun h => ?_, fun ⟨c, e⟩ => ?_⟩⟩
 ·rw [mul_pw] at h
  have h1 : n ∣ t := by
   have : pw a (t * k) = 1 := by
    have e : pw (pw a t * pw b t) k = 1 := by rw [h, one_pw]
    rw [mul_pw, ← pw_mul, ← pw_mul, Nat.mul_comm t k, pw_mul b, hb.pow_one, one_pw, mul_one, Nat.mul_comm k t] at e;exact e
   exact hc.dvd_of_dvd_mul_right ((ha.2 _).1 this)
  have h2 : k ∣ t := by
   have : pw b (t * n) = 1 := by
    have e : pw (pw a t * pw b t) n = 1 := by rw [h, one_pw]
    rw [mul_pw, ← pw_mul, ← pw_mul, Nat.mul_comm t n, pw_mul a, ha.pow_one, one_pw, one_mul, Nat.mul_comm n t] at e;exact e
   exact hc.symm.dvd_of_dvd_mul_right ((hb.2 _).1 this)
  exact hc.mul_dvd_of_dvd_of_dvd h1 h2
 have h1 : pw a t = 1 := (ha.2 t).2 ⟨k * c, by rw [e, Nat.mul_assoc]⟩;have h2 : pw b t = 1 := (hb.2 t).2 ⟨n * c, by rw [e]; ac_rfl⟩;rw [mul_pw, h1, h2, one_mul]
theorem roots_lt {c l : List K} {a : K} (ha : a ∈ c) (hne : a ≠ 0) (hl : l.Nodup) (hr : ∀ x, x ∈ l → ev c x = 0) : l.length < c.length := by
 refine Classical.byContradiction fun h => ?_
 exact hne (roots_zero dom l c hl (by omega) hr a ha)
theorem ev_zeros (n : Nat) (x : K) : ev (List.replicate n (0 : K)) x = 0 := by
 induction n with
 | zero => rfl
 | succ n ih => rw [List.replicate_succ, ev_cons, ih, mul_zero, add_zero]
theorem ev_top (c : List K) (n : Nat) (a : K) (h : c.length ≤ n) (x : K) : ev (c ++ List.replicate (n - c.length) 0 ++ [a]) x = ev c x + a * pw x n := by
 rw [ev_append, ev_append, ev_zeros, mul_zero, add_zero, ev_cons, ev_nil, mul_zero, add_zero, List.length_append, List.length_replicate, show c.length + (n - c.length) = n from by omega, mul_comm a]
theorem pow_roots {n : Nat} (a : K) (l : List K) (hl : l.Nodup) (hn : 0 < n) (hr : ∀ x, x ∈ l → pw x n = a) : l.length ≤ n := by
 have h := roots_lt (c := [-a] ++ List.replicate (n - [-a].length) 0 ++ [1]) (a := 1) (l := l) (by simp) GF.one_ne hl (fun x hx => by
  rw [ev_top _ _ _ (by simp; omega), one_mul, hr x hx, ev_cons, ev_nil, mul_zero, add_zero, neg_add])
 simp only [List.length_append, List.length_replicate, List.length_cons, List.length_nil] at h;omega
theorem ord_prime_pow {r e k : Nat} (hr : Prm r) (hq : qq K - 1 = r ^ e * k) : ∃ b : K, IsOrd b (r ^ e) := by
 cases e with
 | zero => exact ⟨1, by simp, fun k => ⟨fun _ => by simp, fun _ => one_pw k⟩⟩
 | succ e =>
  have hq0 := qq_ge (K := K);have hr0 := hr.1;have hk : 0 < k := Nat.pos_of_ne_zero (fun h => by rw [h] at hq; simp at hq; omega);have hpos : 0 < r ^ e * k := Nat.mul_pos (Nat.one_le_pow _ _ (by omega)) hk
  have hlt : r ^ e * k < qq K - 1 := by
   rw [hq, Nat.pow_succ, Nat.mul_right_comm];have := Nat.mul_le_mul_left (r ^ e * k) hr0;omega
  have hex : ∃ y : K, y ≠ 0 ∧ pw y (r ^ e * k) ≠ 1 := by
   refine Classical.byContradiction fun hn => ?_
   have := pow_roots (1 : K) (nz K) nz_nodup hpos (fun x hx => Classical.byContradiction fun h => hn ⟨x, mem_nz.1 hx, h⟩);rw [nz_len] at this; omega
  obtain ⟨y, hy, hyp⟩ := hex;refine ⟨pw y k, ?_⟩;obtain ⟨n, hn⟩ := ord_ex (pw_ne hy k);have h1 : pw (pw y k) (r ^ (e + 1)) = 1 := by rw [← pw_mul, Nat.mul_comm, ← hq, pw_card hy]
  have h2 : pw (pw y k) (r ^ e) ≠ 1 := by rw [← pw_mul, Nat.mul_comm]; exact hyp
  rcases dvd_prm_pow hr e n ((hn.2 _).1 h1) with h | h
  ·rw [← h]; exact hn
  exact absurd ((hn.2 _).2 h) h2
theorem ord_div : ∀ n : Nat, n ∣ qq K - 1 → (∃ c, qq K - 1 = n * c ∧ Nat.Coprime n c) → ∃ a : K, IsOrd a n := by
 intro n;induction n using Nat.strongRecOn with
 | ind n ih =>
  intro hd hc;have hq0 := qq_ge (K := K);have hn0 : 0 < n := Nat.pos_of_dvd_of_pos hd (by omega);by_cases h1 : n = 1
  ·subst h1; exact ⟨1, by simp, fun k => ⟨fun _ => by simp, fun _ => one_pw k⟩⟩
  obtain ⟨r, hr, hrn⟩ := prm_factor n (by omega);have hr0 := hr.1;obtain ⟨e, k, hk, hnd⟩ := prm_pow_split hr0 n hn0;obtain ⟨c, hqc, hcop⟩ := hc;have hk0 : 0 < k := Nat.pos_of_ne_zero (fun h => by rw [h] at hk; simp at hk; omega);have he : 0 < e := Nat.pos_of_ne_zero (fun h => by rw [h] at hk; simp at hk; exact hnd (hk ▸ hrn))
  have hre : 2 ≤ r ^ e := by
   obtain ⟨e', rfl⟩ : ∃ e', e = e' + 1 := ⟨e - 1, by omega⟩;rw [Nat.pow_succ];have := Nat.mul_le_mul (Nat.one_le_pow e' r (by omega)) hr0; omega
  have hkn : k < n := by
   rw [hk]; have := Nat.mul_le_mul_right k hre; omega
  have hcrk : Nat.Coprime (r ^ e) k := Nat.Coprime.pow_left _ (hr.coprime hnd)
  obtain ⟨a, ha⟩ := ih k hkn (Nat.dvd_trans ⟨r ^ e, by rw [hk, Nat.mul_comm]⟩ hd) ⟨r ^ e * c, by rw [hqc, hk]; ac_rfl, by
   apply Nat.Coprime.mul_right
   ·exact hcrk.symm
   exact Nat.Coprime.coprime_dvd_left ⟨r ^ e, by rw [hk, Nat.mul_comm]⟩ hcop⟩
  obtain ⟨b, hb⟩ := ord_prime_pow (K := K) (r := r) (e := e) (k := k * c) hr (by rw [hqc, hk]; ac_rfl);exact ⟨b * a, by rw [hk]; exact ord_mul hb ha hcrk⟩
theorem prim_ex : ∃ a : K, IsOrd a (qq K - 1) := ord_div _ (Nat.dvd_refl _) ⟨1, by simp, by simp⟩
theorem IsOrd.inj {x : K} {n : Nat} (h : IsOrd x n) {i j : Nat} (hi : i < n) (hj : j < n) (e : pw x i = pw x j) : i = j := by
 have key : ∀ i j, i ≤ j → j < n → pw x i = pw x j → i = j := by
  intro i j hij hj e;have : pw x j = pw x i * pw x (j - i) := by rw [← pw_add, show i + (j - i) = j from by omega]
  rw [← e] at this;have h2 : pw x i * 1 = pw x i * pw x (j - i) := by rw [mul_one]; exact this
  have h3 := mul_cancel (pw_ne h.ne i) h2;have h4 := (h.2 _).1 h3.symm;have := Nat.eq_zero_of_dvd_of_lt h4 (by omega);omega
 rcases Nat.le_total i j with hij | hij
 ·exact key i j hij hj e
 exact (key j i hij hi e.symm).symm
theorem prim_all {a : K} (h : IsOrd a (qq K - 1)) {x : K} (hx : x ≠ 0) : ∃ i, i < qq K - 1 ∧ pw a i = x := by
 have hnd : ((List.range (qq K - 1)).map (pw a)).Nodup := nodup_map List.nodup_range (fun i hi j hj e => h.inj (List.mem_range.1 hi) (List.mem_range.1 hj) e)
 have := nodup_full (k := nz K) hnd (fun y hy => by
  obtain ⟨i, _, rfl⟩ := List.mem_map.1 hy;exact mem_nz.2 (pw_ne h.ne i)) (by simp [nz_len]) x (mem_nz.2 hx)
 obtain ⟨i, hi, e⟩ := List.mem_map.1 this;exact ⟨i, List.mem_range.1 hi, e⟩
end gf
def ch : Nat → Nat → Nat
 | _, 0 => 1
 | 0, _ + 1 => 0
 | n + 1, k + 1 => ch n k + ch n (k + 1)
theorem ch_zero (n : Nat) : ch n 0 = 1 := by cases n <;> rfl
theorem ch_succ (n k : Nat) : ch (n + 1) (k + 1) = ch n k + ch n (k + 1) := rfl
theorem ch_gt : ∀ n k, n < k → ch n k = 0
 | 0, k + 1, _ => rfl
 | n + 1, k + 1, h => by rw [ch_succ, ch_gt n k (by omega), ch_gt n (k + 1) (by omega)]
theorem ch_self : ∀ n, ch n n = 1
 | 0 => rfl
 | n + 1 => by rw [ch_succ, ch_self n, ch_gt n (n + 1) (by omega)]
theorem ch_mul : ∀ n k, (k + 1) * ch (n + 1) (k + 1) = (n + 1) * ch n k
 | 0, 0 => rfl
 | 0, k + 1 => by rw [ch_succ]; simp [ch]
 | n + 1, 0 => by
  have := ch_mul n 0;rw [ch_succ, ch_zero]; rw [ch_zero] at this; omega
 | n + 1, k + 1 => by
  have h1 := ch_mul n k;have h2 := ch_mul n (k + 1);rw [ch_succ (n + 1) (k + 1), Nat.mul_add, h2];rw [show (k + 1 + 1) * ch (n + 1) (k + 1) = (k + 1) * ch (n + 1) (k + 1) + ch (n + 1) (k + 1) from by rw [Nat.succ_mul], h1];have h3 := ch_succ n k;have h4 : (n + 1) * ch (n + 1) (k + 1) = (n + 1) * ch n k + (n + 1) * ch n (k + 1) := by rw [h3, Nat.mul_add]
  rw [Nat.succ_mul (n + 1), h4]; omega
theorem ch_prm {p k : Nat} (hp : Prm p) (h0 : 0 < k) (hk : k < p) : p ∣ ch p k := by
 obtain ⟨n, rfl⟩ : ∃ n, p = n + 1 := ⟨p - 1, by omega⟩;obtain ⟨j, rfl⟩ : ∃ j, k = j + 1 := ⟨k - 1, by omega⟩;have h := ch_mul n j;have : (n + 1) ∣ (j + 1) * ch (n + 1) (j + 1) := ⟨_, h⟩;rcases hp.dvd_mul this with h | h
 ·have := Nat.le_of_dvd (by omega) h; omega
 exact h
section gf
variable {K : Type} [Rg K]
theorem pw_one_add (x : K) (n : Nat) : pw (x + 1) n = sm (n + 1) (fun k => nm (ch n k) (pw x k)) := by
 induction n with
 | zero => rw [sm_succ, sm_zero, zero_add, ch_zero, pw_zero, nm_succ, nm_zero, zero_add, pw_zero]
 | succ n ih =>
  rw [pw_succ, ih, mul_add, mul_one, sm_head (n + 1)]
  have h1 : sm (n + 1) (fun k => nm (ch n k) (pw x k)) * x = sm (n + 1) (fun k => nm (ch n k) (pw x (k + 1))) := by
   rw [← sm_mul_right]; exact sm_congr (fun k _ => by rw [nm_eq, mul_assoc, ← pw_succ, ← nm_eq])
  have h2 : sm (n + 1) (fun k => nm (ch n k) (pw x k)) = nm 1 (pw x 0) + sm (n + 1) (fun k => nm (ch n (k + 1)) (pw x (k + 1))) := by
   have : sm (n + 1 + 1) (fun k => nm (ch n k) (pw x k)) = sm (n + 1) (fun k => nm (ch n k) (pw x k)) := by
    rw [sm_succ, ch_gt n (n + 1) (by omega), nm_zero, add_zero]
   rw [← this, sm_head, ch_zero]
  have h3 : sm (n + 1) (fun k => nm (ch (n + 1) (k + 1)) (pw x (k + 1))) = sm (n + 1) (fun k => nm (ch n k) (pw x (k + 1))) + sm (n + 1) (fun k => nm (ch n (k + 1)) (pw x (k + 1))) := by
   rw [← sm_add]; exact sm_congr (fun k _ => by rw [ch_succ, nm_add])
  rw [h1, h3, ch_zero];conv => lhs; rw [h2]
  exact add_left_comm _ _ _
theorem nm_dvd {p n : Nat} (h : nm p (1 : K) = 0) (hd : p ∣ n) (x : K) : nm n x = 0 := by
 obtain ⟨c, rfl⟩ := hd;rw [Nat.mul_comm, nm_mul, nm_eq p x, h, zero_mul, nm_of_zero]
theorem pw_one_add_prm {p : Nat} (hp : Prm p) (h : nm p (1 : K) = 0) (x : K) : pw (x + 1) p = pw x p + 1 := by
 obtain ⟨n, rfl⟩ : ∃ n, p = n + 1 := ⟨p - 1, by have := hp.1; omega⟩;rw [pw_one_add, sm_succ, ch_self, sm_head, ch_zero, sm_zero_of (fun i hi => nm_dvd h (ch_prm hp (by omega) (by omega)) _), add_zero];simp only [nm_succ, nm_zero, zero_add, pw_zero];exact add_comm _ _
end gf
section gf
variable {K : Type} [GF K]
theorem pw_add_p (x y : K) : pw (x + y) (GF.p K) = pw x (GF.p K) + pw y (GF.p K) := by
 by_cases hy : y = 0
 ·have := p_ge (K := K);rw [hy, add_zero, zero_pw (by omega), add_zero]
 obtain ⟨c, hc⟩ := GF.inv y hy
 have h : x + y = y * (x * c + 1) := by
  rw [mul_add, mul_one, mul_left_comm, hc, mul_one]
 rw [h, mul_pw, pw_one_add_prm GF.prm GF.char, mul_add, mul_one, mul_pw, mul_left_comm, ← mul_pw, hc, one_pw, mul_one]
def fr (k : Nat) (x : K) : K := pw x (GF.p K ^ k)
theorem fr_zero (x : K) : fr 0 x = x := by unfold fr; rw [Nat.pow_zero, pw_one]
theorem fr_one (x : K) : fr 1 x = pw x (GF.p K) := by unfold fr; rw [Nat.pow_one]
theorem fr_fr (j k : Nat) (x : K) : fr j (fr k x) = fr (j + k) x := by
 unfold fr; rw [← pw_mul, ← Nat.pow_add, Nat.add_comm]
theorem fr_succ (k : Nat) (x : K) : fr (k + 1) x = pw (fr k x) (GF.p K) := by
 rw [← fr_one, fr_fr, Nat.add_comm]
theorem fr_add (k : Nat) (x y : K) : fr k (x + y) = fr k x + fr k y := by
 induction k with
 | zero => simp only [fr_zero]
 | succ k ih => rw [fr_succ, ih, pw_add_p, fr_succ, fr_succ]
theorem fr_mul (k : Nat) (x y : K) : fr k (x * y) = fr k x * fr k y := mul_pw _ _ _
theorem fr_of_zero (k : Nat) : fr k (0 : K) = 0 := zero_pw (by have := pow_ge (K := K) k; omega)
theorem fr_neg (k : Nat) (x : K) : fr k (-x) = -fr k x := by
 apply neg_unique; rw [← fr_add, add_neg, fr_of_zero]
theorem fr_sm (k n : Nat) (f : Nat → K) : fr k (sm n f) = sm n (fun i => fr k (f i)) := by
 induction n with
 | zero => rw [sm_zero, sm_zero, fr_of_zero]
 | succ n ih => rw [sm_succ, sm_succ, fr_add, ih]
theorem fr_m (x : K) : fr (GF.m K) x = x := pw_q x
theorem fr_mul_m (c : Nat) (x : K) : fr (GF.m K * c) x = x := by
 induction c with
 | zero => rw [Nat.mul_zero, fr_zero]
 | succ c ih => rw [Nat.mul_succ, Nat.add_comm, ← fr_fr, ih, fr_m]
theorem fr_mod (k : Nat) (x : K) : fr (k % GF.m K) x = fr k x := by
 have : fr k x = fr (k % GF.m K + GF.m K * (k / GF.m K)) x := by rw [Nat.mod_add_div]
 rw [this, ← fr_fr, fr_mul_m]
end gf
end Cw
end
-- Tr
section
namespace Cw
section tr
variable {K : Type} [GF K]
def tr (d : Nat) (x : K) : K := sm (GF.m K / d) (fun i => fr (d * i) x)
theorem tr_add (d : Nat) (x y : K) : tr d (x + y) = tr d x + tr d y := by
 unfold tr; rw [← sm_add]; exact sm_congr (fun i _ => fr_add _ _ _)
theorem tr_zero (d : Nat) : tr d (0 : K) = 0 := by
 unfold tr; exact sm_zero_of (fun i _ => fr_of_zero _)
theorem tr_neg (d : Nat) (x : K) : tr d (-x) = -tr d x := by
 apply neg_unique; rw [← tr_add, add_neg, tr_zero]
theorem tr_fr {d : Nat} (hd : d ∣ GF.m K) (x : K) : tr d (fr d x) = tr d x := by
 unfold tr
 rw [← sm_rotate (GF.m K / d) (fun i => fr (d * i) x)]
 ·exact sm_congr (fun i _ => by rw [fr_fr, Nat.mul_succ])
 rw [Nat.mul_div_cancel' hd, fr_m, Nat.mul_zero, fr_zero]
theorem fr_tr {d : Nat} (hd : d ∣ GF.m K) (x : K) : fr d (tr d x) = tr d x := by
 unfold tr
 rw [fr_sm];conv => rhs; rw [← sm_rotate (GF.m K / d) (fun i => fr (d * i) x) (by rw [Nat.mul_div_cancel' hd, fr_m, Nat.mul_zero, fr_zero])]
 exact sm_congr (fun i _ => by rw [fr_fr, Nat.mul_succ, Nat.add_comm])
theorem lin_list {Q : Nat} (hQ : 2 ≤ Q) (a : Nat → K) : ∀ n : Nat, ∃ c : List K, c.length = Q ^ n + 1 ∧ (∀ j, j ≤ n → a j ∈ c) ∧ ∀ x, ev c x = sm (n + 1) (fun j => a j * pw x (Q ^ j))
 | 0 => ⟨[0, a 0], by simp, fun j hj => by (have e : j = 0 := by omega); rw [e]; simp, fun x => by
   rw [ev_cons, ev_cons, ev_nil, mul_zero, add_zero, zero_add, sm_succ, sm_zero, zero_add, Nat.pow_zero, pw_one, mul_comm]⟩
 | n + 1 => by
  obtain ⟨c, hl, hm, he⟩ := lin_list hQ a n;have h1 : 1 ≤ Q ^ n := Nat.one_le_pow _ _ (by omega)
  have h2 : Q ^ n + 1 ≤ Q ^ (n + 1) := by
   rw [Nat.pow_succ]; have := Nat.mul_le_mul_left (Q ^ n) hQ; omega
  refine ⟨c ++ List.replicate (Q ^ (n + 1) - c.length) 0 ++ [a (n + 1)], ?_, ?_, ?_⟩
  ·simp only [List.length_append, List.length_replicate, List.length_cons, List.length_nil]; omega
  ·intro j hj;by_cases e : j = n + 1
   ·subst e; simp
   exact List.mem_append_left _ (List.mem_append_left _ (hm j (by omega)))
  intro x;rw [ev_top _ _ _ (by omega), he x, sm_succ (n + 1)]
theorem lin_roots {Q : Nat} (hQ : 2 ≤ Q) (a : Nat → K) (n j : Nat) (hj : j ≤ n) (ha : a j ≠ 0) (l : List K) (hl : l.Nodup) (hr : ∀ x, x ∈ l → sm (n + 1) (fun j => a j * pw x (Q ^ j)) = 0) : l.length ≤ Q ^ n := by
 obtain ⟨c, hc, hm, he⟩ := lin_list hQ a n;have := roots_lt (hm j hj) ha hl (fun x hx => by rw [he, hr x hx]);omega
theorem quot_pos {d : Nat} (hd : d ∣ GF.m K) (h0 : 0 < d) : 0 < GF.m K / d := Nat.div_pos (Nat.le_of_dvd GF.mpos hd) h0
theorem fr_mul_eq (d i : Nat) (x : K) : fr (d * i) x = pw x ((GF.p K ^ d) ^ i) := by unfold fr; rw [Nat.pow_mul]
theorem tr_roots {d : Nat} (hd : d ∣ GF.m K) (h0 : 0 < d) (l : List K) (hl : l.Nodup) (hr : ∀ x, x ∈ l → tr d x = 0) : l.length ≤ GF.p K ^ (GF.m K - d) := by
 have hn := quot_pos (K := K) hd h0;obtain ⟨n, hn'⟩ : ∃ n, GF.m K / d = n + 1 := ⟨GF.m K / d - 1, by omega⟩
 have h := lin_roots (K := K) (pow_gt d h0) (fun _ => 1) n 0 (Nat.zero_le _) GF.one_ne l hl (fun x hx => by
  rw [← hr x hx]; unfold tr; rw [hn']; exact sm_congr (fun i _ => by rw [one_mul, fr_mul_eq]))
 rw [← Nat.pow_mul] at h;have hm : GF.m K = d * (n + 1) := by rw [← hn', Nat.mul_div_cancel' hd]
 rwa [hm, Nat.mul_succ, Nat.add_sub_cancel]
theorem diff_roots {d : Nat} (h0 : 0 < d) (y : K) (l : List K) (hl : l.Nodup) (hr : ∀ x, x ∈ l → fr d x + -x = y) : l.length ≤ GF.p K ^ d := by
 have hQ := pow_gt (K := K) d h0
 have h := roots_lt (c := [-y, -1] ++ List.replicate (GF.p K ^ d - [-y, -(1 : K)].length) 0 ++ [1]) (a := 1) (l := l) (by simp) GF.one_ne hl (fun x hx => by
  rw [ev_top _ _ _ (by simp; omega), one_mul, ev_cons, ev_cons, ev_nil, mul_zero, add_zero, mul_neg, mul_one, ← hr x hx, neg_add_rev, neg_neg];show -fr d x + x + -x + fr d x = 0
  rw [add_assoc (-fr d x), add_neg, add_zero, neg_add])
 simp only [List.length_append, List.length_replicate, List.length_cons, List.length_nil] at h;omega
theorem sub_count {d : Nat} (hd : d ∣ GF.m K) (h0 : 0 < d) :
  (∀ x : K, tr d x = 0 ↔ ∃ y, fr d y + -y = x) ∧ ((GF.els (K := K)).filter (fun x => decide (fr d x = x))).length = GF.p K ^ d := by
 have hm : d ≤ GF.m K := Nat.le_of_dvd GF.mpos hd;have himg : ∀ y : K, tr d (fr d y + -y) = 0 := fun y => by rw [tr_add, tr_neg, tr_fr hd, add_neg]
 have hk := fib_exact (fun y : K => fr d y + -y) (GF.els (K := K)) ((GF.els (K := K)).filter (fun x => decide (tr d x = 0))) (GF.p K ^ d) (GF.p K ^ (GF.m K - d))
  (nodup_filter _ GF.nodup) (fun x _ => List.mem_filter.2 ⟨GF.all _, by simpa using himg x⟩)
  (tr_roots hd h0 _ (nodup_filter _ GF.nodup) (fun x hx => by simpa using (List.mem_filter.1 hx).2))
  (fun y _ => diff_roots h0 y _ (nodup_filter _ GF.nodup) (fun x hx => (mem_fib.1 hx).2))
  (by rw [GF.card, ← Nat.pow_add, show d + (GF.m K - d) = GF.m K from by omega]; exact Nat.le_refl _)
  (by have := pow_ge (K := K) d; omega)
 constructor
 ·intro x;constructor
  ·intro hx;have h := hk.2 x (List.mem_filter.2 ⟨GF.all _, by simpa using hx⟩);have hpos : 0 < (fib (fun y : K => fr d y + -y) GF.els x).length := by rw [h]; have := pow_ge (K := K) d; omega
   obtain ⟨y, hy⟩ := List.exists_mem_of_length_pos hpos;exact ⟨y, (mem_fib.1 hy).2⟩
  rintro ⟨y, rfl⟩; exact himg y
 have h := hk.2 0 (List.mem_filter.2 ⟨GF.all _, by simpa using tr_zero d⟩);rw [← h]; unfold fib;congr 1
 apply List.filter_congr
 intro x _;have : fr d x = x ↔ fr d x + -x = 0 := ⟨fun e => by rw [e, add_neg], sub_eq_zero⟩;simp [this]
def IsDeg (d : Nat) (x : K) (e : Nat) : Prop := 0 < e ∧ fr (d * e) x = x ∧ ∀ k, 0 < k → k < e → fr (d * k) x ≠ x
theorem deg_ex (d : Nat) (x : K) : ∃ e, IsDeg d x e ∧ e ≤ GF.m K := by
 have hx : fr (d * GF.m K) x = x := by rw [Nat.mul_comm, fr_mul_m]
 obtain ⟨e, ⟨h0, h1⟩, hl⟩ := least_ex (P := fun e => 0 < e ∧ fr (d * e) x = x) ⟨GF.m K, GF.mpos, hx⟩;refine ⟨e, ⟨h0, h1, fun k hk hke h => hl k hke ⟨hk, h⟩⟩, ?_⟩;exact Nat.le_of_not_lt (fun h => hl _ h ⟨GF.mpos, hx⟩)
theorem IsDeg.mul {d e : Nat} {x : K} (h : IsDeg d x e) (c : Nat) : fr (d * (e * c)) x = x := by
 induction c with
 | zero => rw [Nat.mul_zero, Nat.mul_zero, fr_zero]
 | succ c ih => rw [Nat.mul_succ, Nat.mul_add, ← fr_fr, h.2.1, ih]
theorem IsDeg.mod {d e : Nat} {x : K} (h : IsDeg d x e) (k : Nat) : fr (d * (k % e)) x = fr (d * k) x := by
 have : fr (d * k) x = fr (d * (k % e) + d * (e * (k / e))) x := by rw [← Nat.mul_add, Nat.mod_add_div]
 rw [this, ← fr_fr, h.mul]
theorem IsDeg.dvd {d e : Nat} {x : K} (h : IsDeg d x e) (k : Nat) : fr (d * k) x = x ↔ e ∣ k := by
 constructor
 ·intro hk;rw [← h.mod] at hk;by_cases hz : k % e = 0
  ·exact Nat.dvd_of_mod_eq_zero hz
  exact absurd hk (h.2.2 _ (by omega) (Nat.mod_lt _ h.1))
 rintro ⟨c, rfl⟩; exact h.mul c
end tr
end Cw
end
-- Res
section
namespace Cw
structure Op (R : Type) [Rg R] (M : Type) where
 add : M → M → M
 zero : M
 smul : R → M → M
 s : M → M
 add_assoc : ∀ a b c, add (add a b) c = add a (add b c)
 add_comm : ∀ a b, add a b = add b a
 zero_add : ∀ a, add zero a = a
 zero_smul : ∀ v, smul 0 v = zero
 one_smul : ∀ v, smul 1 v = v
 add_smul : ∀ a b v, smul (a + b) v = add (smul a v) (smul b v)
 smul_add : ∀ a v w, smul a (add v w) = add (smul a v) (smul a w)
 mul_smul : ∀ a b v, smul (a * b) v = smul a (smul b v)
 s_add : ∀ v w, s (add v w) = add (s v) (s w)
 s_smul : ∀ a v, s (smul a v) = smul a (s v)
section op
variable {R M : Type} [Rg R] (O : Op R M)
theorem Op.add_zero (a : M) : O.add a O.zero = a := by rw [O.add_comm, O.zero_add]
theorem Op.add_left_comm (a b c : M) : O.add a (O.add b c) = O.add b (O.add a c) := by
 rw [← O.add_assoc, O.add_comm a b, O.add_assoc]
theorem Op.add4 (a b c d : M) : O.add (O.add a b) (O.add c d) = O.add (O.add a c) (O.add b d) := by
 rw [O.add_assoc, O.add_assoc, O.add_left_comm b]
theorem Op.smul_zero (a : R) : O.smul a O.zero = O.zero := by
 have h : O.smul a (O.smul 0 O.zero) = O.zero := by rw [← O.mul_smul, mul_zero, O.zero_smul]
 rwa [O.zero_smul] at h
theorem Op.s_zero : O.s O.zero = O.zero := by
 rw [← O.zero_smul O.zero, O.s_smul, O.zero_smul, O.zero_smul]
theorem Op.smul_comm (a b : R) (v : M) : O.smul a (O.smul b v) = O.smul b (O.smul a v) := by
 rw [← O.mul_smul, ← O.mul_smul, mul_comm]
def Op.act (O : Op R M) (c : List R) (v : M) : M := match c with
 | [] => O.zero
 | a :: c => O.add (O.smul a v) (O.s (O.act c v))
theorem Op.act_nil (v : M) : O.act [] v = O.zero := rfl
theorem Op.act_cons (a : R) (c : List R) (v : M) : O.act (a :: c) v = O.add (O.smul a v) (O.s (O.act c v)) := rfl
theorem Op.act_add (c : List R) (v w : M) : O.act c (O.add v w) = O.add (O.act c v) (O.act c w) := by
 induction c with
 | nil => rw [O.act_nil, O.act_nil, O.act_nil, O.zero_add]
 | cons a c ih => rw [O.act_cons, O.act_cons, O.act_cons, ih, O.smul_add, O.s_add, O.add4]
theorem Op.act_smul (c : List R) (a : R) (v : M) : O.act c (O.smul a v) = O.smul a (O.act c v) := by
 induction c with
 | nil => rw [O.act_nil, O.act_nil, O.smul_zero]
 | cons b c ih => rw [O.act_cons, O.act_cons, ih, O.smul_add, O.smul_comm, O.s_smul]
theorem Op.act_s (c : List R) (v : M) : O.act c (O.s v) = O.s (O.act c v) := by
 induction c with
 | nil => rw [O.act_nil, O.act_nil, O.s_zero]
 | cons b c ih => rw [O.act_cons, O.act_cons, ih, O.s_add, O.s_smul]
theorem Op.act_zero (c : List R) : O.act c O.zero = O.zero := by
 rw [← O.zero_smul O.zero, O.act_smul, O.zero_smul, O.zero_smul]
theorem Op.act_act (c d : List R) (v : M) : O.act c (O.act d v) = O.act d (O.act c v) := by
 induction c with
 | nil => rw [O.act_nil, O.act_nil, O.act_zero]
 | cons a c ih => rw [O.act_cons, O.act_cons, ih, O.act_add, O.act_smul, O.act_s]
def gd (c : List R) (i : Nat) : R := c.getD i 0
theorem gd_nil (i : Nat) : gd ([] : List R) i = 0 := rfl
theorem gd_zero (a : R) (c : List R) : gd (a :: c) 0 = a := rfl
theorem gd_succ (a : R) (c : List R) (i : Nat) : gd (a :: c) (i + 1) = gd c i := by unfold gd; simp
theorem gd_ge {c : List R} {i : Nat} (h : c.length ≤ i) : gd c i = 0 := by unfold gd; simp [h]
theorem gd_append_left {c d : List R} {i : Nat} (h : i < c.length) : gd (c ++ d) i = gd c i := by
 unfold gd; simp [List.getD, List.getElem?_append_left h]
theorem gd_append_right {c d : List R} {i : Nat} (h : c.length ≤ i) : gd (c ++ d) i = gd d (i - c.length) := by
 unfold gd; simp [List.getD, List.getElem?_append_right h]
theorem gd_range (n : Nat) (f : Nat → R) (i : Nat) : gd ((List.range n).map f) i = if i < n then f i else 0 := by
 unfold gd; simp only [List.getD, List.getElem?_map]
 by_cases h : i < n
 ·simp [h]
 simp [h]
theorem Op.act_of_zero {c : List R} (h : ∀ i, gd c i = 0) (v : M) : O.act c v = O.zero := by
 induction c with
 | nil => rfl
 | cons a c ih =>
  have h0 := h 0;rw [gd_zero] at h0;rw [O.act_cons, ih (fun i => by rw [← gd_succ a]; exact h _), h0, O.zero_smul, O.s_zero, O.zero_add]
theorem Op.act_congr : ∀ {c d : List R}, (∀ i, gd c i = gd d i) → ∀ v : M, O.act c v = O.act d v
 | [], d, h, v => by rw [O.act_of_zero (c := d) (fun i => by rw [← h i, gd_nil]), O.act_nil]
 | a :: c, [], h, v => by rw [O.act_of_zero (c := a :: c) (fun i => by rw [h i, gd_nil]), O.act_nil]
 | a :: c, b :: d, h, v => by
  have h0 := h 0;rw [gd_zero, gd_zero] at h0;rw [O.act_cons, O.act_cons, h0, Op.act_congr (c := c) (d := d) (fun i => by rw [← gd_succ a, ← gd_succ b]; exact h _)]
def padd : List R → List R → List R
 | [], d => d
 | c, [] => c
 | a :: c, b :: d => (a + b) :: padd c d
theorem gd_padd : ∀ (c d : List R) (i : Nat), gd (padd c d) i = gd c i + gd d i
 | [], d, i => by rw [padd, gd_nil, zero_add]
 | a :: c, [], i => by rw [padd, gd_nil, add_zero]; simp
 | a :: c, b :: d, 0 => by rw [padd, gd_zero, gd_zero, gd_zero]
 | a :: c, b :: d, i + 1 => by rw [padd, gd_succ, gd_succ, gd_succ, gd_padd c d i]
def psm (a : R) (c : List R) : List R := c.map (a * ·)
theorem gd_psm (a : R) (c : List R) (i : Nat) : gd (psm a c) i = a * gd c i := by
 induction c generalizing i with
 | nil => rw [psm, List.map_nil, gd_nil, mul_zero]
 | cons b c ih => cases i with
  | zero => rw [psm, List.map_cons, gd_zero, gd_zero]
  | succ i => rw [psm, List.map_cons, gd_succ, gd_succ]; exact ih i
theorem Op.act_padd : ∀ (c d : List R) (v : M), O.act (padd c d) v = O.add (O.act c v) (O.act d v)
 | [], d, v => by rw [padd, O.act_nil, O.zero_add]
 | a :: c, [], v => by rw [padd, O.act_nil, O.add_zero]; simp
 | a :: c, b :: d, v => by rw [padd, O.act_cons, O.act_cons, O.act_cons, Op.act_padd c d v, O.add_smul, O.s_add, O.add4]
theorem Op.act_psm (a : R) (c : List R) (v : M) : O.act (psm a c) v = O.smul a (O.act c v) := by
 induction c with
 | nil => rw [psm, List.map_nil, O.act_nil, O.smul_zero]
 | cons b c ih => rw [psm, List.map_cons, O.act_cons, O.act_cons, O.mul_smul, O.smul_add, ← O.s_smul, ← ih, psm]
theorem Op.act_append (c d : List R) (v : M) : O.act (c ++ d) v = O.add (O.act c v) (O.act (List.replicate c.length 0 ++ d) v) := by
 induction c with
 | nil => rw [List.nil_append, O.act_nil, O.zero_add]; rfl
 | cons a c ih => rw [List.cons_append, O.act_cons, ih, O.act_cons, List.length_cons, List.replicate_succ, List.cons_append, O.act_cons, O.zero_smul, O.zero_add, O.s_add, O.add_assoc]
theorem padd_length : ∀ c d : List R, (padd c d).length = max c.length d.length
 | [], d => by simp [padd]
 | a :: c, [] => by simp [padd]
 | a :: c, b :: d => by simp only [padd, List.length_cons, padd_length c d]; omega
theorem psm_length (a : R) (c : List R) : (psm a c).length = c.length := by simp [psm]
end op
end Cw
end
-- Con
section
namespace Cw
structure Zp (p : Nat) where
 v : Nat
 lt : v < p
theorem Zp.ext' {p : Nat} {a b : Zp p} (h : a.v = b.v) : a = b := by
 cases a; cases b; cases h; rfl
section zp
variable {p : Nat} [hp : NeZero p]
theorem p_pos : 0 < p := Nat.pos_of_ne_zero hp.out
def zi (x : Int) : Zp p := ⟨(x % (p : Int)).toNat, by
 have h : 0 < p := p_pos;have h1 := Int.emod_nonneg x (b := (p : Int)) (by omega);have h2 := Int.emod_lt_of_pos x (b := (p : Int)) (by omega);omega⟩
theorem zi_v (x : Int) : (((zi x : Zp p).v : Nat) : Int) = x % (p : Int) := by
 have h : 0 < p := p_pos;have h1 := Int.emod_nonneg x (b := (p : Int)) (by omega);unfold zi; simp only; omega
theorem zi_eq {x y : Int} (h : x % (p : Int) = y % (p : Int)) : (zi x : Zp p) = zi y := by
 apply Zp.ext'
 have h1 := zi_v (p := p) x;have h2 := zi_v (p := p) y;omega
theorem zi_eq_iff {x y : Int} : (zi x : Zp p) = zi y ↔ x % (p : Int) = y % (p : Int) :=
 ⟨fun h => by rw [← zi_v, ← zi_v, h], zi_eq⟩
theorem zi_emod (x : Int) : (zi (x % (p : Int)) : Zp p) = zi x := zi_eq (Int.emod_emod_of_dvd _ (Int.dvd_refl _))
theorem zi_of (a : Zp p) : zi (a.v : Int) = a := by
 apply Zp.ext'
 have h1 := zi_v (p := p) (a.v : Int);have h2 := Int.emod_eq_of_lt (a := (a.v : Int)) (b := (p : Int)) (by omega) (by have := a.lt; omega);omega
theorem zi_v_of {x : Int} (h0 : 0 ≤ x) (h1 : x < (p : Int)) : ((zi x : Zp p).v : Int) = x := by
 rw [zi_v, Int.emod_eq_of_lt h0 h1]
instance : Add (Zp p) := ⟨fun a b => zi (a.v + b.v)⟩
instance : Mul (Zp p) := ⟨fun a b => zi (a.v * b.v)⟩
instance : Neg (Zp p) := ⟨fun a => zi (-a.v)⟩
instance : Zero (Zp p) := ⟨zi 0⟩
instance : One (Zp p) := ⟨zi 1⟩
theorem zi_add (x y : Int) : (zi (x + y) : Zp p) = zi x + zi y := by
 show zi (x + y) = zi (((zi x : Zp p).v : Int) + ((zi y : Zp p).v : Int))
 rw [zi_v, zi_v]; exact zi_eq (by rw [← Int.add_emod])
theorem zi_mul (x y : Int) : (zi (x * y) : Zp p) = zi x * zi y := by
 show zi (x * y) = zi (((zi x : Zp p).v : Int) * ((zi y : Zp p).v : Int))
 rw [zi_v, zi_v]; exact zi_eq (by rw [← Int.mul_emod])
theorem zi_neg (x : Int) : (zi (-x) : Zp p) = -zi x := by
 show zi (-x) = zi (-((zi x : Zp p).v : Int))
 rw [zi_v]; apply zi_eq;have := Int.emod_add_mul_ediv x (p : Int);have e : -x = -(x % (p : Int)) + (p : Int) * (-(x / (p : Int))) := by rw [Int.mul_neg]; omega
 rw [e, Int.add_mul_emod_self_left]
theorem zi_zero : (zi 0 : Zp p) = 0 := rfl
theorem zi_one : (zi 1 : Zp p) = 1 := rfl
instance : Rg (Zp p) where
 add_assoc' a b c := by rw [← zi_of a, ← zi_of b, ← zi_of c, ← zi_add, ← zi_add, ← zi_add, ← zi_add, Int.add_assoc]
 add_comm' a b := by rw [← zi_of a, ← zi_of b, ← zi_add, ← zi_add, Int.add_comm]
 zero_add' a := by rw [← zi_of a, ← zi_zero, ← zi_add, Int.zero_add]
 neg_add' a := by rw [← zi_of a, ← zi_neg, ← zi_add, Int.add_left_neg]; rfl
 mul_assoc' a b c := by rw [← zi_of a, ← zi_of b, ← zi_of c, ← zi_mul, ← zi_mul, ← zi_mul, ← zi_mul, Int.mul_assoc]
 mul_comm' a b := by rw [← zi_of a, ← zi_of b, ← zi_mul, ← zi_mul, Int.mul_comm]
 one_mul' a := by rw [← zi_of a, ← zi_one, ← zi_mul, Int.one_mul]
 mul_add' a b c := by rw [← zi_of a, ← zi_of b, ← zi_of c, ← zi_add, ← zi_mul, ← zi_mul, ← zi_mul, ← zi_add, Int.mul_add]
theorem zi_p : (zi (p : Int) : Zp p) = 0 := by rw [← zi_zero]; exact zi_eq (by simp)
theorem nm_zi (n : Nat) (x : Int) : nm n (zi x : Zp p) = zi (n * x) := by
 induction n with
 | zero => rw [nm_zero]; simp [zi_zero]
 | succ n ih => rw [nm_succ, ih, ← zi_add]; congr 1; rw [Int.natCast_add, Int.add_mul]; omega
theorem zp_dom (h : Prm p) : Dom (Zp p) := by
 intro a b e
 have key : ∀ a : Zp p, p ∣ a.v → a = 0 := by
  intro a ha;have : a.v = 0 := Nat.eq_zero_of_dvd_of_lt ha a.lt;rw [← zi_of a, this]; rfl
 rw [← zi_of a, ← zi_of b, ← zi_mul, ← zi_zero, zi_eq_iff] at e
 have e2 : p ∣ a.v * b.v := by
  apply Nat.dvd_of_mod_eq_zero
  have : ((a.v * b.v : Nat) : Int) % (p : Int) = 0 := by rw [Int.natCast_mul, e]; simp
  omega
 rcases h.dvd_mul e2 with h | h
 ·exact Or.inl (key a h)
 exact Or.inr (key b h)
theorem zp_one_ne (h : 2 ≤ p) : (1 : Zp p) ≠ 0 := by
 intro e;have e' : (zi 1 : Zp p) = zi 0 := e;rw [zi_eq_iff] at e';have h1 : (1 : Int) % (p : Int) = 1 := Int.emod_eq_of_lt (by omega) (by omega);rw [h1] at e'; simp at e'
end zp
theorem inv_of_dom {K : Type} [Rg K] (l : List K) (hnd : l.Nodup) (hall : ∀ x, x ∈ l) (hd : Dom K) (a : K) (ha : a ≠ 0) : ∃ b, a * b = 1 := by
 have : DecidableEq K := fun _ _ => Classical.propDecidable _
 have hinj : ∀ x y : K, a * x = a * y → x = y := by
  intro x y e;have : a * (x + -y) = 0 := by rw [mul_add, mul_neg, e, add_neg]
  rcases hd _ _ this with h | h
  ·exact absurd h ha
  exact sub_eq_zero h
 have hm := nodup_full (k := l) (nodup_map (f := (a * ·)) hnd (fun x _ y _ e => hinj x y e)) (fun x _ => hall x) (by simp) 1 (hall 1);obtain ⟨b, _, e⟩ := List.mem_map.1 hm;exact ⟨b, e⟩
structure RD where
 p : Nat
 m : Nat
 prm : Prm p
 mpos : 0 < m
 f : Nat → Int
instance (F : RD) : NeZero F.p := ⟨by have := F.prm.1; omega⟩
structure El (F : RD) where
 d : Fin F.m → Zp F.p
namespace El
variable {F : RD}
theorem ext' {x y : El F} (h : ∀ i, x.d i = y.d i) : x = y := by
 cases x; cases y; congr 1; exact funext h
def c (x : El F) (i : Nat) : Zp F.p := if h : i < F.m then x.d ⟨i, h⟩ else 0
theorem c_lt (x : El F) {i : Nat} (h : i < F.m) : x.c i = x.d ⟨i, h⟩ := by unfold c; rw [dif_pos h]
theorem c_ge (x : El F) {i : Nat} (h : F.m ≤ i) : x.c i = 0 := by unfold c; rw [dif_neg (by omega)]
theorem ext {x y : El F} (h : ∀ i, i < F.m → x.c i = y.c i) : x = y := ext' (fun i => by
 have := h i.1 i.2; rwa [c_lt _ i.2, c_lt _ i.2] at this)
def mk' (f : Nat → Zp F.p) : El F := ⟨fun i => f i.1⟩
theorem c_mk (f : Nat → Zp F.p) {i : Nat} (h : i < F.m) : (mk' (F := F) f).c i = f i := by rw [c_lt _ h]; rfl
instance : Add (El F) := ⟨fun x y => mk' fun i => x.c i + y.c i⟩
instance : Neg (El F) := ⟨fun x => mk' fun i => -x.c i⟩
instance : Zero (El F) := ⟨mk' fun _ => 0⟩
theorem c_add (x y : El F) (i : Nat) : (x + y).c i = x.c i + y.c i := by
 by_cases h : i < F.m
 ·exact c_mk _ h
 rw [c_ge _ (by omega), c_ge _ (by omega), c_ge _ (by omega), Cw.zero_add]
theorem c_neg (x : El F) (i : Nat) : (-x).c i = -x.c i := by
 by_cases h : i < F.m
 ·exact c_mk _ h
 rw [c_ge _ (by omega), c_ge _ (by omega), Cw.neg_zero]
theorem c_zero (i : Nat) : (0 : El F).c i = 0 := by
 by_cases h : i < F.m
 ·exact c_mk _ h
 rw [c_ge _ (by omega)]
def sml (a : Zp F.p) (x : El F) : El F := mk' fun i => a * x.c i
theorem c_sml (a : Zp F.p) (x : El F) (i : Nat) : (sml a x).c i = a * x.c i := by
 by_cases h : i < F.m
 ·exact c_mk _ h
 rw [c_ge _ (by omega), c_ge _ (by omega), Cw.mul_zero]
def tx (x : El F) : El F := mk' fun i => (if i = 0 then 0 else x.c (i - 1)) + -(x.c (F.m - 1) * zi (F.f i))
theorem c_tx (x : El F) {i : Nat} (h : i < F.m) : (tx x).c i = (if i = 0 then 0 else x.c (i - 1)) + -(x.c (F.m - 1) * zi (F.f i)) := c_mk _ h
def op (F : RD) : Op (Zp F.p) (El F) where
 add := (· + ·)
 zero := 0
 smul := sml
 s := tx
 add_assoc a b c := ext fun i _ => by simp only [c_add]; exact Cw.add_assoc _ _ _
 add_comm a b := ext fun i _ => by simp only [c_add]; exact Cw.add_comm _ _
 zero_add a := ext fun i _ => by simp only [c_add, c_zero]; exact Cw.zero_add _
 zero_smul v := ext fun i _ => by simp only [c_sml, c_zero]; exact Cw.zero_mul _
 one_smul v := ext fun i _ => by simp only [c_sml]; exact Cw.one_mul _
 add_smul a b v := ext fun i _ => by simp only [c_sml, c_add]; exact Cw.add_mul _ _ _
 smul_add a v w := ext fun i _ => by simp only [c_sml, c_add]; exact Cw.mul_add _ _ _
 mul_smul a b v := ext fun i _ => by simp only [c_sml]; exact Cw.mul_assoc _ _ _
 s_add v w := ext fun i h => by
  rw [c_add (tx v), c_tx _ h, c_add, c_tx _ h, c_tx _ h, c_add, Cw.add_mul, Cw.neg_add_rev];by_cases e : i = 0
  ·rw [if_pos e, if_pos e, if_pos e, Cw.zero_add, Cw.zero_add, Cw.zero_add]
  rw [if_neg e, if_neg e, if_neg e, Cw.add_add_add_comm]
 s_smul a v := ext fun i h => by
  rw [c_sml _ (tx v), c_tx _ h, c_sml, c_sml, c_tx _ h, Cw.mul_add, Cw.mul_neg, Cw.mul_assoc];by_cases e : i = 0
  ·rw [if_pos e, if_pos e, Cw.mul_zero]
  rw [if_neg e, if_neg e]
def lst (x : El F) : List (Zp F.p) := (List.range F.m).map x.c
theorem gd_lst (x : El F) (i : Nat) : gd x.lst i = x.c i := by
 unfold lst; rw [gd_range]
 by_cases h : i < F.m
 ·rw [if_pos h]
 rw [if_neg h, c_ge _ (by omega)]
theorem lst_length (x : El F) : x.lst.length = F.m := by unfold lst; simp
def vec (l : List (Zp F.p)) : El F := mk' (gd l)
theorem c_vec (l : List (Zp F.p)) {i : Nat} (h : i < F.m) : (vec (F := F) l).c i = gd l i := c_mk _ h
theorem vec_lst (x : El F) : vec x.lst = x := ext fun i h => by rw [c_vec _ h, gd_lst]
instance : One (El F) := ⟨mk' fun i => if i = 0 then 1 else 0⟩
theorem c_one {i : Nat} (h : i < F.m) : (1 : El F).c i = if i = 0 then 1 else 0 := c_mk _ h
theorem act_one : ∀ (l : List (Zp F.p)), l.length ≤ F.m → (op F).act l 1 = vec l
 | [], _ => ext fun i h => by rw [Op.act_nil, c_vec _ h, gd_nil]; exact c_zero i
 | a :: l, hl => by
  simp only [List.length_cons] at hl;rw [Op.act_cons, act_one l (by omega)];apply ext
  intro i h;show (sml a 1 + tx (vec l)).c i = _
  have hm := F.mpos;rw [c_add, c_sml, c_one h, c_tx _ h, c_vec _ (show F.m - 1 < F.m by omega), gd_ge (show l.length ≤ F.m - 1 by omega), Cw.zero_mul, Cw.neg_zero, Cw.add_zero, c_vec _ h]
  cases i with
  | zero => rw [if_pos rfl, if_pos rfl, Cw.mul_one, Cw.add_zero, gd_zero]
  | succ i => rw [if_neg (by omega), if_neg (by omega), Cw.mul_zero, Cw.zero_add, gd_succ, c_vec _ (by omega)]; rfl
instance : Mul (El F) := ⟨fun x y => (op F).act y.lst x⟩
theorem mul_def (x y : El F) : x * y = (op F).act y.lst x := rfl
theorem lst_one (x : El F) : (op F).act x.lst 1 = x := by rw [act_one _ (by rw [lst_length]; omega), vec_lst]
theorem mul_comm' (x y : El F) : x * y = y * x := by
 rw [mul_def, mul_def];conv => lhs; rw [← lst_one x]
 conv => rhs; rw [← lst_one y]
 exact Op.act_act _ _ _ _
theorem mul_assoc' (x y z : El F) : x * y * z = x * (y * z) := by
 rw [mul_comm' x (y * z), mul_def (x * y) z, mul_def (y * z) x, mul_def y z, Op.act_act _ x.lst, ← mul_def y x, mul_comm' y x]
instance : Rg (El F) where
 add_assoc' := (op F).add_assoc
 add_comm' := (op F).add_comm
 zero_add' := (op F).zero_add
 neg_add' x := ext fun i _ => by rw [c_add, c_neg, c_zero, Cw.neg_add]
 mul_assoc' := mul_assoc'
 mul_comm' := mul_comm'
 one_mul' x := by rw [mul_def, lst_one]
 mul_add' x y z := by
  rw [mul_comm' x, mul_comm' x, mul_comm' x, mul_def, mul_def, mul_def];exact Op.act_add _ _ _ _
theorem act_mul (l : List (Zp F.p)) (v : El F) : (op F).act l v = (op F).act l 1 * v := by
 conv => lhs; rw [← lst_one v]
 rw [Op.act_act, mul_def]
def md (F : RD) : List (Zp F.p) := (List.range F.m).map (fun i => zi (F.f i)) ++ [1]
theorem md_length : (md F).length = F.m + 1 := by unfold md; simp
theorem act_append_top (l : List (Zp F.p)) (a : Zp F.p) (v : El F) : (op F).act (l ++ [a]) v = (op F).act l v + (op F).act (List.replicate l.length 0 ++ [a]) v := Op.act_append _ _ _ _
theorem act_shift (O : Op (Zp F.p) (El F)) (n : Nat) (l : List (Zp F.p)) (v : El F) : O.act (List.replicate (n + 1) 0 ++ l) v = O.s (O.act (List.replicate n 0 ++ l) v) := by
 rw [List.replicate_succ, List.cons_append, Op.act_cons, O.zero_smul, O.zero_add]
theorem act_md (v : El F) : (op F).act (md F) v = 0 := by
 rw [act_mul]
 have : (op F).act (md F) 1 = 0 := by
  unfold md
  rw [act_append_top, act_one _ (by simp)];have hm := F.mpos;simp only [List.length_map, List.length_range]
  have e : (op F).act (List.replicate F.m 0 ++ [1]) 1 = tx (vec (List.replicate (F.m - 1) 0 ++ [1])) := by
   rw [← act_one _ (by simp; omega), show F.m = (F.m - 1) + 1 from by omega, act_shift];simp only [Nat.add_sub_cancel]; rfl
  rw [e];apply ext
  intro i h;rw [c_add, c_zero, c_vec _ h, c_tx _ h, c_vec _ (show F.m - 1 < F.m by omega), gd_append_right (by simp), gd_range, if_pos h];simp only [List.length_replicate, Nat.sub_self, gd_zero, Cw.one_mul]
  have : (if i = 0 then (0 : Zp F.p) else (vec (F := F) (List.replicate (F.m - 1) 0 ++ [1])).c (i - 1)) = 0 := by
   by_cases hi : i = 0
   ·rw [if_pos hi]
   rw [if_neg hi, c_vec _ (by omega), gd_append_left (by simp; omega)];unfold gd; simp [List.getD, List.getElem?_replicate]
   split <;> rfl
  rw [this, Cw.zero_add, Cw.add_neg]
 rw [this, Cw.zero_mul]
end El
end Cw
end
-- El
section
namespace Cw
def cd (p : Nat) : List Nat → Nat
 | [] => 0
 | a :: l => a + p * cd p l
def dg (p : Nat) : Nat → Nat → List Nat
 | 0, _ => []
 | n + 1, x => x % p :: dg p n (x / p)
theorem dg_length (p n x : Nat) : (dg p n x).length = n := by
 induction n generalizing x with
 | zero => rfl
 | succ n ih => simp [dg, ih]
theorem dg_lt {p : Nat} (hp : 0 < p) (n x : Nat) : ∀ a, a ∈ dg p n x → a < p := by
 induction n generalizing x with
 | zero => intro a h; cases h
 | succ n ih =>
  intro a h;rcases List.mem_cons.1 h with rfl | h
  ·exact Nat.mod_lt _ hp
  exact ih _ _ h
theorem cd_dg {p : Nat} (hp : 0 < p) (n x : Nat) (h : x < p ^ n) : cd p (dg p n x) = x := by
 induction n generalizing x with
 | zero => simp at h; simp [dg, cd, h]
 | succ n ih =>
  rw [dg, cd, ih (x / p) (by rw [Nat.div_lt_iff_lt_mul hp, ← Nat.pow_succ]; exact h)];exact Nat.mod_add_div x p
theorem dg_cd {p : Nat} (l : List Nat) (h : ∀ a, a ∈ l → a < p) : dg p l.length (cd p l) = l := by
 induction l with
 | nil => rfl
 | cons a l ih =>
  have ha := h a List.mem_cons_self;rw [List.length_cons, dg, cd, Nat.add_mul_mod_self_left, Nat.mod_eq_of_lt ha, Nat.add_mul_div_left _ _ (by omega), Nat.div_eq_of_lt ha, Nat.zero_add, ih (fun b hb => h b (List.mem_cons_of_mem _ hb))]
theorem cd_lt {p : Nat} (l : List Nat) (h : ∀ a, a ∈ l → a < p) : cd p l < p ^ l.length := by
 induction l with
 | nil => simp [cd]
 | cons a l ih =>
  have ha := h a List.mem_cons_self;have h1 := ih (fun b hb => h b (List.mem_cons_of_mem _ hb));rw [cd, List.length_cons, Nat.pow_succ];have h2 : p * (cd p l + 1) ≤ p * p ^ l.length := Nat.mul_le_mul_left _ h1;rw [Nat.mul_succ] at h2;rw [Nat.mul_comm (p ^ l.length)]; omega
namespace El
variable {F : RD}
def code (x : El F) : Nat := cd F.p (x.lst.map Zp.v)
def dec (F : RD) (n : Nat) : El F := vec ((dg F.p F.m n).map (fun a : Nat => zi (a : Int)))
theorem code_lt (x : El F) : x.code < F.p ^ F.m := by
 have h := cd_lt (p := F.p) (x.lst.map Zp.v) (fun a ha => by
  obtain ⟨b, _, rfl⟩ := List.mem_map.1 ha; exact b.lt)
 rw [List.length_map, lst_length] at h; exact h
theorem lst_vec {l : List (Zp F.p)} (h : l.length = F.m) : (vec (F := F) l).lst = l := by
 apply List.ext_getElem
 ·rw [lst_length, h]
 intro i h1 h2;have e := gd_lst (vec (F := F) l) i;rw [lst_length] at h1;rw [c_vec _ h1] at e;unfold gd at e
 simp only [List.getD, h2, List.getElem?_eq_getElem, Option.getD_some] at e;rw [List.getElem?_eq_getElem (by rw [lst_length]; exact h1)] at e;simpa using e
theorem code_dec {n : Nat} (h : n < F.p ^ F.m) : (dec F n).code = n := by
 unfold code dec
 rw [lst_vec (by simp [dg_length]), List.map_map];have hp : 0 < F.p := by have := F.prm.1; omega
 have : (dg F.p F.m n).map (Zp.v ∘ fun a : Nat => (zi (a : Int) : Zp F.p)) = dg F.p F.m n := by
  conv => rhs; rw [← List.map_id (dg F.p F.m n)]
  apply List.map_congr_left
  intro a ha;have := zi_v_of (p := F.p) (x := (a : Int)) (by omega) (by have := dg_lt hp _ _ a ha; omega);simp only [Function.comp_apply, id]; omega
 rw [this, cd_dg hp _ _ h]
theorem dec_code (x : El F) : dec F x.code = x := by
 unfold code dec
 have h := dg_cd (p := F.p) (x.lst.map Zp.v) (fun a ha => by
  obtain ⟨b, _, rfl⟩ := List.mem_map.1 ha; exact b.lt)
 rw [List.length_map, lst_length] at h;rw [h, List.map_map]
 have : x.lst.map ((fun a : Nat => (zi (a : Int) : Zp F.p)) ∘ Zp.v) = x.lst := by
  conv => rhs; rw [← List.map_id x.lst]
  apply List.map_congr_left
  intro a _;simp only [Function.comp_apply, id]; exact zi_of a
 rw [this, vec_lst]
theorem code_inj {x y : El F} (h : x.code = y.code) : x = y := by rw [← dec_code x, h, dec_code]
theorem dec_inj {a b : Nat} (ha : a < F.p ^ F.m) (hb : b < F.p ^ F.m) (h : dec F a = dec F b) : a = b := by
 rw [← code_dec ha, h, code_dec hb]
def els (F : RD) : List (El F) := (List.range (F.p ^ F.m)).map (dec F)
theorem els_nodup : (els F).Nodup := nodup_map List.nodup_range (fun _ ha _ hb e => dec_inj (List.mem_range.1 ha) (List.mem_range.1 hb) e)
theorem els_all (x : El F) : x ∈ els F := List.mem_map.2 ⟨x.code, List.mem_range.2 x.code_lt, dec_code x⟩
theorem els_length : (els F).length = F.p ^ F.m := by simp [els]
theorem c_nm (n : Nat) (x : El F) (i : Nat) : (nm n x).c i = nm n (x.c i) := by
 induction n with
 | zero => rw [nm_zero, nm_zero, c_zero]
 | succ n ih => rw [nm_succ, nm_succ, c_add, ih]
theorem char0 : nm F.p (1 : El F) = 0 := ext fun i h => by
 rw [c_nm, c_zero, c_one h];by_cases e : i = 0
 ·rw [if_pos e, ← zi_one, nm_zi, Int.mul_one, zi_p]
 rw [if_neg e, nm_of_zero]
theorem one_ne0 : (1 : El F) ≠ 0 := fun h => by
 have e : (1 : El F).c 0 = (0 : El F).c 0 := by rw [h]
 rw [c_one F.mpos, c_zero, if_pos rfl] at e;exact zp_one_ne F.prm.1 e
end El
class Irr (F : RD) : Prop where
 dom : Dom (El F)
instance (F : RD) [h : Irr F] : GF (El F) where
 deq := fun x y => if e : x.code = y.code then isTrue (El.code_inj e) else isFalse (fun h => e (by rw [h]))
 p := F.p
 m := F.m
 els := El.els F
 prm := F.prm
 mpos := F.mpos
 nodup := El.els_nodup
 all := El.els_all
 card := El.els_length
 one_ne := El.one_ne0
 char := El.char0
 inv := inv_of_dom (El.els F) El.els_nodup El.els_all h.dom
end Cw
end
-- Irr
section
namespace Cw
section dv
variable {R : Type} [Rg R]
def DivRel (G D E r : List R) : Prop := ∀ (M : Type) (O : Op R M) (v : M), O.act G v = O.add (O.act E (O.act D v)) (O.act r v)
theorem DivRel.start (G D : List R) : DivRel G D [] G := fun _ O v => by rw [O.act_nil, O.zero_add]
theorem DivRel.congr {G D E r r' : List R} (h : DivRel G D E r) (hr : ∀ i, gd r i = gd r' i) : DivRel G D E r' := fun M O v => by
 rw [h M O v, O.act_congr hr]
theorem act_shiftn {M : Type} (O : Op R M) (n : Nat) (l : List R) (v : M) : O.act (List.replicate n 0 ++ l) v = O.act (List.replicate n 0 ++ [1]) (O.act l v) := by
 induction n with
 | zero => rw [List.replicate_zero, List.nil_append, List.nil_append, O.act_cons, O.act_nil, O.s_zero, O.add_zero, O.one_smul]
 | succ n ih => rw [List.replicate_succ, List.cons_append, List.cons_append, O.act_cons, O.act_cons, O.zero_smul, O.zero_smul, O.zero_add, O.zero_add, ih]
theorem gd_shift (n : Nat) (l : List R) (t : Nat) : gd (List.replicate n 0 ++ l) t = if t < n then 0 else gd l (t - n) := by
 by_cases h : t < n
 ·rw [if_pos h, gd_append_left (by simp; omega)]; unfold gd; simp [List.getD, h]
 rw [if_neg h, gd_append_right (by simp; omega)]; simp
theorem act_mono {M : Type} (O : Op R M) (n : Nat) (c : R) (v : M) : O.act (List.replicate n 0 ++ [c]) v = O.smul c (O.act (List.replicate n 0 ++ [1]) v) := by
 have e : ∀ t, gd (List.replicate n 0 ++ [c]) t = gd (psm c (List.replicate n 0 ++ [1])) t := fun t => by
  rw [gd_psm, gd_shift, gd_shift];by_cases h : t < n
  ·rw [if_pos h, if_pos h, mul_zero]
  rw [if_neg h, if_neg h]
  cases t - n with
  | zero => rw [gd_zero, gd_zero, mul_one]
  | succ j => rw [gd_succ, gd_succ, gd_nil, mul_zero]
 rw [O.act_congr e, O.act_psm]
theorem DivRel.step {G D E r r' : List R} (h : DivRel G D E r) (n : Nat) (c : R) (h' : ∀ t, gd r t = gd r' t + c * gd (List.replicate n 0 ++ D) t) : DivRel G D (padd E (List.replicate n 0 ++ [c])) r' := fun M O v => by
 have e : ∀ t, gd r t = gd (padd r' (psm c (List.replicate n 0 ++ D))) t := fun t => by rw [gd_padd, gd_psm, h']
 rw [h M O v, O.act_congr e, O.act_padd, O.act_padd, O.act_psm, act_mono O n c, act_shiftn O n D, O.add_assoc];congr 1; exact O.add_comm _ _
theorem snoc_ex {α : Type} (l : List α) (h : l ≠ []) : ∃ l' a, l = l' ++ [a] := ⟨l.dropLast, l.getLast h, (List.dropLast_concat_getLast h).symm⟩
theorem div_ex (low : List R) : ∀ (n : Nat) (G : List R), G.length = n → ∃ E r, DivRel G (low ++ [1]) E r ∧ r.length ≤ low.length ∧ E.length ≤ G.length - low.length ∧ (low.length < G.length → gd E (G.length - 1 - low.length) = gd G (G.length - 1)) := by
 intro n;induction n with
 | zero => intro G hG; exact ⟨[], G, DivRel.start _ _, by omega, by simp, fun h => by omega⟩
 | succ n ih =>
  intro G hG;by_cases hk : G.length ≤ low.length
  ·exact ⟨[], G, DivRel.start _ _, hk, by simp, fun h => by omega⟩
  obtain ⟨G', c, rfl⟩ := snoc_ex G (by intro e; rw [e] at hG; simp at hG);simp only [List.length_append, List.length_cons, List.length_nil] at hG hk
  -- take off c X^j (low ++ [1])
  have hlen : (padd G' (psm (-c) (List.replicate (n - low.length) 0 ++ low))).length = n := by
   rw [padd_length, psm_length, List.length_append, List.length_replicate]; omega
  obtain ⟨E, r, h1, h2, h3, h4⟩ := ih _ hlen;rw [hlen] at h3 h4
  have hstep : DivRel (G' ++ [c]) (low ++ [1]) (List.replicate (n - low.length) 0 ++ [c]) (padd G' (psm (-c) (List.replicate (n - low.length) 0 ++ low))) := by
   have e0 : List.replicate (n - low.length) 0 ++ [c] = padd [] (List.replicate (n - low.length) 0 ++ [c]) := by simp [padd]
   rw [e0];refine (DivRel.start (G' ++ [c]) (low ++ [1])).step (n - low.length) c (fun t => ?_);rw [gd_padd, gd_psm, ← List.append_assoc];by_cases ht : t < n
   ·rw [gd_append_left (c := G') (by omega), gd_append_left (c := List.replicate (n - low.length) 0 ++ low) (by simp; omega), neg_mul, add_assoc, neg_add, add_zero]
   rw [gd_append_right (by omega), gd_ge (show G'.length ≤ t by omega), gd_ge (show (List.replicate (n - low.length) (0 : R) ++ low).length ≤ t by simp; omega), mul_zero, add_zero, zero_add, gd_append_right (by simp; omega)];simp only [List.length_append, List.length_replicate];rw [show n - low.length + low.length = G'.length from by omega]
   cases t - G'.length with
   | zero => rw [gd_zero, gd_zero, mul_one]
   | succ j => rw [gd_succ, gd_succ, gd_nil, mul_zero]
  refine ⟨padd (List.replicate (n - low.length) 0 ++ [c]) E, r, ?_, h2, ?_, ?_⟩
  ·intro M O v;rw [hstep M O v, h1 M O v, O.act_padd, O.add_assoc]
  ·rw [padd_length]; simp only [List.length_append, List.length_replicate, List.length_cons, List.length_nil]; omega
  intro _;simp only [List.length_append, List.length_cons, List.length_nil, Nat.add_sub_cancel];rw [gd_padd, gd_append_right (c := List.replicate (n - low.length) 0) (by simp; omega), gd_append_right (c := G') (Nat.le_refl _), gd_ge (c := E) (by omega), add_zero];simp only [List.length_replicate];rw [show G'.length - low.length - (n - low.length) = 0 from by omega, Nat.sub_self]
theorem top_ex : ∀ (n : Nat) (r : List R), r.length = n → (∀ i, gd r i = 0) ∨ ∃ low a, a ≠ 0 ∧ low.length < r.length ∧ ∀ i, gd r i = gd (low ++ [a]) i := by
 intro n;induction n with
 | zero => intro r h; left; intro i; rw [gd_ge (by omega)]
 | succ n ih =>
  intro r h;obtain ⟨l, a, rfl⟩ := snoc_ex r (by intro e; rw [e] at h; simp at h);by_cases ha : a = 0
  ·have e : ∀ i, gd (l ++ [a]) i = gd l i := fun i => by
    by_cases hi : i < l.length
    ·rw [gd_append_left hi]
    rw [gd_append_right (by omega), gd_ge (show l.length ≤ i by omega), ha]
    cases i - l.length <;> rfl
   simp only [List.length_append, List.length_cons, List.length_nil] at h;rcases ih l (by omega) with h1 | ⟨low, b, hb, hl, h2⟩
   ·left; intro i; rw [e, h1]
   right; exact ⟨low, b, hb, by simp; omega, fun i => by rw [e, h2]⟩
  right; exact ⟨l, a, ha, by simp, fun i => rfl⟩
end dv
namespace El
variable {F : RD}
theorem zp_els : ∃ l : List (Zp F.p), l.Nodup ∧ ∀ x, x ∈ l := by
 refine ⟨(List.range F.p).map (fun a : Nat => zi (a : Int)), nodup_map List.nodup_range (fun a ha b hb e => ?_), fun x => List.mem_map.2 ⟨x.v, List.mem_range.2 x.lt, zi_of x⟩⟩;have h1 := zi_v_of (p := F.p) (x := (a : Int)) (by omega) (by have := List.mem_range.1 ha; omega);have h2 := zi_v_of (p := F.p) (x := (b : Int)) (by omega) (by have := List.mem_range.1 hb; omega);rw [e] at h1; omega
theorem zp_inv (a : Zp F.p) (ha : a ≠ 0) : ∃ b, a * b = 1 := by
 obtain ⟨l, h1, h2⟩ := zp_els (F := F);exact inv_of_dom l h1 h2 (zp_dom F.prm) a ha
def Has (x : El F) (k : Nat) : Prop := ∃ low : List (Zp F.p), low.length = k ∧ ∃ z, (op F).act (low ++ [1]) 1 = x * z
theorem has_of {x z : El F} {r : List (Zp F.p)} (h : (op F).act r 1 = x * z) (hr : ¬ ∀ i, gd r i = 0) : ∃ k, k < r.length ∧ Has x k := by
 rcases top_ex _ r rfl with h1 | ⟨low, a, ha, hl, h2⟩
 ·exact absurd h1 hr
 obtain ⟨b, hb⟩ := zp_inv a ha;refine ⟨low.length, hl, psm b low, psm_length _ _, z * sml b 1, ?_⟩
 have e : ∀ i, gd (psm b low ++ [1]) i = gd (psm b r) i := fun i => by
  rw [gd_psm, h2, ← gd_psm];by_cases hi : i < low.length
  ·rw [gd_append_left (by rw [psm_length]; exact hi), gd_psm, gd_psm, gd_append_left hi]
  rw [gd_append_right (by rw [psm_length]; omega), psm_length, gd_psm, gd_append_right (by omega)]
  cases i - low.length with
  | zero => rw [gd_zero, gd_zero, Cw.mul_comm, hb]
  | succ j => rw [gd_succ, gd_succ, gd_nil, Cw.mul_zero]
 rw [Op.act_congr _ e, Op.act_psm, h]
 have e2 : ∀ v : El F, (op F).smul b v = v * sml b 1 := fun v => by
  have : sml b (1 : El F) = (op F).act [b] 1 := by rw [Op.act_cons, Op.act_nil, Op.s_zero, Op.add_zero]; rfl
  rw [this, Cw.mul_comm, ← act_mul, Op.act_cons, Op.act_nil, Op.s_zero, Op.add_zero]
 rw [e2, Cw.mul_assoc]
theorem md_gd_m : gd (md F) F.m = 1 := by
 unfold md; rw [gd_append_right (by simp)]; simp [gd]
theorem zd_div {x y : El F} {j : Nat} (hy : y ≠ 0) (hxy : x * y = 0) (hj : Has x j) (hjm : j < F.m) :
  ∃ low E : List (Zp F.p), 1 ≤ low.length ∧ low.length ≤ j ∧ DivRel (md F) (low ++ [1]) E [] ∧ E.length ≤ F.m + 1 - low.length ∧ gd E (F.m - low.length) = 1 := by
 obtain ⟨k, ⟨low, hlow, z, hz⟩, hmin⟩ := least_ex (P := Has x) ⟨j, hj⟩;have hkj : k ≤ j := Nat.le_of_not_lt (fun h => hmin j h hj)
 have hk : 1 ≤ k := by
  refine Classical.byContradiction fun h => ?_
  have : low = [] := List.length_eq_zero_iff.1 (by omega);rw [this, List.nil_append, Op.act_cons, Op.act_nil, Op.s_zero, Op.add_zero, Op.one_smul] at hz;apply hy
  rw [← Cw.one_mul y, hz, Cw.mul_assoc, Cw.mul_comm z, ← Cw.mul_assoc, hxy, Cw.zero_mul]
 obtain ⟨E, r, h1, h2, h3, h4⟩ := div_ex low _ (md F) rfl;rw [md_length] at h3 h4
 have hr : (op F).act r 1 = x * -(z * (op F).act E 1) := by
  have := h1 _ (op F) 1;rw [act_md, hz, act_mul E] at this;have h5 : (op F).act r 1 = -((op F).act E 1 * (x * z)) := neg_unique this.symm;rw [h5, Cw.mul_neg]; congr 1;rw [Cw.mul_comm ((op F).act E 1), Cw.mul_assoc]
 have hr0 : ∀ i, gd r i = 0 := by
  refine Classical.byContradiction fun h => ?_
  obtain ⟨k', hk', hh⟩ := has_of hr h;exact hmin k' (by omega) hh
 refine ⟨low, E, by omega, by omega, h1.congr (fun i => by rw [hr0, gd_nil]), by omega, ?_⟩;have := h4 (by omega);rw [show F.m + 1 - 1 - low.length = F.m - low.length from by omega, show F.m + 1 - 1 = F.m from by omega, md_gd_m] at this;exact this
theorem vec_ne {l : List (Zp F.p)} {i : Nat} (hi : i < F.m) (h : gd l i = 1) : vec (F := F) l ≠ 0 := fun e => by
 have : (vec (F := F) l).c i = 0 := by rw [e, c_zero]
 rw [c_vec _ hi, h] at this;exact zp_one_ne F.prm.1 this
theorem gd_snoc (low : List (Zp F.p)) : gd (low ++ [1]) low.length = 1 := by
 rw [gd_append_right (Nat.le_refl _), Nat.sub_self, gd_zero]
theorem div_not_dom {low E : List (Zp F.p)} (h1 : 1 ≤ low.length) (hm : low.length < F.m) (hd : DivRel (md F) (low ++ [1]) E []) (hE : E.length ≤ F.m + 1 - low.length) (hE1 : gd E (F.m - low.length) = 1) : ∃ x y : El F, x = vec (low ++ [1]) ∧ y = vec E ∧ x * y = 0 ∧ x ≠ 0 ∧ y ≠ 0 := by
 refine ⟨_, _, rfl, rfl, ?_, vec_ne hm (gd_snoc low), vec_ne (by omega) hE1⟩;have h := hd _ (op F) 1;rw [act_md, Op.act_nil, Op.add_zero, act_mul E, act_one E (by omega), act_one (low ++ [1]) (by simp; omega)] at h;rw [Cw.mul_comm]; exact h.symm
theorem has_vec {low : List (Zp F.p)} (h : low.length < F.m) : Has (vec (F := F) (low ++ [1])) low.length :=
 ⟨low, rfl, 1, by rw [act_one _ (by simp; omega), Cw.mul_one]⟩
theorem dom_of_irr (h : ∀ low E : List (Zp F.p), 1 ≤ low.length → 2 * low.length ≤ F.m → ¬ DivRel (md F) (low ++ [1]) E []) : Dom (El F) := by
 intro x y hxy;refine Classical.byContradiction fun hn => ?_
 have hx : x ≠ 0 := fun e => hn (Or.inl e)
 have hy : y ≠ 0 := fun e => hn (Or.inr e)
 have hxl : ¬ ∀ i, gd x.lst i = 0 := fun e => hx (ext fun i _ => by rw [c_zero, ← gd_lst, e])
 obtain ⟨j, hj, hh⟩ := has_of (z := 1) (by rw [lst_one, Cw.mul_one]) hxl;rw [lst_length] at hj;obtain ⟨low, E, h1, h2, h3, h4, h5⟩ := zd_div hy hxy hh hj;by_cases hc : 2 * low.length ≤ F.m
 ·exact h low E h1 hc h3
 obtain ⟨x', y', rfl, rfl, h6, h7, h8⟩ := div_not_dom h1 (by omega) h3 h4 h5
 -- E without zeros at its end is monic of degree m - k
 have hEl : E.length = F.m + 1 - low.length := by
  refine Nat.le_antisymm h4 (Nat.le_of_not_lt fun hlt => ?_);rw [gd_ge (by omega)] at h5;exact zp_one_ne F.prm.1 h5.symm
 obtain ⟨El', a, rfl⟩ := snoc_ex E (by intro e; rw [e] at hEl; simp at hEl; omega);simp only [List.length_append, List.length_cons, List.length_nil] at hEl
 have ha : a = 1 := by
  rw [gd_append_right (by omega), show F.m - low.length - El'.length = 0 from by omega, gd_zero] at h5; exact h5
 subst ha;obtain ⟨low2, E2, g1, g2, g3, _, _⟩ := zd_div (x := vec (El' ++ [1])) h7 (by rw [Cw.mul_comm]; exact h6) (has_vec (by omega)) (by omega);exact h low2 E2 g1 (by omega) g3
end El
end Cw
end
-- Gv
section
namespace Cw
structure GFv where
 F : RD
 irr : Irr F
 mod : List Int
 gen : El F
 prim : IsOrd gen (qq (El F) - 1)
 small : F.p ^ F.m ≤ 256
 coef : ∀ i, 0 ≤ F.f i ∧ F.f i < F.p
 mod1 : F.m = 1 → mod = [] ∧ F.f 0 = 0
 modm : F.m ≠ 1 → mod.length = F.m ∧ ∀ i, i < F.m → mod.getD i 0 = F.f i
instance (G : GFv) : Irr G.F := G.irr
def addc (p : Nat) : Nat → Nat → Nat → Nat
 | 0, _, _ => 0
 | n + 1, x, y => (x % p + y % p) % p + p * addc p n (x / p) (y / p)
def negc (p : Nat) : Nat → Nat → Nat
 | 0, _ => 0
 | n + 1, x => (p - x % p) % p + p * negc p n (x / p)
theorem addc_zero (p n : Nat) : addc p n 0 0 = 0 := by
 induction n with
 | zero => rfl
 | succ n ih => simp [addc, ih]
theorem negc_zero {p : Nat} (n : Nat) : negc p n 0 = 0 := by
 induction n with
 | zero => rfl
 | succ n ih => simp [negc, ih]
theorem cd_map_dg {p : Nat} (n : Nat) (f : Nat → Nat → Nat) (x y : Nat) (g : Nat → Nat → Nat → Nat) (h0 : ∀ x y, g 0 x y = 0) (h : ∀ n x y, g (n + 1) x y = f (x % p) (y % p) + p * g n (x / p) (y / p)) : cd p (List.zipWith f (dg p n x) (dg p n y)) = g n x y := by
 induction n generalizing x y with
 | zero => rw [h0]; rfl
 | succ n ih => rw [h, dg, dg, List.zipWith_cons_cons, cd, ih]
theorem zi_nat_v {p : Nat} [NeZero p] (a : Nat) : (zi (a : Int) : Zp p).v = a % p := by
 have := zi_v (p := p) (a : Int);omega
namespace El
variable {F : RD}
theorem dgs (x : El F) : x.lst.map Zp.v = dg F.p F.m x.code := by
 have h := dg_cd (p := F.p) (x.lst.map Zp.v) (fun a ha => by
  obtain ⟨b, _, rfl⟩ := List.mem_map.1 ha; exact b.lt)
 rw [List.length_map, lst_length] at h;exact h.symm
theorem lst_add (x y : El F) : (x + y).lst = List.zipWith (· + ·) x.lst y.lst := by
 unfold lst
 rw [List.zipWith_map, List.zipWith_self];exact List.map_congr_left (fun i _ => c_add x y i)
theorem lst_neg (x : El F) : (-x).lst = x.lst.map (-·) := by
 unfold lst
 rw [List.map_map];exact List.map_congr_left (fun i _ => c_neg x i)
theorem add_v (a b : Zp F.p) : (a + b).v = (a.v + b.v) % F.p := by
 show (zi ((a.v : Int) + (b.v : Int)) : Zp F.p).v = _
 rw [← Int.natCast_add, zi_nat_v]
theorem neg_v (a : Zp F.p) : (-a).v = (F.p - a.v) % F.p := by
 have ha := a.lt
 have e : -a = zi ((F.p - a.v : Nat) : Int) := by
  conv => lhs; rw [← zi_of a, ← zi_neg]
  apply zi_eq
  rw [show ((F.p - a.v : Nat) : Int) = -(a.v : Int) + (F.p : Int) * 1 from by omega, Int.add_mul_emod_self_left]
 rw [e, zi_nat_v]
theorem code_add (x y : El F) : (x + y).code = addc F.p F.m x.code y.code := by
 show cd F.p ((x + y).lst.map Zp.v) = _
 rw [lst_add, List.map_zipWith]
 have e : List.zipWith (fun a b : Zp F.p => (a + b).v) x.lst y.lst = List.zipWith (fun a b => (a + b) % F.p) (x.lst.map Zp.v) (y.lst.map Zp.v) := by
  rw [List.zipWith_map];simp only [add_v]
 rw [e, dgs, dgs];exact cd_map_dg F.m (fun a b => (a + b) % F.p) _ _ (addc F.p) (fun _ _ => rfl) (fun _ _ _ => rfl)
theorem code_neg (x : El F) : (-x).code = negc F.p F.m x.code := by
 show cd F.p ((-x).lst.map Zp.v) = _
 rw [lst_neg, List.map_map]
 have e : x.lst.map (Zp.v ∘ (-·)) = (x.lst.map Zp.v).map (fun a => (F.p - a) % F.p) := by
  rw [List.map_map];exact List.map_congr_left (fun a _ => neg_v a)
 rw [e, dgs]
 have key : ∀ n z, cd F.p ((dg F.p n z).map (fun a => (F.p - a) % F.p)) = negc F.p n z := by
  intro n;induction n with
  | zero => intro z; rfl
  | succ n ih => intro z; rw [dg, List.map_cons, cd, ih, negc]
 exact key _ _
theorem code_zero : (0 : El F).code = 0 := by
 have h : (dec F 0) = 0 := ext fun i hi => by
  unfold dec; rw [c_vec _ hi, c_zero]
  have : ∀ n j, gd ((dg F.p n 0).map (fun a : Nat => (zi (a : Int) : Zp F.p))) j = 0 := by
   intro n;induction n with
   | zero => intro j; rfl
   | succ n ih =>
    intro j;simp only [dg, Nat.zero_mod, Nat.zero_div, List.map_cons]
    cases j with
    | zero => rw [gd_zero]; rfl
    | succ j => rw [gd_succ]; exact ih j
  exact this _ _
 rw [← h, code_dec (Nat.pow_pos (by have := F.prm.1; omega))]
theorem code_one : (1 : El F).code = 1 := by
 have hp := F.prm.1
 have h : dec F 1 = 1 := ext fun i hi => by
  unfold dec; rw [c_vec _ hi, c_one hi]
  have hz : ∀ n j, gd ((dg F.p n 0).map (fun a : Nat => (zi (a : Int) : Zp F.p))) j = 0 := by
   intro n;induction n with
   | zero => intro j; rfl
   | succ n ih =>
    intro j;simp only [dg, Nat.zero_mod, Nat.zero_div, List.map_cons]
    cases j with
    | zero => rw [gd_zero]; rfl
    | succ j => rw [gd_succ]; exact ih j
  obtain ⟨m, hm⟩ : ∃ m, F.m = m + 1 := ⟨F.m - 1, by have := F.mpos; omega⟩;rw [hm, dg, List.map_cons, Nat.mod_eq_of_lt (by omega), Nat.div_eq_of_lt (by omega)]
  cases i with
  | zero => rw [gd_zero, if_pos rfl]; rfl
  | succ i => rw [gd_succ, if_neg (by omega)]; exact hz _ _
 have hlt : 1 < F.p ^ F.m := by
  obtain ⟨m, hm⟩ : ∃ m, F.m = m + 1 := ⟨F.m - 1, by have := F.mpos; omega⟩;rw [hm, Nat.pow_succ];have := Nat.mul_le_mul (Nat.one_le_pow m F.p (by omega)) hp;omega
 rw [← h, code_dec hlt]
end El
namespace GFv
variable (G : GFv)
def q : Nat := G.F.p ^ G.F.m
theorem q_le : G.q ≤ 256 := G.small
theorem q_ge : 2 ≤ G.q := qq_ge (K := El G.F)
theorem p_ge : 2 ≤ G.F.p := G.F.prm.1
theorem m_pos : 0 < G.F.m := G.F.mpos
theorem m_le : G.F.m ≤ 8 := by
 refine Nat.le_of_not_lt fun h => ?_
 have h1 : 2 ^ 9 ≤ G.F.p ^ G.F.m := Nat.le_trans (Nat.pow_le_pow_right (by omega) h) (Nat.pow_le_pow_left G.p_ge _);have := G.small; omega
theorem p_le : G.F.p ≤ G.q := by
 have := Nat.pow_le_pow_right (n := G.F.p) (by have := G.p_ge; omega) G.m_pos;rwa [Nat.pow_one] at this
theorem mod_len : G.mod.length ≤ 8 := by
 by_cases h : G.F.m = 1
 ·rw [(G.mod1 h).1]; simp
 rw [(G.modm h).1]; exact G.m_le
def is (x : Int) : Prop := 0 ≤ x ∧ x < (G.q : Int)
instance (x : Int) : Decidable (G.is x) := inferInstanceAs (Decidable (_ ∧ _))
def inn (x : Int) : Int := if G.is x then x else 0
def el (x : Int) : El G.F := El.dec G.F (G.inn x).toNat
def num (e : El G.F) : Int := (e.code : Int)
theorem inn_is (x : Int) : G.is (G.inn x) := by
 unfold inn
 by_cases h : G.is x
 ·rw [if_pos h]; exact h
 rw [if_neg h]; have := G.q_ge; exact ⟨by omega, by omega⟩
theorem inn_of {x : Int} (h : G.is x) : G.inn x = x := if_pos h
theorem num_is (e : El G.F) : G.is (G.num e) := by
 have := e.code_lt;exact ⟨by unfold num; omega, by unfold num q; omega⟩
theorem num_el (x : Int) : G.num (G.el x) = G.inn x := by
 have h := G.inn_is x;unfold num el
 rw [El.code_dec (by have h1 := h.1; have h2 := h.2; unfold q at h2; omega)];have := h.1; omega
theorem el_num (e : El G.F) : G.el (G.num e) = e := by
 unfold el
 rw [G.inn_of (G.num_is e)];unfold num
 rw [Int.toNat_natCast, El.dec_code]
theorem el_inn (x : Int) : G.el (G.inn x) = G.el x := by rw [← G.num_el, G.el_num]
theorem num_inj {a b : El G.F} (h : G.num a = G.num b) : a = b := by rw [← G.el_num a, h, G.el_num]
theorem num_zero : G.num 0 = 0 := by unfold num; rw [El.code_zero]; rfl
theorem num_one : G.num 1 = 1 := by unfold num; rw [El.code_one]; rfl
theorem el_zero : G.el 0 = 0 := by rw [← G.num_zero, G.el_num]
theorem el_eq_zero {x : Int} : G.el x = 0 ↔ G.inn x = 0 := by
 constructor
 ·intro h; rw [← G.num_el, h, G.num_zero]
 intro h; rw [← G.el_inn, h, G.el_zero]
theorem num_eq_zero {e : El G.F} : G.num e = 0 ↔ e = 0 := by
 rw [← G.num_zero]; exact ⟨G.num_inj, fun h => by rw [h]⟩
def exp : List Int := (List.range (G.q - 1)).map (fun i => G.num (pw G.gen i))
theorem exp_length : G.exp.length = G.q - 1 := by simp [exp]
theorem exp_at {i : Nat} (h : i < G.q - 1) : G.exp.getD i 0 = G.num (pw G.gen i) := by
 unfold exp; simp [List.getD, h]
theorem lg_ex (x : El G.F) : ∃ i, (x = 0 ∧ i = 0) ∨ (x ≠ 0 ∧ i < G.q - 1 ∧ pw G.gen i = x) := by
 by_cases h : x = 0
 ·exact ⟨0, Or.inl ⟨h, rfl⟩⟩
 obtain ⟨i, hi, e⟩ := prim_all G.prim h;exact ⟨i, Or.inr ⟨h, hi, e⟩⟩
noncomputable def lg (x : El G.F) : Nat := Classical.choose (G.lg_ex x)
theorem lg_zero : G.lg 0 = 0 := by
 rcases Classical.choose_spec (G.lg_ex 0) with ⟨_, h⟩ | ⟨h, _⟩
 ·exact h
 exact absurd rfl h
theorem lg_spec {x : El G.F} (hx : x ≠ 0) : G.lg x < G.q - 1 ∧ pw G.gen (G.lg x) = x := by
 rcases Classical.choose_spec (G.lg_ex x) with ⟨h, _⟩ | ⟨_, h⟩
 ·exact absurd h hx
 exact h
theorem lg_lt (x : El G.F) : G.lg x < G.q - 1 := by
 by_cases h : x = 0
 ·rw [h, G.lg_zero]; have := G.q_ge; omega
 exact (G.lg_spec h).1
theorem lg_pw {i : Nat} (h : i < G.q - 1) : G.lg (pw G.gen i) = i := by
 have h1 := G.lg_spec (pw_ne G.prim.ne i);exact G.prim.inj h1.1 h h1.2
noncomputable def log : List Int := (List.range G.q).map (fun x => (G.lg (El.dec G.F x) : Int))
theorem log_length : G.log.length = G.q := by simp [log]
theorem log_at {x : Nat} (h : x < G.q) : G.log.getD x 0 = (G.lg (El.dec G.F x) : Int) := by
 unfold log; simp [List.getD, h]
theorem log_el {x : Int} (h : G.is x) : G.log.getD x.toNat 0 = (G.lg (G.el x) : Int) := by
 have h1 := h.1;have h2 := h.2;rw [G.log_at (by omega)];unfold el; rw [G.inn_of h]
theorem pw_mod (k : Nat) : pw G.gen (k % (G.q - 1)) = pw G.gen k := by
 have h : pw G.gen (G.q - 1) = 1 := G.prim.pow_one;have : pw G.gen k = pw G.gen ((G.q - 1) * (k / (G.q - 1)) + k % (G.q - 1)) := by rw [Nat.div_add_mod]
 rw [this, pw_add, pw_mul, h, one_pw, one_mul]
def add (x y : Int) : Int := G.num (G.el x + G.el y)
def neg (x : Int) : Int := G.num (-G.el x)
def sub (x y : Int) : Int := G.num (G.el x + -G.el y)
def mul (x y : Int) : Int := G.num (G.el x * G.el y)
def pow (x n : Int) : Int × Int :=
 if n = 0 then (1, 0) else if G.el x = 0 then (0, if n < 0 then 7 else 0) else (G.num (pw (G.el x) (n % ((G.q - 1 : Nat) : Int)).toNat), 0)
noncomputable def inv (x : Int) : Int × Int := if G.el x = 0 then (0, 7) else (G.num (pw (G.el x) (G.q - 2)), 0)
theorem pow_nat (x : Int) {n : Nat} (hn : 0 < n) : G.pow x n = (G.num (pw (G.el x) n), 0) := by
 unfold pow
 rw [if_neg (by omega)];by_cases h : G.el x = 0
 ·rw [if_pos h, h, zero_pw hn, G.num_zero, if_neg (by omega)]
 rw [if_neg h]
 have e : ((n : Int) % ((G.q - 1 : Nat) : Int)).toNat = n % (G.q - 1) := by
  rw [← Int.natCast_emod, Int.toNat_natCast]
 rw [e];have h1 : pw (G.el x) (G.q - 1) = 1 := pw_card h;have : pw (G.el x) n = pw (G.el x) ((G.q - 1) * (n / (G.q - 1)) + n % (G.q - 1)) := by rw [Nat.div_add_mod]
 rw [this, pw_add, pw_mul, h1, one_pw, one_mul]
end GFv
end Cw
end
-- Int
section
namespace Cw
theorem xor_mod2 (a b : Nat) : (a ^^^ b) % 2 = (a % 2 + b % 2) % 2 := by
 have h := @Nat.xor_mod_two_pow a b 1;rw [Nat.pow_one] at h;rw [h];rcases Nat.mod_two_eq_zero_or_one a with e | e <;> rcases Nat.mod_two_eq_zero_or_one b with e' | e' <;> rw [e, e'] <;> rfl
theorem addc_two (n : Nat) : ∀ a b : Nat, a < 2 ^ n → b < 2 ^ n → addc 2 n a b = a ^^^ b := by
 induction n with
 | zero => intro a b ha hb; simp at ha hb; subst ha hb; rfl
 | succ n ih =>
  intro a b ha hb;rw [Nat.pow_succ] at ha hb;rw [addc, ih _ _ (by omega) (by omega), ← xor_mod2, ← Nat.xor_div_two];omega
theorem tdiv_nat (a b : Nat) : Int.tdiv (a : Int) (b : Int) = ((a / b : Nat) : Int) := by
 rw [Int.tdiv_eq_ediv_of_nonneg (by omega)]; rfl
theorem tmod_nat (a b : Nat) : Int.tmod (a : Int) (b : Int) = ((a % b : Nat) : Int) := by
 rw [Int.tmod_eq_emod_of_nonneg (by omega)]; rfl
theorem div_lt_pow {p n x : Nat} (hp : 0 < p) (h : x < p ^ (n + 1)) : x / p < p ^ n := by
 rw [Nat.div_lt_iff_lt_mul hp, ← Nat.pow_succ]; exact h
end Cw
end
-- Dvd
section
namespace Cw
namespace El
variable {F : RD}
theorem rem_unique {low E E' r : List (Zp F.p)} (h1 : 1 ≤ low.length) (h : DivRel (md F) (low ++ [1]) E r) (h' : DivRel (md F) (low ++ [1]) E' []) (hr : ∀ i, low.length ≤ i → gd r i = 0) : ∀ i, gd r i = 0 := by
 let D : RD := ⟨F.p, low.length, F.prm, by omega, fun i => ((gd low i).v : Int)⟩
 have hD : ∀ i, gd (md D) i = gd (low ++ [1]) i := fun i => by
  unfold md
  have hDm : D.m = low.length := rfl;by_cases hi : i < low.length
  ·rw [gd_append_left (by simpa using hi), gd_append_left hi, gd_range, if_pos (by omega)];exact zi_of _
  rw [gd_append_right (by rw [List.length_map, List.length_range]; omega), gd_append_right (by omega), List.length_map, List.length_range, hDm]
 have hz : ∀ v : El D, (op D).act (low ++ [1]) v = 0 := fun v => by rw [← Op.act_congr _ hD, act_md]
 have a1 := h _ (op D) 1;have a2 := h' _ (op D) 1;rw [hz, a2, hz, Op.act_nil] at a1;have hzero : (op D).zero = (0 : El D) := rfl;have e0 : (op D).act E' 0 = 0 := Op.act_zero (op D) E';have e1 : (op D).act E 0 = 0 := Op.act_zero (op D) E;rw [e0, e1, hzero] at a1
 have a3 : (op D).act r 1 = 0 := by
  have q1 : (op D).add (0 : El D) 0 = 0 := Op.zero_add _ _;have q2 : (op D).add (0 : El D) ((op D).act r 1) = (op D).act r 1 := Op.zero_add _ _;rw [q1, q2] at a1;exact a1.symm
 have a4 : (op D).act (r.take low.length) 1 = 0 := by
  rw [← a3];refine Op.act_congr _ (fun i => ?_) 1;by_cases hi : i < low.length
  ·unfold gd; simp only [List.getD]; rw [List.getElem?_take, if_pos hi]
  rw [hr i (by omega), gd_ge (by rw [List.length_take]; omega)]
 rw [act_one (F := D) _ (by rw [List.length_take]; exact Nat.min_le_left _ _)] at a4;intro i;by_cases hi : i < low.length
 ·have := c_vec (F := D) (r.take low.length) hi;rw [a4, c_zero] at this;rw [this];unfold gd; simp only [List.getD]; rw [List.getElem?_take, if_pos hi]
 exact hr i (by omega)
def zl' (p : Nat) [NeZero p] (n : Nat) (g : Nat → Nat) : List (Zp p) := (List.range n).map (fun i => zi (g i : Int))
theorem gd_zl' {p : Nat} [NeZero p] (n : Nat) (g : Nat → Nat) (i : Nat) : gd (zl' p n g) i = if i < n then zi (g i : Int) else 0 := gd_range _ _ _
theorem div_step {G E : List (Zp F.p)} {n d i : Nat} {low g g' : Nat → Nat} (hd : d ≤ i) (hin : i < n) (h : DivRel G (zl' F.p d low ++ [1]) E (zl' F.p n g))
  (hg : ∀ t, t < n → (zi (g' t : Int) : Zp F.p) = if t = i then 0 else if i - d ≤ t ∧ t < i then zi ((g t : Int)) + -(zi (g i : Int) * zi (low (t - (i - d)) : Int)) else zi (g t : Int)) :
  DivRel G (zl' F.p d low ++ [1]) (padd E (List.replicate (i - d) 0 ++ [zi (g i : Int)])) (zl' F.p n g') := by
 refine DivRel.step h (i - d) (zi (g i : Int)) (fun t => ?_);rw [gd_zl', gd_zl', gd_shift];have hl : (zl' F.p d low).length = d := by simp [zl']
 by_cases ht : t < n
 ·rw [if_pos ht, if_pos ht, hg t ht];by_cases h1 : t = i
  ·subst h1;rw [if_pos rfl, if_neg (by omega), show t - (t - d) = d by omega, gd_append_right (by omega), hl, Nat.sub_self, gd_zero, Cw.mul_one, Cw.zero_add]
  rw [if_neg h1];by_cases h2 : i - d ≤ t ∧ t < i
  ·rw [if_pos h2, if_neg (by omega), gd_append_left (by omega), gd_zl', if_pos (by omega), Cw.add_assoc, Cw.neg_add, Cw.add_zero]
  rw [if_neg h2];by_cases h3 : t < i - d
  ·rw [if_pos h3, Cw.mul_zero, Cw.add_zero]
  rw [if_neg h3, gd_ge (by simp [hl]; omega), Cw.mul_zero, Cw.add_zero]
 rw [if_neg ht, if_neg ht, if_neg (by omega), gd_ge (by simp [hl]; omega), Cw.mul_zero, Cw.add_zero]
theorem quo_len {E : List (Zp F.p)} {k j : Nat} (hE : E.length ≤ k) (c : Zp F.p) (hj : j < k) : (padd E (List.replicate j 0 ++ [c])).length ≤ k := by
 rw [padd_length]; simp; omega
theorem quo_top {E : List (Zp F.p)} {k j : Nat} (hE : gd E k = 1) (c : Zp F.p) (hj : j < k) : gd (padd E (List.replicate j 0 ++ [c])) k = 1 := by
 rw [gd_padd, hE, gd_shift, if_neg (by omega)];rw [gd_ge (by simp; omega), Cw.add_zero]
end El
end Cw
end
-- Gen
section
namespace Cw
section apart
variable {F : RD}
theorem code_eq_zero {x : El F} : x.code = 0 ↔ x = 0 := ⟨fun h => El.code_inj (by rw [h, El.code_zero]), fun h => by rw [h, El.code_zero]⟩
theorem code_eq_one {x : El F} : x.code = 1 ↔ x = 1 := ⟨fun h => El.code_inj (by rw [h, El.code_one]), fun h => by rw [h, El.code_one]⟩
def Apart (x : El F) (n : Nat) : Prop := (∀ i, i < n → pw x i ≠ 0) ∧ ∀ i j, i < n → j < n → pw x i = pw x j → i = j
def Gens (x : El F) : Prop := Apart x (F.p ^ F.m - 1) ∧ pw x (F.p ^ F.m - 1) = 1
theorem Apart.one (x : El F) : Apart x 1 := ⟨fun i hi => by rw [show i = 0 by omega, pw_zero]; exact El.one_ne0, fun i j hi hj _ => by omega⟩
theorem Apart.mono {x : El F} {n k : Nat} (h : Apart x n) (hk : k ≤ n) : Apart x k := ⟨fun i hi => h.1 i (by omega), fun i j hi hj => h.2 i j (by omega) (by omega)⟩
theorem Apart.succ {x : El F} {n : Nat} (h : Apart x n) (h0 : pw x n ≠ 0) (h1 : ∀ j, j < n → pw x j ≠ pw x n) : Apart x (n + 1) := by
 refine ⟨fun i hi => ?_, fun i j hi hj e => ?_⟩
 ·by_cases hin : i = n
  ·rw [hin]; exact h0
  exact h.1 i (by omega)
 by_cases hin : i = n
 ·by_cases hjn : j = n
  ·rw [hin, hjn]
  rw [hin] at e; exact absurd e.symm (h1 j (by omega))
 by_cases hjn : j = n
 ·rw [hjn] at e; exact absurd e (h1 i (by omega))
 exact h.2 i j (by omega) (by omega) e
theorem Apart.not_succ {x : El F} {n : Nat} (h : pw x n = 0 ∨ ∃ j, j < n ∧ pw x j = pw x n) : ¬ Apart x (n + 1) := by
 rintro ⟨a, b⟩;rcases h with h | ⟨j, hj, e⟩
 ·exact a n (by omega) h
 have := b j n (by omega) (by omega) e;omega
def pcs (x : El F) (n : Nat) : List Nat := (List.range n).map (fun i => (pw x i).code)
def nzc (n : Nat) : List Nat := (List.range n).map (· + 1)
theorem pcs_nodup {x : El F} {n : Nat} (h : Apart x n) : (pcs x n).Nodup :=
 nodup_map List.nodup_range (fun a ha b hb e => h.2 a b (List.mem_range.1 ha) (List.mem_range.1 hb) (El.code_inj e))
theorem pcs_sub {x : El F} {n : Nat} (h : Apart x n) : ∀ c, c ∈ pcs x n → c ∈ nzc (F.p ^ F.m - 1) := by
 intro c hc;obtain ⟨i, hi, rfl⟩ := List.mem_map.1 hc;have h0 : (pw x i).code ≠ 0 := fun e => h.1 i (List.mem_range.1 hi) (code_eq_zero.1 e)
 have h1 := (pw x i).code_lt;exact List.mem_map.2 ⟨(pw x i).code - 1, List.mem_range.2 (by omega), by omega⟩
theorem Apart.le {x : El F} {n : Nat} (h : Apart x n) : n ≤ F.p ^ F.m - 1 := by
 have := nodup_len (pcs x n) (nzc (F.p ^ F.m - 1)) (pcs_nodup h) (pcs_sub h);simpa [pcs, nzc] using this
theorem q_pos (F : RD) : 2 ≤ F.p ^ F.m := Nat.le_trans F.prm.1 (by
 have := Nat.pow_le_pow_right (n := F.p) (by have := F.prm.1; omega) F.mpos;rwa [Nat.pow_one] at this)
theorem Gens.all {x : El F} (h : Gens x) {y : El F} (hy : y ≠ 0) : ∃ i, i < F.p ^ F.m - 1 ∧ pw x i = y := by
 have h1 := nodup_full (pcs_nodup h.1) (pcs_sub h.1) (by simp [pcs, nzc]);have h0 : y.code ≠ 0 := fun e => hy (code_eq_zero.1 e)
 have hl := y.code_lt;obtain ⟨i, hi, e⟩ := List.mem_map.1 (h1 y.code (List.mem_map.2 ⟨y.code - 1, List.mem_range.2 (by omega), by omega⟩));exact ⟨i, List.mem_range.1 hi, El.code_inj e⟩
theorem Gens.dom {x : El F} (h : Gens x) : Dom (El F) := by
 intro a b hab;refine Classical.byContradiction fun hn => ?_
 obtain ⟨i, _, hi⟩ := h.all (y := a) (fun e => hn (Or.inl e));obtain ⟨j, _, hj⟩ := h.all (y := b) (fun e => hn (Or.inr e));have h0 : pw x (i + j) = 0 := by rw [pw_add, hi, hj, hab]
 have h1 : pw x ((F.p ^ F.m - 1) * (i + j)) = 1 := by rw [pw_mul, h.2, one_pw]
 rw [Nat.mul_comm, pw_mul, h0, zero_pw (by have := q_pos F; omega)] at h1;exact El.one_ne0 h1.symm
theorem Gens.ord [Irr F] {x : El F} (h : Gens x) : IsOrd x (qq (El F) - 1) := by
 have hq : qq (El F) = F.p ^ F.m := rfl;rw [hq];have h2 := q_pos F;refine ord_of_least (by omega) h.2 (fun k h0 hk e => ?_);have := h.1.2 k 0 hk (by omega) (by rw [e, pw_zero]);omega
theorem gens_of_ord [Irr F] {x : El F} (h : IsOrd x (qq (El F) - 1)) : Gens x := by
 have hq : qq (El F) = F.p ^ F.m := rfl;rw [hq] at h;exact ⟨⟨fun i _ => pw_ne h.ne i, fun i j hi hj e => h.inj hi hj e⟩, h.pow_one⟩
theorem gens_ex [Irr F] : ∃ x : El F, Gens x := by
 obtain ⟨a, ha⟩ := prim_ex (K := El F);exact ⟨a, gens_of_ord ha⟩
theorem gens_ne {x : El F} (h : Gens x) : x ≠ 0 := by
 rintro rfl;have h1 := h.2;rw [zero_pw (by have := q_pos F; omega)] at h1;exact El.one_ne0 h1.symm
end apart
end Cw
end
-- Gauss
section
namespace Cw
section gauss
variable {K : Type} [GF K]
def Sol (n : Nat) (A : Nat → Nat → K) (v : Nat → K) : Prop := ∀ i, i < n → sm (n + 1) (fun j => A i j * v j) = 0
def swp (A : Nat → Nat → K) (c p : Nat) : Nat → Nat → K := fun i j => if i = c then A p j else if i = p then A c j else A i j
def scl (A : Nat → Nat → K) (c : Nat) (a : K) : Nat → Nat → K := fun i j => if i = c then a * A c j else A i j
def elm (A : Nat → Nat → K) (c r : Nat) : Nat → Nat → K := fun i j => if i = r then A r j + -(A r c * A c j) else A i j
def Unt (n c : Nat) (A : Nat → Nat → K) : Prop := ∀ i j, i < n → j < c → A i j = if i = j then 1 else 0
theorem swp_row (A : Nat → Nat → K) (c p i : Nat) : swp A c p i = if i = c then A p else if i = p then A c else A i := by
 funext j
 unfold swp
 by_cases h : i = c
 ·rw [if_pos h, if_pos h]
 rw [if_neg h, if_neg h];by_cases h2 : i = p
 ·rw [if_pos h2, if_pos h2]
 rw [if_neg h2, if_neg h2]
theorem sol_swp {n c p : Nat} {A : Nat → Nat → K} {v : Nat → K} (hc : c < n) (hp : p < n) : Sol n (swp A c p) v ↔ Sol n A v := by
 constructor
 ·intro h i hi;by_cases h1 : i = c
  ·have := h p hp;rw [swp_row] at this;by_cases h2 : p = c
   ·rw [if_pos h2] at this; rw [h1, ← h2]; exact this
   rw [if_neg h2, if_pos rfl] at this; rw [h1]; exact this
  by_cases h2 : i = p
  ·have := h c hc;rw [swp_row, if_pos rfl] at this;rw [h2]; exact this
  have := h i hi;rw [swp_row, if_neg h1, if_neg h2] at this;exact this
 intro h i hi;rw [swp_row];by_cases h1 : i = c
 ·rw [if_pos h1]; exact h p hp
 rw [if_neg h1];by_cases h2 : i = p
 ·rw [if_pos h2]; exact h c hc
 rw [if_neg h2]; exact h i hi
theorem scl_row (A : Nat → Nat → K) (c : Nat) (a : K) (i : Nat) : scl A c a i = if i = c then fun j => a * A c j else A i := by
 funext j
 unfold scl
 by_cases h : i = c
 ·rw [if_pos h, if_pos h]
 rw [if_neg h, if_neg h]
theorem sol_scl {n c : Nat} {A : Nat → Nat → K} {a : K} {v : Nat → K} (ha : a ≠ 0) : Sol n (scl A c a) v ↔ Sol n A v := by
 have e : ∀ j, (fun j => a * A c j * v j) j = (fun j => a * (A c j * v j)) j := fun j => mul_assoc _ _ _
 constructor
 ·intro h i hi;have := h i hi;rw [scl_row] at this;by_cases h1 : i = c
  ·rw [if_pos h1, sm_congr (fun j _ => e j), sm_mul] at this;rw [h1];rcases dom _ _ this with h2 | h2
   ·exact absurd h2 ha
   exact h2
  rw [if_neg h1] at this;exact this
 intro h i hi;rw [scl_row];by_cases h1 : i = c
 ·rw [if_pos h1, sm_congr (fun j _ => e j), sm_mul, ← h1, h i hi, mul_zero]
 rw [if_neg h1];exact h i hi
theorem elm_row (A : Nat → Nat → K) (c r i : Nat) : elm A c r i = if i = r then fun j => A r j + -(A r c * A c j) else A i := by
 funext j
 unfold elm
 by_cases h : i = r
 ·rw [if_pos h, if_pos h]
 rw [if_neg h, if_neg h]
theorem sol_elm {n c r : Nat} {A : Nat → Nat → K} {v : Nat → K} (hc : c < n) (hne : r ≠ c) : Sol n (elm A c r) v ↔ Sol n A v := by
 have e : sm (n + 1) (fun j => (A r j + -(A r c * A c j)) * v j) = sm (n + 1) (fun j => A r j * v j) + -(A r c * sm (n + 1) (fun j => A c j * v j)) := by
  rw [← sm_mul, ← sm_neg, ← sm_add];refine sm_congr (fun j _ => ?_);rw [add_mul, neg_mul, mul_assoc]
 constructor
 ·intro h;have hcr := h c hc;rw [elm_row, if_neg (fun h => hne h.symm)] at hcr;intro i hi;have := h i hi;rw [elm_row] at this;by_cases h1 : i = r
  ·rw [if_pos h1, e, hcr, mul_zero, neg_zero, add_zero] at this;rw [h1]; exact this
  rw [if_neg h1] at this;exact this
 intro h i hi;rw [elm_row];by_cases h1 : i = r
 ·rw [if_pos h1, e, h c hc, mul_zero, neg_zero, add_zero, ← h1];exact h i hi
 rw [if_neg h1];exact h i hi
theorem unt_swp {n c p : Nat} {A : Nat → Nat → K} (h : Unt n c A) (hc : c < n) (hp : p < n) (hcp : c ≤ p) : Unt n c (swp A c p) := by
 intro i j hi hj;rw [swp_row];by_cases h1 : i = c
 ·rw [if_pos h1, h p j hp hj, if_neg (by omega), if_neg (by omega)]
 rw [if_neg h1];by_cases h2 : i = p
 ·rw [if_pos h2, h c j hc hj, if_neg (by omega), if_neg (by omega)]
 rw [if_neg h2, h i j hi hj]
theorem unt_scl {n c : Nat} {A : Nat → Nat → K} {a : K} (h : Unt n c A) (hc : c < n) : Unt n c (scl A c a) := by
 intro i j hi hj;rw [scl_row];by_cases h1 : i = c
 ·rw [if_pos h1];try simp only []
  rw [h c j hc hj, if_neg (by omega), mul_zero, if_neg (by omega)]
 rw [if_neg h1, h i j hi hj]
theorem unt_elm {n c r : Nat} {A : Nat → Nat → K} (h : Unt n c A) (hc : c < n) (hr : r < n) : Unt n c (elm A c r) := by
 intro i j hi hj;rw [elm_row];by_cases h1 : i = r
 ·rw [if_pos h1];try simp only []
  rw [h c j hc hj, if_neg (show ¬ c = j by omega), mul_zero, neg_zero, add_zero, h1, h r j hr hj]
 rw [if_neg h1, h i j hi hj]
theorem unt_succ {n c : Nat} {A : Nat → Nat → K} (h : Unt n c A) (h1 : A c c = 1) (h0 : ∀ i, i < n → i ≠ c → A i c = 0) : Unt n (c + 1) A := by
 intro i j hi hj;by_cases hjc : j = c
 ·subst hjc;by_cases hij : i = j
  ·rw [if_pos hij, hij]; exact h1
  rw [if_neg hij]; exact h0 i hi hij
 exact h i j hi (by omega)
def Good (n : Nat) (A : Nat → Nat → K) (x : Nat → K) : Prop := ∀ v, Sol n A v ↔ ∀ i, i < n → v i + x i * v n = 0
def Bad (n : Nat) (A : Nat → Nat → K) : Prop := ∃ v : Nat → K, v n = 0 ∧ (∃ j, j < n ∧ v j ≠ 0) ∧ Sol n A v
theorem good_unt {n : Nat} {A : Nat → Nat → K} (h : Unt n n A) : Good n A (fun i => A i n) := by
 intro v
 have e : ∀ i, i < n → sm (n + 1) (fun j => A i j * v j) = v i + A i n * v n := by
  intro i hi;rw [sm_succ, sm_single i hi (fun j hj hne => by rw [h i j hi hj, if_neg (fun e => hne e.symm), zero_mul]), h i i hi hi, if_pos rfl, one_mul]
 constructor
 ·intro hs i hi;rw [← e i hi]; exact hs i hi
 intro hs i hi;rw [e i hi]; exact hs i hi
theorem bad_unt {n c : Nat} {A : Nat → Nat → K} (h : Unt n c A) (hc : c < n) (h0 : ∀ i, c ≤ i → i < n → A i c = 0) : Bad n A := by
 refine ⟨fun j => if j < c then -A j c else if j = c then 1 else 0, ?_, ⟨c, hc, ?_⟩, ?_⟩
 ·try simp only []
  rw [if_neg (by omega), if_neg (by omega)]
 ·try simp only []
  rw [if_neg (by omega), if_pos trivial];exact GF.one_ne
 intro i hi
 have e : sm (n + 1) (fun j => A i j * (if j < c then -A j c else if j = c then 1 else 0)) = sm (c + 1) (fun j => A i j * (if j < c then -A j c else if j = c then 1 else 0)) := by
  have : n + 1 = (c + 1) + (n - c) := by omega
  rw [this, sm_append]
  have hz : sm (n - c) (fun t => A i (c + 1 + t) * (if c + 1 + t < c then -A (c + 1 + t) c else if c + 1 + t = c then 1 else 0)) = 0 :=
   sm_zero_of (fun t _ => by rw [if_neg (by omega), if_neg (by omega), mul_zero])
  rw [hz, add_zero]
 rw [e, sm_succ, if_neg (by omega), if_pos rfl, mul_one];by_cases hic : i < c
 ·rw [sm_single i hic (fun j hj hne => by rw [h i j hi hj, if_neg (fun e => hne e.symm), zero_mul]), h i i hi hic, if_pos rfl, one_mul, if_pos hic, neg_add]
 rw [sm_zero_of (fun j hj => by rw [h i j hi hj, if_neg (by omega), zero_mul]), zero_add];exact h0 i (by omega) hi
theorem Good.congr {n : Nat} {A B : Nat → Nat → K} {x : Nat → K} (h : Good n A x) (he : ∀ v, Sol n A v ↔ Sol n B v) : Good n B x := fun v => (he v).symm.trans (h v)
theorem Bad.congr {n : Nat} {A B : Nat → Nat → K} (h : Bad n A) (he : ∀ v, Sol n A v ↔ Sol n B v) : Bad n B := by
 obtain ⟨v, h1, h2, h3⟩ := h;exact ⟨v, h1, h2, (he v).1 h3⟩
end gauss
end Cw
end
-- Lin
section
namespace Cw
section lin
variable {K : Type} [GF K]
theorem fr_sub {d : Nat} {x : K} (h : fr d x = x) (i : Nat) : fr (d * i) x = x := by
 induction i with
 | zero => rw [Nat.mul_zero, fr_zero]
 | succ i ih => rw [Nat.mul_succ, Nat.add_comm, ← fr_fr, ih, h]
theorem fr_per {d : Nat} (hd : d ∣ GF.m K) (x : K) : fr (d * (GF.m K / d)) x = x := by
 rw [Nat.mul_div_cancel' hd, fr_m]
def Ind (d n : Nat) (l : Nat → K) : Prop := ∀ s : Nat → K, (∀ j, j < n → fr d (s j) = s j) → sm n (fun j => s j * l j) = 0 → ∀ j, j < n → s j = 0
def Inj (d n : Nat) (l : Nat → K) : Prop := ∀ v : Nat → K, (∀ i, i < n → sm n (fun j => fr (d * i) (l j) * v j) = 0) → ∀ j, j < n → v j = 0
theorem ind_of_inj {d n : Nat} {l : Nat → K} (h : Inj d n l) : Ind d n l := by
 intro s hs h0;refine h s (fun i _ => ?_);have e := congrArg (fr (d * i)) h0;rw [fr_sm, fr_of_zero] at e;rw [← e];refine sm_congr (fun j hj => ?_);rw [fr_mul, fr_sub (hs j hj), mul_comm]
theorem inj_of_ind {d : Nat} (hd : d ∣ GF.m K) (h0 : 0 < d) {l : Nat → K} (h : Ind d (GF.m K / d) l) : Inj d (GF.m K / d) l := by
 intro v hv
 have hk : ∀ k, k < GF.m K / d → sm (GF.m K / d) (fun j => l j * fr (d * k) (v j)) = 0 := by
  intro k hk;by_cases hk0 : k = 0
  ·subst hk0;have := hv 0 hk;rw [← this];refine sm_congr (fun j _ => ?_);rw [Nat.mul_zero, fr_zero, fr_zero]
  have e := congrArg (fr (d * k)) (hv (GF.m K / d - k) (by omega));rw [fr_sm, fr_of_zero] at e;rw [← e];refine sm_congr (fun j _ => ?_);rw [fr_mul, fr_fr, ← Nat.mul_add, show k + (GF.m K / d - k) = GF.m K / d by omega, fr_per hd]
 have ht : ∀ a j, j < GF.m K / d → tr d (a * v j) = 0 := by
  intro a;refine h (fun j => tr d (a * v j)) (fun j _ => fr_tr hd _) ?_
  have e1 : ∀ j, j < GF.m K / d → tr d (a * v j) * l j = sm (GF.m K / d) (fun k => fr (d * k) a * (l j * fr (d * k) (v j))) := by
   intro j _;unfold tr
   rw [← sm_mul_right];refine sm_congr (fun k _ => ?_);rw [fr_mul];ac_rfl
  rw [sm_congr e1, sm_comm];refine sm_zero_of (fun k hkk => ?_);rw [sm_mul, hk k hkk, mul_zero]
 intro j hj;refine Classical.byContradiction fun hne => ?_
 obtain ⟨b, hb⟩ := GF.inv (v j) hne
 have hall : ∀ x, x ∈ GF.els (K := K) → tr d x = 0 := by
  intro x _;have := ht (x * b) j hj;rwa [mul_assoc, mul_comm b, hb, mul_one] at this
 have h1 := tr_roots hd h0 (GF.els (K := K)) GF.nodup hall;rw [GF.card] at h1;have h2 := Nat.pow_lt_pow_right (a := GF.p K) (m := GF.m K - d) (n := GF.m K) (by have := p_ge (K := K); omega) (by have := GF.mpos (K := K); omega);omega
def cmb (S : List K) (l : Nat → K) : Nat → List K
 | 0 => [0]
 | i + 1 => (cmb S l i).flatMap (fun y => S.map (fun s => y + s * l i))
theorem cmb_length (S : List K) (l : Nat → K) (n : Nat) : (cmb S l n).length = S.length ^ n := by
 induction n with
 | zero => rfl
 | succ n ih =>
  show ((cmb S l n).flatMap _).length = _
  have : ∀ L : List K, (L.flatMap (fun y => S.map (fun s => y + s * l n))).length = L.length * S.length := by
   intro L;induction L with
   | nil => simp
   | cons a L ih => rw [List.flatMap_cons, List.length_append, ih, List.length_map, List.length_cons, Nat.succ_mul, Nat.add_comm]
  rw [this, ih, Nat.pow_succ]
theorem mem_cmb {S : List K} {l : Nat → K} : ∀ {n : Nat} {x : K}, x ∈ cmb S l n ↔ ∃ s : Nat → K, (∀ j, j < n → s j ∈ S) ∧ x = sm n (fun j => s j * l j) := by
 intro n;induction n with
 | zero =>
  intro x;constructor
  ·intro h; exact ⟨fun _ => 0, fun j hj => by omega, List.mem_singleton.1 h⟩
  rintro ⟨s, _, h⟩; exact List.mem_singleton.2 h
 | succ n ih =>
  intro x;constructor
  ·intro h;obtain ⟨y, hy, h⟩ := List.mem_flatMap.1 h;obtain ⟨a, ha, rfl⟩ := List.mem_map.1 h;obtain ⟨s, hs, rfl⟩ := ih.1 hy;refine ⟨fun j => if j = n then a else s j, fun j hj => ?_, ?_⟩
   ·by_cases e : j = n
    ·simp only [if_pos e]; exact ha
    simp only [if_neg e]; exact hs j (by omega)
   rw [sm_succ];simp only [if_pos];congr 1
   refine sm_congr (fun j hj => ?_);rw [if_neg (by omega)]
  rintro ⟨s, hs, rfl⟩;refine List.mem_flatMap.2 ⟨_, ih.2 ⟨s, fun j hj => hs j (by omega), rfl⟩, List.mem_map.2 ⟨s n, hs n (by omega), rfl⟩⟩
def Sb (d : Nat) (S : List K) : Prop := S.Nodup ∧ ∀ x, x ∈ S ↔ fr d x = x
theorem sb_zero (d : Nat) : fr d (0 : K) = 0 := fr_of_zero d
theorem sb_sub {d : Nat} {x y : K} (hx : fr d x = x) (hy : fr d y = y) : fr d (x + -y) = x + -y := by rw [fr_add, fr_neg, hx, hy]
theorem Ind.pred {d n : Nat} {l : Nat → K} (h : Ind d (n + 1) l) : Ind d n l := by
 intro s hs h0 j hj
 have := h (fun j => if j < n then s j else 0) (fun j _ => by
  by_cases e : j < n
  ·simp only [if_pos e]; exact hs j e
  ·simp only [if_neg e]; exact sb_zero d) (by
  rw [sm_succ, if_neg (by omega), zero_mul, add_zero, ← h0];exact sm_congr (fun j hj => by rw [if_pos hj])) j (by omega)
 simpa only [if_pos hj] using this
theorem nodup_of_ind {d : Nat} {S : List K} (hS : Sb d S) {l : Nat → K} : ∀ n, Ind d n l → (cmb S l n).Nodup := by
 intro n;induction n with
 | zero => intro _; exact List.nodup_cons.2 ⟨by simp, List.nodup_nil⟩
 | succ n ih =>
  intro h;have hn := ih h.pred
  have key : ∀ y, y ∈ cmb S l n → ∀ y', y' ∈ cmb S l n → ∀ a, a ∈ S → ∀ a', a' ∈ S → y + a * l n = y' + a' * l n → y = y' ∧ a = a' := by
   intro y hy y' hy' a ha a' ha' e;obtain ⟨s, hs, rfl⟩ := mem_cmb.1 hy;obtain ⟨s', hs', rfl⟩ := mem_cmb.1 hy'
   have hz := h (fun j => if j = n then a + -a' else s j + -s' j) (fun j hj => by
    by_cases e : j = n
    ·simp only [if_pos e]; exact sb_sub ((hS.2 a).1 ha) ((hS.2 a').1 ha')
    ·simp only [if_neg e]; exact sb_sub ((hS.2 _).1 (hs j (by omega))) ((hS.2 _).1 (hs' j (by omega)))) (by
    rw [sm_succ, if_pos rfl, sm_congr (g := fun j => s j * l j + -(s' j * l j)) (fun j hj => by rw [if_neg (by omega), add_mul, neg_mul]), sm_add, sm_neg, add_mul, neg_mul];rw [show sm n (fun j => s j * l j) + -sm n (fun j => s' j * l j) + (a * l n + -(a' * l n)) = (sm n (fun j => s j * l j) + a * l n) + (-sm n (fun j => s' j * l j) + -(a' * l n)) by ac_rfl, e, ← neg_add_rev, add_neg])
   have hn1 := hz n (by omega);rw [if_pos rfl] at hn1;refine ⟨sm_congr (fun j hj => ?_), sub_eq_zero hn1⟩;have := hz j (by omega);rw [if_neg (by omega)] at this;rw [sub_eq_zero this]
  refine List.pairwise_flatMap.2 ⟨fun y hy => ?_, ?_⟩
  ·refine nodup_map hS.1 (fun a ha b hb e => ?_);exact (key y hy y hy a ha b hb e).2
  refine List.Pairwise.imp_of_mem ?_ hn;intro y y' hy hy' hne x hx x' hx' e;obtain ⟨a, ha, rfl⟩ := List.mem_map.1 hx;obtain ⟨a', ha', rfl⟩ := List.mem_map.1 hx';exact hne (key y hy y' hy' a ha a' ha' e).1
theorem ind_of_nodup {d : Nat} {S : List K} (hS : Sb d S) {l : Nat → K} : ∀ n, (cmb S l n).Nodup → Ind d n l := by
 intro n;induction n with
 | zero => intro _ s _ _ j hj; omega
 | succ n ih =>
  intro h s hs h0;have h1 := List.pairwise_flatMap.1 h;have z0 : (0 : K) ∈ S := (hS.2 0).2 (sb_zero d);have m0 : (0 : K) ∈ cmb S l n := mem_cmb.2 ⟨fun _ => 0, fun _ _ => z0, by rw [sm_zero_of (fun j _ => zero_mul _)]⟩;have my : sm n (fun j => s j * l j) ∈ cmb S l n := mem_cmb.2 ⟨s, fun j hj => (hS.2 _).2 (hs j (by omega)), rfl⟩;rw [sm_succ] at h0
  have hy0 : sm n (fun j => s j * l j) = 0 := by
   refine Classical.byContradiction fun hne => ?_
   have hp := h1.2;obtain ⟨Q, hQ⟩ : ∃ Q : K → K → Prop, ∀ a b, Q a b ↔ ∀ x, x ∈ S.map (fun s => a + s * l n) → ∀ x', x' ∈ S.map (fun s => b + s * l n) → x ≠ x' := ⟨_, fun _ _ => Iff.rfl⟩
   have hp1 : (cmb S l n).Pairwise (fun a b => a ≠ b → Q a b) := by
    refine List.Pairwise.imp ?_ hp;intro a b h _;exact (hQ a b).2 h
   have hp2 : (cmb S l n).Pairwise (flip (fun a b => a ≠ b → Q a b)) := by
    refine List.Pairwise.imp ?_ hp;intro a b h _;exact (hQ b a).2 (fun x hx x' hx' e => h x' hx' x hx e.symm)
   have hall := List.Pairwise.forall_of_forall_of_flip (fun a _ hne => absurd rfl hne) hp1 hp2;have hsym := fun y hy y' hy' hn => (hQ y y').1 (hall (x := y) hy (y := y') hy' hn)
   refine hsym _ my _ m0 hne (sm n (fun j => s j * l j) + s n * l n) (List.mem_map.2 ⟨s n, (hS.2 _).2 (hs n (by omega)), rfl⟩) (0 + 0 * l n) (List.mem_map.2 ⟨0, z0, rfl⟩) ?_;rw [h0, zero_mul, add_zero]
  have hn0 : s n = 0 := by
   have h2 := h1.1 0 m0;rw [hy0] at h0;refine Classical.byContradiction fun hne => ?_
   have inj : ∀ (L : List K) (f : K → K), (L.map f).Nodup → ∀ a, a ∈ L → ∀ b, b ∈ L → f a = f b → a = b := by
    intro L f;induction L with
    | nil => intro _ a ha; cases ha
    | cons c L ih =>
     intro hn a ha b hb e;rw [List.map_cons, List.nodup_cons] at hn;rcases List.mem_cons.1 ha with ea | ha
     ·rcases List.mem_cons.1 hb with eb | hb
      ·rw [ea, eb]
      exact absurd (List.mem_map.2 ⟨b, hb, by rw [← e, ea]⟩) hn.1
     rcases List.mem_cons.1 hb with eb | hb
     ·exact absurd (List.mem_map.2 ⟨a, ha, by rw [e, eb]⟩) hn.1
     exact ih hn.2 a ha b hb e
   exact hne (inj S (fun s => 0 + s * l n) h2 (s n) ((hS.2 _).2 (hs n (by omega))) 0 z0 (by rw [h0, zero_mul, add_zero]))
  have hpre : (cmb S l n).Nodup := by
   refine List.Pairwise.imp_of_mem ?_ h1.2;intro y y' hy hy' hxx e;exact hxx (y + 0 * l n) (List.mem_map.2 ⟨0, z0, rfl⟩) (y' + 0 * l n) (List.mem_map.2 ⟨0, z0, rfl⟩) (by rw [e])
  intro j hj;by_cases e : j = n
  ·rw [e]; exact hn0
  exact ih hpre s (fun j hj => hs j (by omega)) hy0 j (by omega)
theorem span_of_ind {d : Nat} (hd : d ∣ GF.m K) (h0 : 0 < d) {S : List K} (hS : Sb d S) (hlen : S.length = GF.p K ^ d) {l : Nat → K} (h : Ind d (GF.m K / d) l) (x : K) :
  ∃ s : Nat → K, (∀ j, j < GF.m K / d → fr d (s j) = s j) ∧ x = sm (GF.m K / d) (fun j => s j * l j) := by
 have hn := nodup_of_ind hS _ h;have hl := cmb_length S l (GF.m K / d);rw [hlen, ← Nat.pow_mul, Nat.mul_div_cancel' hd] at hl;have := nodup_full hn (k := GF.els (K := K)) (fun x _ => GF.all x) (by rw [hl, GF.card]; exact Nat.le_refl _) x (GF.all x);obtain ⟨s, hs, e⟩ := mem_cmb.1 this;exact ⟨s, fun j hj => (hS.2 _).1 (hs j hj), e⟩
theorem coord_sub {d : Nat} (hd : d ∣ GF.m K) (h0 : 0 < d) {S : List K} (hS : Sb d S) (hlen : S.length = GF.p K ^ d) {l : Nat → K} (h : Inj d (GF.m K / d) l) (x : K) (c : Nat → K)
  (hc : ∀ i, i < GF.m K / d → sm (GF.m K / d) (fun j => fr (d * i) (l j) * c j) = fr (d * i) x) : (∀ j, j < GF.m K / d → fr d (c j) = c j) ∧ sm (GF.m K / d) (fun j => c j * l j) = x := by
 obtain ⟨s, hs, e⟩ := span_of_ind hd h0 hS hlen (ind_of_inj h) x
 have hz := h (fun j => c j + -s j) (fun i hi => by
  rw [sm_congr (g := fun j => fr (d * i) (l j) * c j + -(fr (d * i) (l j) * s j)) (fun j hj => by rw [mul_add, mul_neg]), sm_add, sm_neg, hc i hi, e, fr_sm];rw [sm_congr (g := fun j => fr (d * i) (l j) * s j) (fun j hj => by rw [fr_mul, fr_sub (hs j hj), mul_comm]), add_neg])
 have he : ∀ j, j < GF.m K / d → c j = s j := fun j hj => sub_eq_zero (hz j hj)
 refine ⟨fun j hj => by rw [he j hj]; exact hs j hj, ?_⟩;rw [e];exact sm_congr (fun j hj => by rw [he j hj])
end lin
end Cw
end
