/- What towerCoordinates_holds needs: texts GmField, GmNeg, D1, Pa5, D2, Pa6, Pa7, Pa8, Pa9, Sv1, GmInv, Pa16, put together. -/
import Derived.Test.YtlbddjojhcgpiaaKBC6
set_option linter.unusedVariables false
set_option linter.unusedSimpArgs false
set_option linter.unusedSectionVars false
set_option maxHeartbeats 8000000
set_option maxRecDepth 100000
-- GmField
section
namespace Go.Proofs.Ytlbddjojhcgpiaa.Hand
noncomputable section
open Go.RowKit Go.Proofs.Ytlbddjojhcgpiaa.P Go.Proofs.YtlbddjojhcgpiaaW.PrintWords Go.Proofs.YtlbddjojhcgpiaaW.PrintLast Go.Proofs.YtlbddjojhcgpiaaW.PrintMore
theorem mod_short (G : GFv) : G.mod.length ≤ 8 := by
 by_cases h : G.F.m = 1
 ·rw [(G.mod1 h).1]; simp
 rw [(G.modm h).1];have h2 : 2 ^ G.F.m ≤ 2 ^ 8 := Nat.le_trans (Nat.pow_le_pow_left G.p_ge _) G.small;exact (Nat.pow_le_pow_iff_right (by omega)).1 h2
theorem results_c {P : Program} {fn : Func} {p : Tmp} {ty : TypeId} (h : fn.results = #[.cell p ty]) (tmps : Array Value) (w : World) (g : Nat) (t : TypeId) (cs : Array Value) (fr : Nat × Nat) (d : TypeDesc)
  (hp : tmps.getD p undef = .pointer (some ⟨g, 0, none⟩)) (hg : w.heap[g]? = some (.cells cs t fr))
  (hu : P.underlying ty = some d) (hd : (match d with | .struct _ | .array _ _ => true | _ => false) = true) (hi : (P.info? ty).map (·.size) = some cs.size) :
  (results fn tmps).run P w = .ok (.agg cs) w := by
 have hp' : tmps[p]?.getD undef = .pointer (some ⟨g, 0, none⟩) := by simpa using hp
 simp [results, h, hp', asAddr, run_loadVar_row w g t ty cs fr d hg hu hd hi]
def field_GF_Field.f (a0 : GFv) : Option (Int × Int × List Int) := some ((a0.F.p : Int), (a0.F.m : Int), a0.mod)
def field_GF_Field.T1 : Bool × List (List Nat × List Nat) := (true, [([], []), ([0], [0]), ([1], [1]), ([2], [2]), ([3], [3]), ([], []), ([5], [5]), ([6], [6]), ([7], [7]), ([8], [8]), ([], []), ([], []), ([11], [11]), ([12], [12]), ([13], [13]), ([14], [14]), ([10, 15], [10, 15]), ([4, 9, 16], [4, 9, 16]), ([17, 16, 0, 1, 2, 3, 4, 5, 6, 7, 8, 9, 10, 11, 12, 13, 14, 15, 16, 17], [17])])
def field_GF_Field.B1 : List Nat := [0, 1, 3, 7, 15, 0, 32, 96, 224, 480, 0, 0, 2048, 6144, 14336, 30720, 64512, 131071, 262143]
theorem field_GF_Field.tab1 : rtab .any (opsOf Try.f83 1) = field_GF_Field.T1 := by kernel_rfl
theorem field_GF_Field.bits1 : waitsOk field_GF_Field.T1.2 field_GF_Field.B1 = true := by kernel_rfl
theorem field_GF_Field.calls (b_a0 : Nat) (a0 : GFv) (r1 : Int) (r2 : Int) (r3 : List Int) (w : World) (hg0 : GFok w b_a0 a0) (h : field_GF_Field.f a0 = some (r1, r2, r3)) :
  Calls Try.prog 83 #[.pointer (some ⟨b_a0, 0, none⟩)] w fun e w' => ∃ v2_ : Value, e = .returned (.agg #[.int .i64 r1, .int .i64 r2, v2_]) ∧ Kd.R (Kd.int .i64) 3 w' w.heap.size (fun _ => True) v2_ r3 ∧ Below w.heap.size w w' := by
 have hu24 := Try.underlying24;have HL := Q9a.mk (mod_short a0);have HB := Q9a.mk (Below.refl w.heap.size w);unfold field_GF_Field.f at h
 simp only [Option.some.injEq, Prod.mk.injEq] at h;obtain ⟨rfl, rfl, rfl⟩ := h;obtain ⟨A2, c2, A4, c4, A5, c5, hb0, hr2, hc2, -⟩ := hg0;have BKg := Q9a.mk hb0;have HR2 := Q9a.mk hr2;clear hb0 hr2 hc2;go_enter Try.func83, Try.ntmps83
 go_upto_region 1 with (first | ((with_reducible refine gD (N := 2) rfl ?_); refine bE ?hg (N := 2) ?hd (cs := #[.int .i64 0, .int .i64 0, .slice none 0 0]) (t := 24) ?hr ?_; (case hd => rfl); (case hg => rfl); (case hr => first | (go_simp; done) | (go_simp; rfl)); intro gr hg w4 hbox hb; have n0_ := Q9a.mk (bP HB.out hb); have n1_ := Q9a.mk hbox; have n2_ := Q9a.mk (show w.heap.size ≤ gr by rw [hg]; exact bZ HB.out); have n3_ := Q9a.mk (kB (g := b_a0) BKg.out hb); clear HB BKg; have HB := n0_; have BKr := n1_; have GEr := n2_; have BKg := n3_; clear n0_ n1_ n2_ n3_ hb hbox hg))
 have n0_ := Q9a.mk (kD BKr.out);have n1_ := Q9a.mk (bD HB.out);have n2_ := Q9a.mk (kD BKg.out);clear HB BKr BKg;have BKr := n0_;have HB := n1_;have BKg := n2_;clear n0_ n1_ n2_;refine start_ (n := 19) (S := fun w' => w'.cell? ⟨b_a0, 0, none⟩ = some (.int .i64 (a0.F.p : Int)) ∧ w'.cell? ⟨b_a0, 1, none⟩ = some (.int .i64 (a0.F.m : Int)) ∧ w'.cell? ⟨b_a0, 2, none⟩ = some (.slice A2 a0.mod.length c2)) (ds := [18]) #[fB,fB,fB,fB,fB,fB,fB,fB,fB,fB,fB,fB,fB,fB,fB,fB,fB,fB,fB] (by kernel_rfl) rfl rfl ⟨(kC BKg.out 0).trans rfl, (kC BKg.out 1).trans rfl, (kC BKg.out 2).trans rfl⟩ (fun hHeld => ?_); refine with_tabW field_GF_Field.tab1 field_GF_Field.bits1 (fun HT_ HW_ => ?_);generalize w4.drew = w5 at BKr HB BKg hHeld ⊢;refine pT 0 3 rfl HT_.out ?_;refine pT 1 4 rfl HT_.out ?_;refine pT 2 5 rfl HT_.out ?_;refine pT 3 6 rfl HT_.out ?_;refine pT 5 8 rfl HT_.out ?_;refine pT 6 9 rfl HT_.out ?_;refine pT 7 10 rfl HT_.out ?_;refine pT 8 11 rfl HT_.out ?_;refine pT 11 14 rfl HT_.out ?_;refine pT 12 15 rfl HT_.out ?_;refine pT 13 16 rfl HT_.out ?_;refine pT 14 17 rfl HT_.out ?_;refine tT 4 7 rfl HT_.out HW_.out hHeld ?_;refine tT 9 12 rfl HT_.out HW_.out hHeld ?_;refine tT 15 18 rfl HT_.out HW_.out hHeld ?_;refine oT 10 13 rfl HT_.out (fun K hK => ?_);refine Kd.R_lit_step (Kd.int .i64) (w0 := w) w.heap.size 3 (by rfl) (N := 13) ?hd (xs := ([] : List Int)) (inner := []) (ok := fun _ => True) (okp := fun _ => True) ?hr ?hp (fun _ hk => hk) trivial HB.out (bZ HB.out) (by simp) ?_
 case hd => rfl
 case hr => first | (go_simp; done) | (go_simp; rfl)
 case hp => exact Reps.none _ _
 intro vm wm ho hb hg hnew;have nb_ := Q9a.mk (blk_grown (g := b_a0) BKg.out hg (by simp));have nr_ := Q9a.mk (blk_grown (g := gr) BKr.out hg (by simp));clear HB BKg BKr;have HB := Q9a.mk hb;have HOm := Q9a.mk ho;have BKg := nb_;have BKr := nr_;clear nb_ nr_ hb ho hg hnew;refine hK.out _ _ ⟨(kC BKg.out 0).trans rfl, (kC BKg.out 1).trans rfl, (kC BKg.out 2).trans rfl⟩ (fun hHeld => ?_);clear hK K;refine norm_ (a' := ?_) ?_ ?_;rotate_left
 ·show Act.put _ (some 13) _ = _
  simp only [Act.put, sz1, sz2, sz3, i64_w, i32_w];rfl
 refine oT 16 19 rfl HT_.out (fun K hK => ?_);refine Kd.R_append_rows_step (Kd.int .i64) (w0 := w) w.heap.size (by rfl) (.tmp 13) (.tmp 18) 22 3 (.int .i64 0) 8 rfl Try.underlying22 info3 rfl (by decide) (by omega) vm ([] : List Int) a0.mod A2 a0.mod.length c2 (fun _ => True) (fun _ => False) rfl rfl ?aO ?aR (fun _ _ h => h) (fun _ h => h.elim) ?aF ?aB ?aS ?aL ?_
 case aR => exact Kd.cB HR2.out HB.out
 case aB => exact HB.out
 case aF => exact (fun _ _ => trivial)
 case aO => exact HOm.out
 case aS => exact bZ HB.out
 case aL => have := HL.out; simp; omega
 intro vn wn ho hb hg hat;have nb_ := Q9a.mk (blk_grown (g := b_a0) BKg.out hg (Kd.R_ne HOm.out BKg.out (by decide)));have nr_ := Q9a.mk (blk_grown (g := gr) BKr.out hg (Kd.R_ne HOm.out BKr.out (by decide)));clear HB BKg BKr HOm;have HB := Q9a.mk hb;have HOm := Q9a.mk ho;have BKg := nb_;have BKr := nr_;clear nb_ nr_ hb ho hg hat;rw [List.nil_append] at HOm;obtain ⟨An, cn, rfl⟩ := Kd.R_slice HOm.out;refine hK.out _ _ ⟨(kC BKg.out 0).trans rfl, (kC BKg.out 1).trans rfl, (kC BKg.out 2).trans rfl⟩ (fun hHeld => ?_);clear hK K;refine norm_ (a' := ?_) ?_ ?_;rotate_left
 ·show Act.put _ (some 19) _ = _
  simp only [Act.put, sz1, sz2, sz3, i64_w, i32_w];rfl
 refine pT 17 20 rfl HT_.out ?_;refine last_ (i := 18) (N := none) #[tB,tB,tB,tB,tB,tB,tB,tB,tB,tB,tB,tB,tB,tB,tB,tB,tB,tB,tB] rfl rfl (one_of HT_.out (by kernel_rfl)) (by decide) (fun K hK => ?_);have hcr0 : wn.cell? ⟨gr, 0, none⟩ = some (.int .i64 0) := (kC BKr.out 0).trans rfl;have hcr1 : wn.cell? ⟨gr, 1, none⟩ = some (.int .i64 0) := (kC BKr.out 1).trans rfl;have hcr2 : wn.cell? ⟨gr, 2, none⟩ = some (.slice none 0 0) := (kC BKr.out 2).trans rfl;have hfr0 := kF BKr.out 0;have hfr1 := kF BKr.out 1;have hfr2 := kF BKr.out 2;refine skip_ (w1 := ?_) (by rfl) rfl ?_ ?_;rotate_left
 ·go_simp;rfl
 refine hK.out _ _ ?_;clear hK K;refine done_ (done_of HT_.out (by kernel_rfl)) ?_;go_wp2
 refine bodyPost_ret (results_c rfl _ _ gr 24 #[.int .i64 (a0.F.p : Int), .int .i64 (a0.F.m : Int), .slice An a0.mod.length cn] (0, 0) _ rfl (by (with_reducible repeat (first | refine kN ?_ _ | refine kD ?_ | refine kA ?_ _)); refine blk_put (cs := #[.int .i64 (a0.F.p : Int), .int .i64 (a0.F.m : Int), .slice none 0 0]) ?_ 2 _ rfl; (with_reducible repeat (first | refine kN ?_ _ | refine kD ?_ | refine kA ?_ _)); refine blk_put (cs := #[.int .i64 (a0.F.p : Int), .int .i64 0, .slice none 0 0]) ?_ 1 _ rfl; (with_reducible repeat (first | refine kN ?_ _ | refine kD ?_ | refine kA ?_ _)); refine blk_put (cs := #[.int .i64 0, .int .i64 0, .slice none 0 0]) ?_ 0 _ rfl; (with_reducible repeat (first | refine kN ?_ _ | refine kD ?_ | refine kA ?_ _)); exact BKr.out) Try.underlying24 rfl (by kernel_rfl)) rfl ?_;exact ⟨_, rfl, by (with_reducible repeat (first | apply Kd.rA | apply Kd.rN | apply Kd.rD)); exact Kd.R_mono (Kd.R_far (p := ⟨gr, 2, none⟩) (Kd.R_far (p := ⟨gr, 1, none⟩) (Kd.R_far (p := ⟨gr, 0, none⟩) (Kd.R_types HOm.out BKr.out (by decide)) (fun _ hk => hk.2) _) (fun _ hk => hk.2) _) (fun _ hk => hk.2) _) (fun _ hk => trivial), (by repeat (first | (with_reducible first | exact HB.out | apply bA | apply bN | apply bD | refine bS ?_ GEr.out) | exact HB.out))⟩
end
end Go.Proofs.Ytlbddjojhcgpiaa.Hand
end
-- GmNeg
section
namespace Go.Proofs.Ytlbddjojhcgpiaa.Hand
open Go.RowKit Go.Proofs.YtlbddjojhcgpiaaW.PrintWords
theorem gs_neg_loop (G : GFv) (n : Nat) : ∀ (x s t : Nat), x < G.F.p ^ n → t * G.F.p ^ n ≤ 65536 → s < t →
  Ev (fun k => GS.field_GF_Neg.l0 k (x : Int) (s : Int) (t : Int) (G.F.p : Int) (G.F.m : Int) G.mod (G.q : Int) G.exp G.log) ((s + t * Cw.negc G.F.p n x : Nat), (G.F.p : Int), (G.F.m : Int), (G.q : Int)) := by
 have hp := G.p_ge;have hq := G.q_le;have hpq := G.p_le;induction n with
 | zero =>
  intro x s t hx ht hs;rw [Nat.pow_zero] at hx;obtain rfl : x = 0 := by omega
  refine Ev.step (f := fun _ => _) (fun k => by simp only [GS.field_GF_Neg.l0]; rw [if_neg (by omega)]) ?_;simp only [Cw.negc, Nat.mul_zero, Nat.add_zero];exact Ev.now _
 | succ n ih =>
  intro x s t hx ht hs;by_cases h0 : x = 0
  ·subst h0;refine Ev.step (f := fun _ => _) (fun k => by simp only [GS.field_GF_Neg.l0]; rw [if_neg (by omega)]) ?_;rw [Cw.negc_zero, Nat.mul_zero, Nat.add_zero];exact Ev.now _
  have hpow : 1 ≤ G.F.p ^ n := Nat.one_le_pow _ _ (by omega);have e1 : t * G.F.p ^ (n + 1) = t * G.F.p * G.F.p ^ n := by rw [Nat.pow_succ]; ac_rfl
  have e2 : t * G.F.p * 1 ≤ t * G.F.p * G.F.p ^ n := Nat.mul_le_mul_left _ hpow;have e3 : t * 2 ≤ t * G.F.p := Nat.mul_le_mul_left _ hp;have hm := Nat.mod_lt (G.F.p - x % G.F.p) (show 0 < G.F.p by omega);have hmx := Nat.mod_lt x (show 0 < G.F.p by omega);have e4 : (G.F.p - x % G.F.p) % G.F.p * t ≤ (G.F.p - 1) * t := Nat.mul_le_mul_right _ (by omega)
  have e5 : (G.F.p - 1) * t + t = t * G.F.p := by
   rw [← Nat.succ_mul, show (G.F.p - 1).succ = G.F.p from by omega, Nat.mul_comm]
  have hxp : x / G.F.p ≤ x := Nat.div_le_self _ _
  have hxb : x < 65536 := by
   have : G.F.p ^ (n + 1) ≤ t * G.F.p ^ (n + 1) := Nat.le_mul_of_pos_left _ (by omega);omega
  have key : ∀ k, GS.field_GF_Neg.l0 (k + 1) (x : Int) (s : Int) (t : Int) (G.F.p : Int) (G.F.m : Int) G.mod (G.q : Int) G.exp G.log
    = GS.field_GF_Neg.l0 k ((x / G.F.p : Nat) : Int) ((s + (G.F.p - x % G.F.p) % G.F.p * t : Nat) : Int) ((t * G.F.p : Nat) : Int) (G.F.p : Int) (G.F.m : Int) G.mod (G.q : Int) G.exp G.log := by
   intro k
   have hnext : wrap64 (Int.tdiv (x : Int) (G.F.p : Int)) = ((x / G.F.p : Nat) : Int)
     ∧ wrap64 ((s : Int) + wrap64 (Int.tmod (wrap64 ((G.F.p : Int) - Int.tmod (x : Int) (G.F.p : Int))) (G.F.p : Int) * (t : Int))) = ((s + (G.F.p - x % G.F.p) % G.F.p * t : Nat) : Int)
     ∧ wrap64 ((t : Int) * (G.F.p : Int)) = ((t * G.F.p : Nat) : Int) := by
    refine ⟨?_, ?_, ?_⟩
    ·rw [Cw.tdiv_nat, w64n _ (by omega)]
    ·rw [Cw.tmod_nat, show (G.F.p : Int) - ((x % G.F.p : Nat) : Int) = ((G.F.p - x % G.F.p : Nat) : Int) by omega, w64n _ (by omega), Cw.tmod_nat, ← Int.natCast_mul, w64n _ (by omega), ← Int.natCast_add, w64n _ (by omega)]
    rw [← Int.natCast_mul, w64n _ (by omega)]
   obtain ⟨n1, n3, n4⟩ := hnext;simp only [GS.field_GF_Neg.l0];rw [n1, n3, n4, if_pos (show (x : Int) > 0 by omega), if_neg (by omega)]
  refine Ev.step key ?_;have := ih (x / G.F.p) (s + (G.F.p - x % G.F.p) % G.F.p * t) (t * G.F.p) (Cw.div_lt_pow (by omega) hx) (by rw [e1] at ht; exact ht) (by omega)
  rw [show s + t * Cw.negc G.F.p (n + 1) x = s + (G.F.p - x % G.F.p) % G.F.p * t + t * G.F.p * Cw.negc G.F.p n (x / G.F.p) from by
   rw [Cw.negc, Nat.mul_add, Nat.add_assoc]; congr 2
   ·rw [Nat.mul_comm]
   rw [Nat.mul_assoc]]
  exact this
theorem gs_neg (G : GFv) (x : Int) : Ev (fun k => GS.field_GF_Neg.f k (G.F.p : Int) (G.F.m : Int) G.mod (G.q : Int) G.exp G.log x) (G.neg x, (G.F.p : Int), (G.F.m : Int), (G.q : Int)) := by
 obtain ⟨a, ha, haq, hac⟩ := inn_nat G x;have hq := G.q_le
 have hneg : G.neg x = ((Cw.negc G.F.p G.F.m a : Nat) : Int) := by
  unfold Cw.GFv.neg Cw.GFv.num; rw [Cw.El.code_neg, hac]
 rw [hneg];have hl := gs_neg_loop G G.F.m a 0 1 haq (by show 1 * G.q ≤ _; omega) (by omega);rw [Nat.zero_add, Nat.one_mul] at hl;refine Ev.congr (fun k => ?_) hl;unfold GS.field_GF_Neg.f
 rw [gs_in]; simp only [Option.bind_some];rw [ha];rfl
def field_GF_Neg.f (a0 : GFv) (a1 : Int) : Option (Int) := some (a0.neg a1)
theorem field_GF_Neg.calls (b_a0 : Nat) (a0 : GFv) (a1 : Int) (r : Int) (w : World) (hg0 : GFok w b_a0 a0) (h : field_GF_Neg.f a0 a1 = some r) :
  Calls Try.prog 75 #[.pointer (some ⟨b_a0, 0, none⟩), .int .i64 a1] w fun e w' => e = .returned (.int .i64 r) ∧ Below w.heap.size w w' := by
 obtain rfl := Option.some.inj h;obtain ⟨k, hk⟩ := (gs_neg a0 a1).rounds;exact (GS.field_GF_Neg.calls k b_a0 _ _ _ _ _ _ a1 _ _ _ _ w w hg0.isS (Below.refl _ _) hk).mono fun e w' h => ⟨h.1, h.2.2.1⟩
end Go.Proofs.Ytlbddjojhcgpiaa.Hand
end
-- D1
section
namespace Go.Proofs.Ytlbddjojhcgpiaa.Pl
open Go.RowKit Go.Proofs.Ytlbddjojhcgpiaa.P Go.Proofs.YtlbddjojhcgpiaaW.PrintWords
theorem w64 {n : Int} (h0 : -9223372036854775808 ≤ n) (h1 : n < 9223372036854775808) : wrap64 n = n := by
 unfold wrap64; omega
theorem w64n (n : Nat) (h : n < 9223372036854775808) : wrap64 (n : Int) = n := w64 (by omega) (by omega)
def ordV (P M : Int) : Int := if 2 ≤ P ∧ 1 ≤ M ∧ M ≤ 8 ∧ P.toNat ^ M.toNat ≤ 256 then ((P.toNat ^ M.toNat : Nat) : Int) else 0
theorem pow_le_of {p i m : Nat} (hp : 2 ≤ p) (h : i ≤ m) : p ^ i ≤ p ^ m := Nat.pow_le_pow_right (by omega) h
theorem order_loop (p m : Nat) (hp : 2 ≤ p) (hp2 : p ≤ 256) (hm : m ≤ 8) : ∀ d i, i + d = m → p ^ i ≤ 256 → Ev (fun k => field_order.l0 k (p : Int) ((p ^ i : Nat) : Int) (m : Int) (i : Int)) (if p ^ m ≤ 256 then ((p ^ m : Nat) : Int) else 0) := by
 intro d;induction d with
 | zero =>
  intro i hi hle;obtain rfl : i = m := by omega
  rw [if_pos hle];refine Ev.step (f := fun _ => some _) (fun k => ?_) (Ev.now _);simp only [field_order.l0];rw [if_neg (by omega)]
 | succ d ih =>
  intro i hi hle;have hb : p ^ i * p ≤ 256 * 256 := Nat.mul_le_mul hle hp2
  have hw : wrap64 (((p ^ i : Nat) : Int) * (p : Int)) = ((p ^ (i + 1) : Nat) : Int) := by
   rw [← Int.natCast_mul, ← Nat.pow_succ];exact w64n _ (by rw [Nat.pow_succ]; omega)
  have hw2 : wrap64 ((i : Int) + 1) = ((i + 1 : Nat) : Int) := by rw [w64 (by omega) (by omega)]; rfl
  by_cases hc : p ^ (i + 1) ≤ 256
  ·refine Ev.step (fun k => ?_) (ih (i + 1) (by omega) hc);simp only [field_order.l0];rw [if_pos (by omega), hw, hw2, if_neg (by omega)]
  have hmm : ¬ p ^ m ≤ 256 := fun h => hc (Nat.le_trans (pow_le_of hp (by omega)) h)
  rw [if_neg hmm];refine Ev.step (f := fun _ => some _) (fun k => ?_) (Ev.now _);simp only [field_order.l0];rw [if_pos (by omega), hw, if_pos (by omega)]
theorem order_ev (P M : Int) : Ev (fun k => field_order.f k P M) (ordV P M) := by
 have zero : ordV P M = 0 → Ev (fun k => field_order.j0 k P M true) (ordV P M) := by
  intro h;rw [h];refine Ev.step (f := fun _ => some _) (fun k => ?_) (Ev.now _);simp only [field_order.j0];rfl
 by_cases h1 : P < 2
 ·refine Ev.congr (fun k => ?_) (zero (by unfold ordV; rw [if_neg (by omega)]));unfold field_order.f
  rw [if_pos h1]
 by_cases h2 : P > 256
 ·refine Ev.congr (fun k => ?_) (zero ?_)
  ·unfold field_order.f
   rw [if_neg h1, if_pos h2]
  unfold ordV
  rw [if_neg];rintro ⟨a, b, c, d⟩;have := pow_le_of (p := P.toNat) (i := 1) (m := M.toNat) (by omega) (by omega);rw [Nat.pow_one] at this;omega
 by_cases h3 : M < 1
 ·refine Ev.congr (fun k => ?_) (zero (by unfold ordV; rw [if_neg (by omega)]));unfold field_order.f
  rw [if_neg h1, if_neg h2, if_pos h3]
 by_cases h4 : M > 8
 ·refine Ev.congr (fun k => ?_) (zero (by unfold ordV; rw [if_neg (by omega)]));unfold field_order.f
  rw [if_neg h1, if_neg h2, if_neg h3, decide_eq_true h4]
 obtain ⟨p, rfl⟩ := Int.eq_ofNat_of_zero_le (show 0 ≤ P by omega);obtain ⟨m, rfl⟩ := Int.eq_ofNat_of_zero_le (show 0 ≤ M by omega);have hl := order_loop p m (by omega) (by omega) (by omega) m 0 (by omega) (by simp)
 have e : (if p ^ m ≤ 256 then ((p ^ m : Nat) : Int) else 0) = ordV p m := by
  unfold ordV
  simp only [Int.toNat_natCast];by_cases hc : p ^ m ≤ 256
  ·rw [if_pos hc, if_pos ⟨by omega, by omega, by omega, hc⟩]
  rw [if_neg hc, if_neg (fun h => hc h.2.2.2)]
 rw [e] at hl;refine Ev.congr (f := fun k => field_order.j0 k (p : Int) (m : Int) false) (fun k => ?_) ?_
 ·unfold field_order.f
  rw [if_neg h1, if_neg h2, if_neg h3, decide_eq_false h4]
 refine Ev.step (fun k => ?_) hl;simp only [field_order.j0];rw [if_neg (by simp)];rfl
theorem order04_loop (p m : Nat) (hp : 2 ≤ p) (hm : m ≤ 8) (l : List Int) (hpw : (p : Int) < 9223372036854775808) : ∀ d i, i + d = m → p ^ i ≤ 256 → Ev (fun k => r4Order.l0 k ((p ^ i : Nat) : Int) (i : Int) (p : Int) (m : Int) l) (if p ^ m ≤ 256 then ((p ^ m : Nat) : Int) else 0) := by
 intro d;induction d with
 | zero =>
  intro i hi hle;obtain rfl : i = m := by omega
  rw [if_pos hle];refine Ev.step (f := fun _ => some _) (fun k => ?_) (Ev.now _);simp only [r4Order.l0];rw [if_neg (by omega)]
 | succ d ih =>
  intro i hi hle
  have hd : wrap64 (Int.tdiv 256 (p : Int)) = ((256 / p : Nat) : Int) := by
   rw [show (256 : Int) = ((256 : Nat) : Int) from rfl, Cw.tdiv_nat];exact w64n _ (by have := Nat.div_le_self 256 p; omega)
  have hw2 : wrap64 ((i : Int) + 1) = ((i + 1 : Nat) : Int) := by rw [w64 (by omega) (by omega)]; rfl
  have hiff : p ^ (i + 1) ≤ 256 ↔ p ^ i ≤ 256 / p := by
   rw [Nat.le_div_iff_mul_le (by omega), Nat.pow_succ]
  by_cases hc : p ^ (i + 1) ≤ 256
  ·have hw : wrap64 (((p ^ i : Nat) : Int) * (p : Int)) = ((p ^ (i + 1) : Nat) : Int) := by
    rw [← Int.natCast_mul, ← Nat.pow_succ];exact w64n _ (Nat.lt_of_le_of_lt hc (by omega))
   refine Ev.step (fun k => ?_) (ih (i + 1) (by omega) hc);have := hiff.1 hc;simp only [r4Order.l0];rw [if_pos (by omega), if_neg (by omega), hd, if_neg (by omega), hw, hw2]
  have hmm : ¬ p ^ m ≤ 256 := fun h => hc (Nat.le_trans (pow_le_of hp (by omega)) h)
  have : ¬ p ^ i ≤ 256 / p := fun h => hc (hiff.2 h)
  rw [if_neg hmm];refine Ev.step (f := fun _ => some _) (fun k => ?_) (Ev.now _);simp only [r4Order.l0];rw [if_pos (by omega), if_neg (by omega), hd, if_pos (by omega)]
theorem order04_ev (P M : Int) (l : List Int) (hP : P < 9223372036854775808) : Ev (fun k => r4Order.f k P M l) (ordV P M) := by
 have zero : ordV P M = 0 → Ev (fun k => r4Order.j0 k true P M l) (ordV P M) := by
  intro h;rw [h];refine Ev.step (f := fun _ => some _) (fun k => ?_) (Ev.now _);simp only [r4Order.j0];rfl
 by_cases h1 : P < 2
 ·refine Ev.congr (fun k => ?_) (zero (by unfold ordV; rw [if_neg (by omega)]));unfold r4Order.f
  rw [if_pos h1]
 by_cases h3 : M < 1
 ·refine Ev.congr (fun k => ?_) (zero (by unfold ordV; rw [if_neg (by omega)]));unfold r4Order.f
  rw [if_neg h1, if_pos h3]
 by_cases h4 : M > 8
 ·refine Ev.congr (fun k => ?_) (zero (by unfold ordV; rw [if_neg (by omega)]));unfold r4Order.f
  rw [if_neg h1, if_neg h3, decide_eq_true h4]
 obtain ⟨p, rfl⟩ := Int.eq_ofNat_of_zero_le (show 0 ≤ P by omega);obtain ⟨m, rfl⟩ := Int.eq_ofNat_of_zero_le (show 0 ≤ M by omega);have hl := order04_loop p m (by omega) (by omega) l hP m 0 (by omega) (by simp)
 have e : (if p ^ m ≤ 256 then ((p ^ m : Nat) : Int) else 0) = ordV p m := by
  unfold ordV
  simp only [Int.toNat_natCast];by_cases hc : p ^ m ≤ 256
  ·rw [if_pos hc, if_pos ⟨by omega, by omega, by omega, hc⟩]
  rw [if_neg hc, if_neg (fun h => hc h.2.2.2)]
 rw [e] at hl;refine Ev.congr (f := fun k => r4Order.j0 k false (p : Int) (m : Int) l) (fun k => ?_) ?_
 ·unfold r4Order.f
  rw [if_neg h1, if_neg h3, decide_eq_false h4]
 refine Ev.step (fun k => ?_) hl;simp only [r4Order.j0];rw [if_neg (by simp)];rfl
theorem ordV_pos {P M : Int} (h : ordV P M ≠ 0) : ∃ p m : Nat, P = p ∧ M = m ∧ 2 ≤ p ∧ p ≤ 256 ∧ 1 ≤ m ∧ m ≤ 8 ∧ p ^ m ≤ 256 ∧ ordV P M = ((p ^ m : Nat) : Int) := by
 unfold ordV at h ⊢
 by_cases hc : 2 ≤ P ∧ 1 ≤ M ∧ M ≤ 8 ∧ P.toNat ^ M.toNat ≤ 256
 ·rw [if_pos hc];have := pow_le_of (p := P.toNat) (i := 1) (m := M.toNat) (by omega) (by omega);rw [Nat.pow_one] at this;exact ⟨P.toNat, M.toNat, by omega, by omega, by omega, by omega, by omega, by omega, hc.2.2.2, rfl⟩
 rw [if_neg hc] at h;exact absurd rfl h
open Classical in
theorem prime_none {n d : Nat} (h : ∀ e, 2 ≤ e → e < d → ¬ e ∣ n) (hn : 2 ≤ n) (hd : n < d * d) : Cw.Prm n := by
 refine ⟨hn, fun e he => ?_⟩;obtain ⟨f, hf⟩ := he;by_cases h1 : e = 1
 ·exact Or.inl h1
 by_cases h2 : e = n
 ·exact Or.inr h2
 exfalso
 have e0 : e ≠ 0 := by rintro rfl; omega
 have f0 : f ≠ 0 := by rintro rfl; omega
 have f1 : f ≠ 1 := by rintro rfl; omega
 have a := h e (by omega);have b := h f (by omega)
 have ha : d ≤ e := by
  by_cases hh : d ≤ e
  ·exact hh
  exact absurd ⟨f, hf⟩ (a (by omega))
 have hb : d ≤ f := by
  by_cases hh : d ≤ f
  ·exact hh
  exact absurd ⟨e, by rw [hf, Nat.mul_comm]⟩ (b (by omega))
 have := Nat.mul_le_mul ha hb;omega
theorem not_prm {n d : Nat} (hd : 2 ≤ d) (hn : d < n) (h : d ∣ n) : ¬ Cw.Prm n := fun hp => by
 rcases hp.2 d h with h | h <;> omega
open Classical in
theorem isPrime_loop (n : Nat) (hn : n ≤ 65536) (hn2 : 2 ≤ n) : ∀ g d, d + g = 300 → 2 ≤ d → (∀ e, 2 ≤ e → e < d → ¬ e ∣ n) → Ev (fun k => field_isPrime.l0 k (n : Int) (d : Int)) (decide (Cw.Prm n)) := by
 intro g;induction g with
 | zero =>
  intro d hd h2 h;obtain rfl : d = 300 := by omega
  refine Ev.step (f := fun _ => some _) (fun k => ?_) (Ev.now _);simp only [field_isPrime.l0];rw [w64 (by omega) (by omega), if_neg (by omega), decide_eq_true (prime_none h hn2 (by omega)), decide_eq_true (by omega)]
 | succ g ih =>
  intro d hd h2 h;have hdd : d * d ≤ 300 * 300 := Nat.mul_le_mul (by omega) (by omega)
  have hw : wrap64 ((d : Int) * (d : Int)) = ((d * d : Nat) : Int) := by
   rw [← Int.natCast_mul];exact w64n _ (by omega)
  by_cases hc : d * d ≤ n
  ·by_cases hdv : d ∣ n
   ·have hlt : d < n := by
     have : 2 * d ≤ d * d := Nat.mul_le_mul_right _ h2;omega
    refine Ev.step (f := fun _ => some _) (fun k => ?_) (Ev.now _);simp only [field_isPrime.l0];rw [hw, if_pos (by omega), if_neg (by omega), Cw.tmod_nat, Nat.mod_eq_zero_of_dvd hdv, if_pos (by rfl), decide_eq_false (not_prm h2 hlt hdv)]
   refine Ev.step (fun k => ?_) (ih (d + 1) (by omega) (by omega) (fun e he hlt => by
    by_cases hh : e = d
    ·rw [hh]; exact hdv
    exact h e he (by omega)))
   simp only [field_isPrime.l0];have : n % d ≠ 0 := fun h0 => hdv (Nat.dvd_of_mod_eq_zero h0)
   rw [hw, if_pos (by omega), if_neg (by omega), Cw.tmod_nat, if_neg (by omega), w64 (by omega) (by omega)];rfl
  refine Ev.step (f := fun _ => some _) (fun k => ?_) (Ev.now _);simp only [field_isPrime.l0];rw [hw, if_neg (by omega), decide_eq_true (prime_none h hn2 (by omega)), decide_eq_true (by omega)]
open Classical in
theorem isPrime_ev (n : Nat) (hn : n ≤ 65536) (hn2 : 2 ≤ n) : Ev (fun k => field_isPrime.f k (n : Int)) (decide (Cw.Prm n)) :=
 isPrime_loop n hn hn2 298 2 rfl (by omega) (fun e h1 h2 => by omega)
open Classical in
theorem prime04_loop (n : Nat) (hn : n ≤ 65536) (hn2 : 2 ≤ n) : ∀ g d, d + g = n → 2 ≤ d → (∀ e, 2 ≤ e → e < d → ¬ e ∣ n) → Ev (fun k => r4prime.l0 k (n : Int) (d : Int)) (decide (Cw.Prm n)) := by
 intro g;induction g with
 | zero =>
  intro d hd h2 h;obtain rfl : d = n := by omega
  refine Ev.step (f := fun _ => some _) (fun k => ?_) (Ev.now _);simp only [r4prime.l0];have : 2 * d ≤ d * d := Nat.mul_le_mul_right _ h2;rw [if_neg (by omega), decide_eq_true (prime_none h hn2 (by omega))]
 | succ g ih =>
  intro d hd h2 h;by_cases hdv : d ∣ n
  ·refine Ev.step (f := fun _ => some _) (fun k => ?_) (Ev.now _);simp only [r4prime.l0];rw [if_pos (by omega), if_neg (by omega), Cw.tmod_nat, Nat.mod_eq_zero_of_dvd hdv, if_pos (by rfl), decide_eq_false (not_prm h2 (by omega) hdv)]
  refine Ev.step (fun k => ?_) (ih (d + 1) (by omega) (by omega) (fun e he hlt => by
   by_cases hh : e = d
   ·rw [hh]; exact hdv
   exact h e he (by omega)))
  simp only [r4prime.l0];have : n % d ≠ 0 := fun h0 => hdv (Nat.dvd_of_mod_eq_zero h0)
  rw [if_pos (by omega), if_neg (by omega), Cw.tmod_nat, if_neg (by omega), w64 (by omega) (by omega)];rfl
open Classical in
theorem prime04_ev (n : Nat) (hn : n ≤ 65536) (hn2 : 2 ≤ n) : Ev (fun k => r4prime.f k (n : Int)) (decide (Cw.Prm n)) := by
 obtain ⟨g, hg⟩ := Nat.le.dest hn2;exact prime04_loop n hn hn2 g 2 hg (by omega) (fun e h1 h2 => by omega)
end Go.Proofs.Ytlbddjojhcgpiaa.Pl
end
-- Pa5
section
namespace Go.Proofs.Ytlbddjojhcgpiaa.P
noncomputable section
open Go.RowKit Go.Proofs.Ytlbddjojhcgpiaa.Hand Go.Proofs.YtlbddjojhcgpiaaW.PrintWords Go.Proofs.YtlbddjojhcgpiaaW.PrintLast Go.Proofs.YtlbddjojhcgpiaaW.PrintMore
set_option linter.unusedVariables false
set_option linter.unusedSimpArgs false
def r4Value.l0 : Nat → List Int → Int → Int → Int → Int → List Int → Option (Int)
 | 0, _, _, _, _, _, _ => none
 | k + 1, x1, x5, x6, x217000, x217001, x217002 => if x6 ≥ 0 then (if 0 ≤ x6 then (if x6 < (x1.length : Int) then (r4Value.l0 k x1 (wrap64 ((wrap64 (x5 * x217000)) + (rd x1 x6))) (wrap64 (x6 - 1)) x217000 x217001 x217002) else (none)) else (none)) else (some x5)
def r4Value.f (k : Nat) (a0_0 : Int) (a0_1 : Int) (l0_2 : List Int) (l1 : List Int) : Option (Int) := r4Value.l0 k l1 0 (wrap64 ((l1.length : Int) - 1)) a0_0 a0_1 l0_2
theorem r4Value.calls (k : Nat) (a0_0 : Int) (a0_1 : Int) (A0_2 : Option Addr) (c0_2 : Nat) (l0_2 : List Int) (A1 : Option Addr) (c1 : Nat) (l1 : List Int) (r : Int) (w : World) (hr0_2 : Kd.C (Kd.int .i64) w A0_2 l0_2.length l0_2) (hc0_2 : l0_2.length ≤ c0_2) (hr1 : Kd.C (Kd.int .i64) w A1 l1.length l1) (hc1 : l1.length ≤ c1) (h : r4Value.f k a0_0 a0_1 l0_2 l1 = some r) :
  Calls Try.prog 45 #[.agg #[.int .i64 a0_0, .int .i64 a0_1, .slice A0_2 l0_2.length c0_2], .slice A1 l1.length c1] w fun e w' => e = .returned (.int .i64 r) ∧ Below w.heap.size w w' := by
 have hu24 := Try.underlying24;have HR0_2 := Q9a.mk hr0_2;have HC0_2 := Q9a.mk hc0_2;clear hr0_2 hc0_2;have HR1 := Q9a.mk hr1;have HC1 := Q9a.mk hc1;clear hr1 hc1;have HB := Q9a.mk (Below.refl w.heap.size w);have H : (r4Value.l0 k l1 0 (wrap64 ((l1.length : Int) - 1)) a0_0 a0_1 l0_2) = some r := h;clear h;have H' := Q9a.mk H;clear H;go_enter Try.func45, Try.ntmps45
 go_wp2_with (first | ((with_reducible refine gD (N := 2) rfl ?_); refine bE ?hg (N := 2) ?hd (cs := #[.int .i64 a0_0, .int .i64 a0_1, .slice A0_2 l0_2.length c0_2]) (t := 24) ?hr ?_; (case hd => rfl); (case hg => rfl); (case hr => first | (go_simp; done) | (go_simp; rfl)); intro gb216 hg w3 hbox hb; have n0_ := Q9a.mk (bP (bI HB.out) hb); have n1_ := Q9a.mk (hbox); have n2_ := Q9a.mk ((by rw [hg]; exact (bZ (bI HB.out)) : w.heap.size ≤ gb216)); have n3_ := n2_; clear HB; have HB := n0_; have BK216 := n1_; have GW216 := n2_; have GE216 := n3_; clear n0_ n1_ n2_ n3_; clear hb hbox hg))
 repeat (go_quiet (first | ((with_reducible refine gD (N := 2) rfl ?_); refine bE ?hg (N := 2) ?hd (cs := #[.int .i64 a0_0, .int .i64 a0_1, .slice A0_2 l0_2.length c0_2]) (t := 24) ?hr ?_; (case hd => rfl); (case hg => rfl); (case hr => first | (go_simp; done) | (go_simp; rfl)); intro gb216 hg w3 hbox hb; have n0_ := Q9a.mk (bP (bI HB.out) hb); have n1_ := Q9a.mk (hbox); have n2_ := Q9a.mk ((by rw [hg]; exact (bZ (bI HB.out)) : w.heap.size ≤ gb216)); have n3_ := n2_; clear HB; have HB := n0_; have BK216 := n1_; have GW216 := n2_; have GE216 := n3_; clear n0_ n1_ n2_ n3_; clear hb hbox hg)); try go_wp2_with (first | ((with_reducible refine gD (N := 2) rfl ?_); refine bE ?hg (N := 2) ?hd (cs := #[.int .i64 a0_0, .int .i64 a0_1, .slice A0_2 l0_2.length c0_2]) (t := 24) ?hr ?_; (case hd => rfl); (case hg => rfl); (case hr => first | (go_simp; done) | (go_simp; rfl)); intro gb216 hg w3 hbox hb; have n0_ := Q9a.mk (bP (bI HB.out) hb); have n1_ := Q9a.mk (hbox); have n2_ := Q9a.mk ((by rw [hg]; exact (bZ (bI HB.out)) : w.heap.size ≤ gb216)); have n3_ := n2_; clear HB; have HB := n0_; have BK216 := n1_; have GW216 := n2_; have GE216 := n3_; clear n0_ n1_ n2_ n3_; clear hb hbox hg)))
 go_loopg [5, 6] k (fun kq v5 v6 w' => ∃ (x5_1 : Int) (x6_1 : Int), v5 = .int .i64 x5_1 ∧ v6 = .int .i64 x6_1 ∧ Q9a (r4Value.l0 kq l1 x5_1 x6_1 a0_0 a0_1 l0_2 = some r) ∧ Q9a (kq ≤ k) ∧ Q9a (w'.heap[gb216]? = some (.cells #[.int .i64 a0_0, .int .i64 a0_1, (.slice A0_2 l0_2.length c0_2)] 24 (0, 0))) ∧ Q9a (Below w.heap.size w w'))
 case atStart => exact ⟨(0), (wrap64 ((l1.length : Int) - 1)), (by first | rfl | (simp; done) | (simp [*]; done)), (by first | rfl | (simp; done) | (simp [*]; done)), H', ⟨Nat.le_refl _⟩, ⟨kI BK216.out⟩, ⟨bJ HB.out GE216.out⟩⟩
 case round =>
  clear H';try clear c1
  try clear p2
  obtain ⟨x5_1, x6_1, rfl, rfl, HA, HK1, BK216, HB⟩ := hrel
  cases gk with
  | zero => exact absurd HA.out (by simp [r4Value.l0])
  | succ k1 =>
   have H := HA.out;clear HA;simp only [r4Value.l0] at H;by_cases c4 : x6_1 ≥ 0
   ·rw [if_pos c4] at H;have c4b0 : decide (0 ≤ x6_1) = true := decide_eq_true c4;clear c4;by_cases c5 : 0 ≤ x6_1
    ·rw [if_pos c5] at H;have c5b0 : decide (0 ≤ x6_1) = true := decide_eq_true c5;clear c5;by_cases c6 : x6_1 < (l1.length : Int)
     ·rw [if_pos c6] at H;have c6b0 : decide (x6_1 < (l1.length : Int)) = true := decide_eq_true c6;clear c6;have H' := Q9a.mk H;clear H;have hcz7_0 : wr.cell? ⟨gb216, 0, none⟩ = some (.int .i64 a0_0) := (kC BK216.out 0).trans rfl;have hcz7_1 : wr.cell? ⟨gb216, 1, none⟩ = some (.int .i64 a0_1) := (kC BK216.out 1).trans rfl;have hcz7_2 : wr.cell? ⟨gb216, 2, none⟩ = some (.slice A0_2 l0_2.length c0_2) := (kC BK216.out 2).trans rfl;have hfz7_0 := kF BK216.out 0;have hfz7_1 := kF BK216.out 1;have hfz7_2 := kF BK216.out 2;have p217 : 0 ≤ (x6_1 : Int) := of_decide_eq_true (by first | (with_reducible assumption) | assumption);have q217 : x6_1 < (l1.length : Int) := of_decide_eq_true (by first | (with_reducible assumption) | assumption);obtain ⟨ad217, e217, hx217_0⟩ := Kd.at_int HR1.out x6_1 p217 q217
      cases e217
      replace hx217_0 := (HB.out.cell (World.block_lt_of_cell? w _ hx217_0)).trans hx217_0;replace p217 := eq_true p217;replace q217 := eq_true q217;go_wp2
      repeat (go_quiet (fail); try go_wp2)
      go_roundg k1
      case measure => have := HK1.out; omega
      case rel => exact ⟨(wrap64 ((wrap64 (x5_1 * a0_0)) + (rd l1 x6_1))), (wrap64 (x6_1 - 1)), (by first | rfl | (simp; done) | (simp [*]; done)), (by first | rfl | (simp; done) | (simp [*]; done)), H', ⟨by have := HK1.out; omega⟩, ⟨kI BK216.out⟩, ⟨bJ HB.out GE216.out⟩⟩
     rw [if_neg c6] at H;exact absurd H (by simp)
    rw [if_neg c5] at H;exact absurd H (by simp)
   rw [if_neg c4] at H;have c4b0 : decide (0 ≤ x6_1) = false := decide_eq_false c4;clear c4;obtain rfl := Option.some.inj H;go_wp2
   repeat (go_quiet (fail); try go_wp2)
   go_ret
   exact ⟨by first | rfl | (simp [*, eN, eS] <;> rfl), bJ HB.out GE216.out⟩
end
end Go.Proofs.Ytlbddjojhcgpiaa.P
end
-- D2
section
namespace Go.Proofs.Ytlbddjojhcgpiaa.Pl
open Go.RowKit Go.Proofs.Ytlbddjojhcgpiaa.P Go.Proofs.YtlbddjojhcgpiaaW.PrintWords
def ints (l : List Nat) : List Int := l.map (fun a : Nat => (a : Int))
theorem ints_length (l : List Nat) : (ints l).length = l.length := by simp [ints]
theorem ints_append (a b : List Nat) : ints (a ++ b) = ints a ++ ints b := by simp [ints]
theorem ints_cons (a : Nat) (b : List Nat) : ints (a :: b) = (a : Int) :: ints b := rfl
theorem ints_zero (d : Nat) : List.replicate d (0 : Int) = ints (List.replicate d 0) := by simp [ints]
theorem rd_at {a b : List Int} {x : Int} {i : Int} (h : i = (a.length : Int)) : rd (a ++ x :: b) i = x := by
 subst h;unfold rd
 rw [Int.toNat_natCast, List.getD_eq_getElem?_getD, List.getElem?_append_right (Nat.le_refl _)];simp
theorem rd_ints (l : List Nat) (i : Nat) : rd (ints l) (i : Int) = ((l.getD i 0 : Nat) : Int) := by
 unfold rd ints
 rw [Int.toNat_natCast, List.getD_eq_getElem?_getD, List.getD_eq_getElem?_getD, List.getElem?_map]
 cases l[i]? <;> rfl
theorem set_at {a b : List Int} {x y : Int} {i : Nat} (h : i = a.length) : (a ++ x :: b).set i y = a ++ y :: b := by
 subst h;rw [List.set_append_right _ _ (Nat.le_refl _), Nat.sub_self];rfl
theorem digitsOf_loop (p : Nat) (hp : 0 < p) (m : Nat) (hm : m < 4294967296) : ∀ (d : Nat) (y : Nat) (A : List Nat), y < 4294967296 → A.length + d = m →
  Ev (fun k => field_digitsOf.l0 k (y : Int) (p : Int) (ints (A ++ List.replicate d 0)) (m : Int) (A.length : Int)) (ints (A ++ Cw.dg p d y)) := by
 intro d;induction d with
 | zero =>
  intro y A hy hA;refine Ev.step (f := fun _ => some _) (fun k => ?_) (Ev.now _);simp only [field_digitsOf.l0];rw [if_neg (by omega)];rfl
 | succ d ih =>
  intro y A hy hA;have h := ih (y / p) (A ++ [y % p]) (Nat.lt_of_le_of_lt (Nat.div_le_self _ _) hy) (by simp; omega);have e : A ++ Cw.dg p (d + 1) y = (A ++ [y % p]) ++ Cw.dg p d (y / p) := by simp [Cw.dg]
  rw [e];refine Ev.step (fun k => ?_) h;simp only [field_digitsOf.l0];have hd := Nat.div_le_self y p
  have hs : (ints (A ++ List.replicate (d + 1) 0)).set A.length (((y % p : Nat)) : Int) = ints (A ++ [y % p] ++ List.replicate d 0) := by
   rw [List.replicate_succ, ints_append, ints_cons, set_at (by rw [ints_length]), List.append_assoc, ints_append];rfl
  rw [if_pos (by omega), if_neg (by omega), if_pos (by omega), if_pos (by rw [ints_length, List.length_append, List.length_replicate]; omega), Cw.tdiv_nat, Cw.tmod_nat, w64n _ (by omega), w64 (by omega) (by omega), Int.toNat_natCast, hs];rw [List.length_append];rfl
theorem digitsOf_ev (x p m : Nat) (hx : x < 4294967296) (hp : 0 < p) (hm : m < 4294967296) : Ev (fun k => field_digitsOf.f k (x : Int) (p : Int) (m : Int)) (ints (Cw.dg p m x)) := by
 have h := digitsOf_loop p hp m hm m x [] hx (by simp);refine Ev.congr (fun k => ?_) h;unfold field_digitsOf.f
 rw [if_pos (by omega), if_pos (by omega), Option.bind_some, Int.toNat_natCast, ints_zero, ints_length, List.length_replicate];rfl
theorem digits04_loop (p : Nat) (hp : 0 < p) (m : Nat) (hm : m < 4294967296) : ∀ (d : Nat) (y : Nat) (A : List Nat), y < 4294967296 → A.length + d = m →
  Ev (fun k => r4digits.l0 k (y : Int) (p : Int) (m : Int) (ints (A ++ List.replicate d 0)) (A.length : Int)) (ints (A ++ Cw.dg p d y)) := by
 intro d;induction d with
 | zero =>
  intro y A hy hA;refine Ev.step (f := fun _ => some _) (fun k => ?_) (Ev.now _);simp only [r4digits.l0];rw [if_neg (by omega)];rfl
 | succ d ih =>
  intro y A hy hA;have h := ih (y / p) (A ++ [y % p]) (Nat.lt_of_le_of_lt (Nat.div_le_self _ _) hy) (by simp; omega);have e : A ++ Cw.dg p (d + 1) y = (A ++ [y % p]) ++ Cw.dg p d (y / p) := by simp [Cw.dg]
  rw [e];refine Ev.step (fun k => ?_) h;simp only [r4digits.l0];have hd := Nat.div_le_self y p
  have hs : (ints (A ++ List.replicate (d + 1) 0)).set A.length (((y % p : Nat)) : Int) = ints (A ++ [y % p] ++ List.replicate d 0) := by
   rw [List.replicate_succ, ints_append, ints_cons, set_at (by rw [ints_length]), List.append_assoc, ints_append];rfl
  rw [if_pos (by omega), if_neg (by omega), if_pos (by omega), if_pos (by rw [ints_length, List.length_append, List.length_replicate]; omega), Cw.tdiv_nat, Cw.tmod_nat, w64n _ (by omega), w64 (by omega) (by omega), Int.toNat_natCast, hs];rw [List.length_append];rfl
theorem digits04_ev (x p m : Nat) (hx : x < 4294967296) (hp : 0 < p) (hm : m < 4294967296) : Ev (fun k => r4digits.f k (x : Int) (p : Int) (m : Int)) (ints (Cw.dg p m x)) := by
 have h := digits04_loop p hp m hm m x [] hx (by simp);refine Ev.congr (fun k => ?_) h;unfold r4digits.f
 rw [if_pos (by omega), if_pos (by omega), Int.toNat_natCast, ints_zero];rfl
theorem cd_le {p : Nat} {l : List Nat} (hl : ∀ a, a ∈ l → a < p) (hs : p ^ l.length ≤ 65536) : Cw.cd p l < 65536 := Nat.lt_of_lt_of_le (Cw.cd_lt l hl) hs
theorem pow_suffix {p : Nat} (hp : 0 < p) (A B : List Nat) (hs : p ^ (A ++ B).length ≤ 65536) : p ^ B.length ≤ 65536 := by
 rw [List.length_append] at hs;exact Nat.le_trans (Nat.pow_le_pow_right hp (by omega)) hs
theorem valueOf_loop (p : Nat) (hp : 0 < p) (hp2 : p ≤ 65536) : ∀ (n : Nat) (A B : List Nat), A.length = n → (∀ a, a ∈ A ++ B → a < p) → p ^ (A ++ B).length ≤ 65536 → (A ++ B).length ≤ 65536 →
  Ev (fun k => field_valueOf.l0 k (ints (A ++ B)) (p : Int) (Cw.cd p B : Int) ((n : Int) - 1)) (Cw.cd p (A ++ B) : Int) := by
 intro n;induction n with
 | zero =>
  intro A B hA hl hs hb;obtain rfl := List.length_eq_zero_iff.1 hA;refine Ev.step (f := fun _ => some _) (fun k => ?_) (Ev.now _);simp only [field_valueOf.l0];rw [if_neg (by omega)];rfl
 | succ n ih =>
  intro A B hA hl hs hb;obtain ⟨A', a, rfl⟩ := Cw.snoc_ex A (by rintro rfl; simp at hA);simp at hA
  have e : A' ++ [a] ++ B = A' ++ (a :: B) := by simp
  rw [e] at hl hs hb ⊢;have h := ih A' (a :: B) hA hl hs hb;refine Ev.step (fun k => ?_) h;simp only [field_valueOf.l0]
  have hB := cd_le (p := p) (l := B) (fun x hx => hl x (by simp [hx])) (by
   have := pow_suffix hp (A' ++ [a]) B (by rw [e]; exact hs);exact this)
  have ha := hl a (by simp);have hm : Cw.cd p B * p ≤ 65536 * 65536 := Nat.mul_le_mul (by omega) hp2
  have hr : rd (ints (A' ++ a :: B)) (((n + 1 : Nat) : Int) - 1) = (a : Int) := by
   rw [ints_append, ints_cons];exact rd_at (by rw [ints_length]; omega)
  have hv : Cw.cd p (a :: B) = Cw.cd p B * p + a := by simp [Cw.cd, Nat.mul_comm, Nat.add_comm]
  rw [if_pos (by omega), if_pos (by omega), if_pos (by rw [ints_length, List.length_append, List.length_cons]; omega), hr, ← Int.natCast_mul, w64n _ (by omega), ← Int.natCast_add, w64n _ (by omega), w64 (by omega) (by rw [List.length_append] at hb; omega), ← hv];congr 1
  omega
theorem valueOf_ev (p : Nat) (l : List Nat) (hp : 0 < p) (hp2 : p ≤ 65536) (hl : ∀ a, a ∈ l → a < p) (hs : p ^ l.length ≤ 65536) (hb : l.length ≤ 65536) : Ev (fun k => field_valueOf.f k (ints l) (p : Int)) (Cw.cd p l : Int) := by
 have h := valueOf_loop p hp hp2 l.length l [] rfl (by simpa using hl) (by simpa using hs) (by simpa using hb);rw [List.append_nil] at h;refine Ev.congr (fun k => ?_) h;unfold field_valueOf.f
 rw [ints_length, w64 (by omega) (by omega)];rfl
theorem value04_loop (p : Nat) (hp : 0 < p) (hp2 : p ≤ 65536) (M : Int) (l : List Int) : ∀ (n : Nat) (A B : List Nat), A.length = n → (∀ a, a ∈ A ++ B → a < p) → p ^ (A ++ B).length ≤ 65536 → (A ++ B).length ≤ 65536 →
  Ev (fun k => r4Value.l0 k (ints (A ++ B)) (Cw.cd p B : Int) ((n : Int) - 1) (p : Int) M l) (Cw.cd p (A ++ B) : Int) := by
 intro n;induction n with
 | zero =>
  intro A B hA hl hs hb;obtain rfl := List.length_eq_zero_iff.1 hA;refine Ev.step (f := fun _ => some _) (fun k => ?_) (Ev.now _);simp only [r4Value.l0];rw [if_neg (by omega)];rfl
 | succ n ih =>
  intro A B hA hl hs hb;obtain ⟨A', a, rfl⟩ := Cw.snoc_ex A (by rintro rfl; simp at hA);simp at hA
  have e : A' ++ [a] ++ B = A' ++ (a :: B) := by simp
  rw [e] at hl hs hb ⊢;have h := ih A' (a :: B) hA hl hs hb;refine Ev.step (fun k => ?_) h;simp only [r4Value.l0]
  have hB := cd_le (p := p) (l := B) (fun x hx => hl x (by simp [hx])) (by
   have := pow_suffix hp (A' ++ [a]) B (by rw [e]; exact hs);exact this)
  have ha := hl a (by simp);have hm : Cw.cd p B * p ≤ 65536 * 65536 := Nat.mul_le_mul (by omega) hp2
  have hr : rd (ints (A' ++ a :: B)) (((n + 1 : Nat) : Int) - 1) = (a : Int) := by
   rw [ints_append, ints_cons];exact rd_at (by rw [ints_length]; omega)
  have hv : Cw.cd p (a :: B) = Cw.cd p B * p + a := by simp [Cw.cd, Nat.mul_comm, Nat.add_comm]
  rw [if_pos (by omega), if_pos (by omega), if_pos (by rw [ints_length, List.length_append, List.length_cons]; omega), hr, ← Int.natCast_mul, w64n _ (by omega), ← Int.natCast_add, w64n _ (by omega), w64 (by omega) (by rw [List.length_append] at hb; omega), ← hv];congr 1
  omega
theorem value04_ev (p : Nat) (l : List Nat) (M : Int) (mod : List Int) (hp : 0 < p) (hp2 : p ≤ 65536) (hl : ∀ a, a ∈ l → a < p) (hs : p ^ l.length ≤ 65536) (hb : l.length ≤ 65536) : Ev (fun k => r4Value.f k (p : Int) M mod (ints l)) (Cw.cd p l : Int) := by
 have h := value04_loop p hp hp2 M mod l.length l [] rfl (by simpa using hl) (by simpa using hs) (by simpa using hb);rw [List.append_nil] at h;refine Ev.congr (fun k => ?_) h;unfold r4Value.f
 rw [ints_length, w64 (by omega) (by omega)];rfl
end Go.Proofs.Ytlbddjojhcgpiaa.Pl
end
-- Pa6
section
namespace Go.Proofs.Ytlbddjojhcgpiaa.P
noncomputable section
open Go.RowKit Go.Proofs.Ytlbddjojhcgpiaa.Hand Go.Proofs.YtlbddjojhcgpiaaW.PrintWords Go.Proofs.YtlbddjojhcgpiaaW.PrintLast Go.Proofs.YtlbddjojhcgpiaaW.PrintMore
set_option linter.unusedVariables false
set_option linter.unusedSimpArgs false
mutual
def r4Mul.l0 : Nat → List Int → List Int → List Int → Int → Int → Int → List Int → Option (Int)
 | 0, _, _, _, _, _, _, _ => none
 | k + 1, x7, x8, x9, x10, x219000, x219001, x219002 => if x10 < x219001 then (r4Mul.l1 k x7 x8 x9 x10 0 x219000 x219001 x219002) else (r4Mul.l2 k x9 (wrap64 ((wrap64 (2 * x219001)) - 2)) x219000 x219001 x219002)
def r4Mul.l1 : Nat → List Int → List Int → List Int → Int → Int → Int → Int → List Int → Option (Int)
 | 0, _, _, _, _, _, _, _, _ => none
 | k + 1, x7, x8, x9, x10, x11, x219000, x219001, x219002 => if x11 < x219001 then (if 0 ≤ (wrap64 (x10 + x11)) then (if (wrap64 (x10 + x11)) < (x9.length : Int) then (if 0 ≤ x10 then (if x10 < (x7.length : Int) then (if 0 ≤ x11 then (if x11 < (x8.length : Int) then (if x219000 = 0 then (none) else (r4Mul.l1 k x7 x8 (x9.set ((wrap64 (x10 + x11)) : Int).toNat (Int.tmod (wrap64 ((rd x9 (wrap64 (x10 + x11))) + (wrap64 ((rd x7 x10) * (rd x8 x11))))) x219000)) x10 (wrap64 (x11 + 1)) x219000 x219001 x219002)) else (none)) else (none)) else (none)) else (none)) else (none)) else (none)) else (r4Mul.l0 k x7 x8 x9 (wrap64 (x10 + 1)) x219000 x219001 x219002)
def r4Mul.l2 : Nat → List Int → Int → Int → Int → List Int → Option (Int)
 | 0, _, _, _, _, _ => none
 | k + 1, x9, x12, x219000, x219001, x219002 => if x12 ≥ x219001 then (r4Mul.l3 k x9 x12 0 x219000 x219001 x219002) else (if 0 ≤ x219001 then (if x219001 ≤ (x9.length : Int) then ((r4Value.f k x219000 x219001 x219002 (x9.take (x219001 : Int).toNat)).bind fun t236 => (some t236)) else (none)) else (none))
def r4Mul.l3 : Nat → List Int → Int → Int → Int → Int → List Int → Option (Int)
 | 0, _, _, _, _, _, _ => none
 | k + 1, x9, x12, x13, x219000, x219001, x219002 => if x13 < x219001 then (if 0 ≤ (wrap64 ((wrap64 (x12 - x219001)) + x13)) then (if (wrap64 ((wrap64 (x12 - x219001)) + x13)) < (x9.length : Int) then (if 0 ≤ x12 then (if x12 < (x9.length : Int) then (if 0 ≤ x13 then (if x13 < (x219002.length : Int) then (if x219000 = 0 then (none) else (r4Mul.l3 k (x9.set ((wrap64 ((wrap64 (x12 - x219001)) + x13)) : Int).toNat (Int.tmod (wrap64 ((rd x9 (wrap64 ((wrap64 (x12 - x219001)) + x13))) + (wrap64 ((wrap64 (x219000 - (rd x9 x12))) * (rd x219002 x13))))) x219000)) x12 (wrap64 (x13 + 1)) x219000 x219001 x219002)) else (none)) else (none)) else (none)) else (none)) else (none)) else (none)) else (r4Mul.l2 k x9 (wrap64 (x12 - 1)) x219000 x219001 x219002)
end
def r4Mul.f (k : Nat) (a0_0 : Int) (a0_1 : Int) (l0_2 : List Int) (a1 : Int) (a2 : Int) : Option (Int) := (r4Digits.f k a0_0 a0_1 l0_2 a1).bind fun t219 => ((r4Digits.f k a0_0 a0_1 l0_2 a2).bind fun t222 => (if 0 ≤ (wrap64 ((wrap64 (2 * a0_1)) - 1)) then (if (wrap64 ((wrap64 (2 * a0_1)) - 1) : Int).toNat ≤ 35184372088832 then (r4Mul.l0 k t219 t222 (List.replicate (wrap64 ((wrap64 (2 * a0_1)) - 1) : Int).toNat 0) 0 a0_0 a0_1 l0_2) else (none)) else (none)))
def r4Mul.T10 : Bool × List (List Nat × List Nat) := (true, [([], []), ([], []), ([], []), ([1, 2], [1, 2]), ([], []), ([], []), ([], []), ([5, 6], [5, 6]), ([4, 7], [4, 7]), ([8], [8]), ([], []), ([], []), ([10, 11], [10, 11]), ([12], [12]), ([], []), ([], []), ([14, 15], [14, 15]), ([16], [16]), ([13, 17], [13, 17]), ([9, 18], [9, 18]), ([], []), ([20], [20]), ([19, 21], [19, 21]), ([0, 3, 0, 1, 2, 3, 4, 5, 6, 7, 8, 9, 10, 11, 12, 13, 14, 15, 16, 17, 18, 19, 20, 21, 22], [0, 3]), ([23, 22, 0, 1, 2, 3, 4, 5, 6, 7, 8, 9, 10, 11, 12, 13, 14, 15, 16, 17, 18, 19, 20, 21, 22], [22, 23])])
def r4Mul.B10 : List Nat := [0, 0, 0, 6, 0, 0, 0, 96, 240, 496, 0, 0, 3072, 7168, 0, 0, 49152, 114688, 261120, 524272, 0, 1048576, 4194288, 8388607, 16777215]
theorem r4Mul.tab10 : rtab .any (opsOf Try.f16 10) = r4Mul.T10 := by kernel_rfl
theorem r4Mul.bits10 : waitsOk r4Mul.T10.2 r4Mul.B10 = true := by kernel_rfl
def r4Mul.T17 : Bool × List (List Nat × List Nat) := (true, [([], []), ([], []), ([], []), ([2], [2]), ([1, 3], [1, 3]), ([], []), ([4, 5], [4, 5]), ([], []), ([], []), ([], []), ([9], [9]), ([8, 10], [8, 10]), ([], []), ([11, 12], [11, 12]), ([7, 13], [7, 13]), ([14], [14]), ([], []), ([16], [16]), ([], []), ([], []), ([18, 19], [18, 19]), ([20], [20]), ([17, 21], [17, 21]), ([], []), ([23], [23]), ([], []), ([24, 25], [24, 25]), ([26], [26]), ([22, 27], [22, 27]), ([15, 28], [15, 28]), ([], []), ([30], [30]), ([29, 31], [29, 31]), ([0, 6, 0, 1, 2, 3, 4, 5, 6, 7, 8, 9, 10, 11, 12, 13, 14, 15, 16, 17, 18, 19, 20, 21, 22, 23, 24, 25, 26, 27, 28, 29, 30, 31, 32], [0, 6]), ([33, 32, 0, 1, 2, 3, 4, 5, 6, 7, 8, 9, 10, 11, 12, 13, 14, 15, 16, 17, 18, 19, 20, 21, 22, 23, 24, 25, 26, 27, 28, 29, 30, 31, 32], [32, 33])])
def r4Mul.B17 : List Nat := [0, 0, 0, 4, 14, 0, 62, 0, 0, 0, 512, 1792, 0, 7936, 16256, 32640, 0, 65536, 0, 0, 786432, 1835008, 4128768, 0, 8388608, 0, 58720256, 125829120, 268369920, 536870784, 0, 1073741824, 4294967168, 8589934591, 17179869183]
theorem r4Mul.tab17 : rtab .any (opsOf Try.f16 17) = r4Mul.T17 := by kernel_rfl
theorem r4Mul.bits17 : waitsOk r4Mul.T17.2 r4Mul.B17 = true := by kernel_rfl
theorem r4Mul.calls (k : Nat) (a0_0 : Int) (a0_1 : Int) (A0_2 : Option Addr) (c0_2 : Nat) (l0_2 : List Int) (a1 : Int) (a2 : Int) (r : Int) (w : World) (hr0_2 : Kd.C (Kd.int .i64) w A0_2 l0_2.length l0_2) (hc0_2 : l0_2.length ≤ c0_2) (h : r4Mul.f k a0_0 a0_1 l0_2 a1 a2 = some r) :
  Calls Try.prog 16 #[.agg #[.int .i64 a0_0, .int .i64 a0_1, .slice A0_2 l0_2.length c0_2], .int .i64 a1, .int .i64 a2] w fun e w' => e = .returned (.int .i64 r) ∧ Below w.heap.size w w' := by
 have hu24 := Try.underlying24;have HR0_2 := Q9a.mk hr0_2;have HC0_2 := Q9a.mk hc0_2;clear hr0_2 hc0_2;have HB := Q9a.mk (Below.refl w.heap.size w);have H : ((r4Digits.f k a0_0 a0_1 l0_2 a1).bind fun t219 => ((r4Digits.f k a0_0 a0_1 l0_2 a2).bind fun t222 => (if 0 ≤ (wrap64 ((wrap64 (2 * a0_1)) - 1)) then (if (wrap64 ((wrap64 (2 * a0_1)) - 1) : Int).toNat ≤ 35184372088832 then (r4Mul.l0 k t219 t222 (List.replicate (wrap64 ((wrap64 (2 * a0_1)) - 1) : Int).toNat 0) 0 a0_0 a0_1 l0_2) else (none)) else (none)))) = some r := h;clear h;replace H := Option.bind_eq_some_iff.mp H;obtain ⟨t219, A40, H⟩ := H;replace H : ((r4Digits.f k a0_0 a0_1 l0_2 a2).bind fun t222 => (if 0 ≤ (wrap64 ((wrap64 (2 * a0_1)) - 1)) then (if (wrap64 ((wrap64 (2 * a0_1)) - 1) : Int).toNat ≤ 35184372088832 then (r4Mul.l0 k t219 t222 (List.replicate (wrap64 ((wrap64 (2 * a0_1)) - 1) : Int).toNat 0) 0 a0_0 a0_1 l0_2) else (none)) else (none))) = some r := H;have A4 := Q9a.mk A40;clear A40;replace H := Option.bind_eq_some_iff.mp H;obtain ⟨t222, A50, H⟩ := H;replace H : (if 0 ≤ (wrap64 ((wrap64 (2 * a0_1)) - 1)) then (if (wrap64 ((wrap64 (2 * a0_1)) - 1) : Int).toNat ≤ 35184372088832 then (r4Mul.l0 k t219 t222 (List.replicate (wrap64 ((wrap64 (2 * a0_1)) - 1) : Int).toNat 0) 0 a0_0 a0_1 l0_2) else (none)) else (none)) = some r := H;have A5 := Q9a.mk A50;clear A50;obtain ⟨ji6, hji6⟩ : ∃ j_ : Int, (wrap64 ((wrap64 (2 * a0_1)) - 1)) = j_ := ⟨_, rfl⟩;replace H : (if 0 ≤ (ji6) then (if (ji6 : Int).toNat ≤ 35184372088832 then (r4Mul.l0 k t219 t222 (List.replicate (ji6 : Int).toNat 0) 0 a0_0 a0_1 l0_2) else (none)) else (none)) = some r := by first | (rw [hji6] at H; exact H) | (simp only [hji6] at H ⊢; exact H)
 (try rw [hji6] at A4)
 (try rw [hji6] at A5)
 have hji6w : (IntKind.i64.wrap ((wrap64 (2 * a0_1)) - 1)) = ji6 := (i64_w _).trans hji6;by_cases c7 : 0 ≤ (ji6)
 ·rw [if_pos c7] at H;have c7b0 := eq_true c7;have c7b1 : decide (0 ≤ (ji6)) = true := decide_eq_true c7;clear c7;by_cases c8 : (ji6 : Int).toNat ≤ 35184372088832
  ·rw [if_pos c8] at H;have c8b0 := eq_true c8;have c8b1 : decide ((ji6 : Int).toNat ≤ 35184372088832) = true := decide_eq_true c8;clear c8;obtain ⟨y225, hy225⟩ : ∃ y_ : List Int, y_ = (List.replicate (ji6 : Int).toNat 0) := ⟨_, rfl⟩;replace H : (r4Mul.l0 k t219 t222 y225 0 a0_0 a0_1 l0_2) = some r := by first | (rw [hy225]; with_reducible exact H) | (have H2_ := (Option.bind_some _ _).symm.trans H; rw [hy225]; with_reducible exact H2_) | (have H2_ := (Option.bind_some _ _).symm.trans H; with_reducible exact H2_) | with_reducible exact H | (rw [hy225]; exact H) | exact H
   have Ny225 := Q9a.mk hy225;clear hy225;have H' := Q9a.mk H;clear H;go_enter Try.func16, Try.ntmps16
   go_wp2_with (first | ((with_reducible refine gD (N := 3) rfl ?_); refine bE ?hg (N := 3) ?hd (cs := #[.int .i64 a0_0, .int .i64 a0_1, .slice A0_2 l0_2.length c0_2]) (t := 24) ?hr ?_; (case hd => rfl); (case hg => rfl); (case hr => first | (go_simp; done) | (go_simp; rfl)); intro gb218 hg w9 hbox hb; have n0_ := Q9a.mk (bP (bI HB.out) hb); have n1_ := Q9a.mk (hbox); have n2_ := Q9a.mk ((by rw [hg]; exact (bZ (bI HB.out)) : w.heap.size ≤ gb218)); have n3_ := n2_; clear HB; have HB := n0_; have BK218 := n1_; have GW218 := n2_; have GE218 := n3_; clear n0_ n1_ n2_ n3_; clear hb hbox hg; have hcz10_0 : w9.cell? ⟨gb218, 0, none⟩ = some (.int .i64 a0_0) := (kC BK218.out 0).trans rfl; have hcz10_1 : w9.cell? ⟨gb218, 1, none⟩ = some (.int .i64 a0_1) := (kC BK218.out 1).trans rfl; have hcz10_2 : w9.cell? ⟨gb218, 2, none⟩ = some (.slice A0_2 l0_2.length c0_2) := (kC BK218.out 2).trans rfl; have hfz10_0 := kF BK218.out 0; have hfz10_1 := kF BK218.out 1; have hfz10_2 := kF BK218.out 2) | ((with_reducible refine gC (f := 44) rfl ?_); refine gL (some 16) rfl rfl Try.func44 (by kernel_rfl) rfl #[.agg #[.int .i64 a0_0, .int .i64 a0_1, .slice A0_2 l0_2.length c0_2], .int .i64 a1] rfl (by (try simp only [sm1, sm2, sm3]); first | done | rfl | (simp only [sm4, sm5]; rfl)) ?_; (with_reducible refine (r4Digits.calls k a0_0 a0_1 _ _ l0_2 a1 t219 _ ?side1 ?side2 A4.out).mono ?_); (case side1 => exact cI HR0_2.out HB.out); (case side2 => exact HC0_2.out); rintro e w11 ⟨v220, rfl, ho0, hb⟩; refine ⟨_, rfl, ?_⟩; have n0_ := Q9a.mk (Kd.rL ho0 (bZ (bJ HB.out GE218.out))); have n1_ := Q9a.mk (kB (g := gb218) (o := .cells #[.int .i64 a0_0, .int .i64 a0_1, .slice A0_2 l0_2.length c0_2] 24 (0, 0)) (kI BK218.out) hb); have n2_ := Q9a.mk (bP (bJ HB.out GE218.out) hb); clear BK218; clear HB; have HO221 := n0_; have BK218 := n1_; have HB := n2_; clear n0_ n1_ n2_; (try clear ho0); have hcz12_0 : w11.cell? ⟨gb218, 0, none⟩ = some (.int .i64 a0_0) := (kC BK218.out 0).trans rfl; have hcz12_1 : w11.cell? ⟨gb218, 1, none⟩ = some (.int .i64 a0_1) := (kC BK218.out 1).trans rfl; have hcz12_2 : w11.cell? ⟨gb218, 2, none⟩ = some (.slice A0_2 l0_2.length c0_2) := (kC BK218.out 2).trans rfl; have hfz12_0 := kF BK218.out 0; have hfz12_1 := kF BK218.out 1; have hfz12_2 := kF BK218.out 2) | ((with_reducible refine gC (f := 44) rfl ?_); refine gL (some 19) rfl rfl Try.func44 (by kernel_rfl) rfl #[.agg #[.int .i64 a0_0, .int .i64 a0_1, .slice A0_2 l0_2.length c0_2], .int .i64 a2] rfl (by (try simp only [sm1, sm2, sm3]); first | done | rfl | (simp only [sm4, sm5]; rfl)) ?_; (with_reducible refine (r4Digits.calls k a0_0 a0_1 _ _ l0_2 a2 t222 _ ?side1 ?side2 A5.out).mono ?_); (case side1 => exact cI HR0_2.out HB.out); (case side2 => exact HC0_2.out); rintro e w13 ⟨v223, rfl, ho0, hb⟩; refine ⟨_, rfl, ?_⟩; have n0_ := Q9a.mk (Kd.R_elder' (rI HO221.out) (Kd.R_base ho0) hb); have n1_ := Q9a.mk (Kd.rL (Kd.R_new' ho0 (Kd.R_lt (rI HO221.out))) (bZ (bJ HB.out GE218.out))); have n2_ := Q9a.mk (kB (g := gb218) (o := .cells #[.int .i64 a0_0, .int .i64 a0_1, .slice A0_2 l0_2.length c0_2] 24 (0, 0)) (kI BK218.out) hb); have n3_ := Q9a.mk (bP (bJ HB.out GE218.out) hb); clear HO221; clear BK218; clear HB; have HO221 := n0_; have HO224 := n1_; have BK218 := n2_; have HB := n3_; clear n0_ n1_ n2_ n3_; (try clear ho0); have hcz14_0 : w13.cell? ⟨gb218, 0, none⟩ = some (.int .i64 a0_0) := (kC BK218.out 0).trans rfl; have hcz14_1 : w13.cell? ⟨gb218, 1, none⟩ = some (.int .i64 a0_1) := (kC BK218.out 1).trans rfl; have hcz14_2 : w13.cell? ⟨gb218, 2, none⟩ = some (.slice A0_2 l0_2.length c0_2) := (kC BK218.out 2).trans rfl; have hfz14_0 := kF BK218.out 0; have hfz14_1 := kF BK218.out 1; have hfz14_2 := kF BK218.out 2) | ((with_reducible refine gD (N := 24) rfl ?_); refine Kd.R_make (Kd.int .i64) _ 3 rfl (N := 24) rfl 22 _ _ rfl ji6 rfl rfl Try.underlying22 (.int .i64 0) 8 info3 rfl (by decide) (by omega) 0 (ok := fun _ => True) (okp := fun _ => True) rfl (fun _ hk => hk) trivial (of_decide_eq_true (by first | (with_reducible assumption) | assumption)) (Nat.le_trans (Nat.mul_le_mul_right _ (of_decide_eq_true (by first | (with_reducible assumption) | assumption) : ji6.toNat ≤ 35184372088832)) (by omega)) (Below.refl _ _) (Nat.le_refl _) ?_; intro v226 w15 ho16 hb hg_ hnew_; clear hg_ hnew_; (first | rw [← Ny225.out] at ho16 | (simp only [Int.reduceToNat] at ho16; rw [← Ny225.out] at ho16)); have n0_ := Q9a.mk (Kd.R_elder' (rI HO221.out) (Kd.R_base ho16) hb); have n1_ := Q9a.mk (Kd.R_elder' (rI HO224.out) (Kd.R_base ho16) hb); have n2_ := Q9a.mk (Kd.rL (Kd.R_new' (Kd.R_new' ho16 (Kd.R_lt (rI HO221.out))) (Kd.R_lt (rI HO224.out))) (bZ (bJ HB.out GE218.out))); have n3_ := Q9a.mk (kB (g := gb218) (o := .cells #[.int .i64 a0_0, .int .i64 a0_1, .slice A0_2 l0_2.length c0_2] 24 (0, 0)) (kI BK218.out) hb); have n4_ := Q9a.mk (bP (bJ HB.out GE218.out) hb); clear HO221; clear HO224; clear BK218; clear HB; have HO221 := n0_; have HO224 := n1_; have HO227 := n2_; have BK218 := n3_; have HB := n4_; clear n0_ n1_ n2_ n3_ n4_; clear hb ho16))
   go_loopg [10] k (fun kq v10 w' => ∃ (x9_1 : List Int) (x10_1 : Int), v10 = .int .i64 x10_1 ∧ Q9a (r4Mul.l0 kq t219 t222 x9_1 x10_1 a0_0 a0_1 l0_2 = some r) ∧ Q9a (kq ≤ k) ∧ Q9a (Kd.R (Kd.int .i64) 3 w' w.heap.size (fun k_ => some k_ ≠ (v223 : Value).ownBlock ∧ some k_ ≠ (v226 : Value).ownBlock) v220 t219) ∧ Q9a (Kd.R (Kd.int .i64) 3 w' w.heap.size (fun k_ => some k_ ≠ (v220 : Value).ownBlock ∧ some k_ ≠ (v226 : Value).ownBlock) v223 t222) ∧ Q9a (Kd.R (Kd.int .i64) 3 w' w.heap.size (fun k_ => some k_ ≠ (v220 : Value).ownBlock ∧ some k_ ≠ (v223 : Value).ownBlock) v226 x9_1) ∧ Q9a (w'.heap[gb218]? = some (.cells #[.int .i64 a0_0, .int .i64 a0_1, (.slice A0_2 l0_2.length c0_2)] 24 (0, 0))) ∧ Q9a (Below w.heap.size w w'))
   case atStart => exact ⟨(y225), (0), (by first | rfl | (simp; done) | (simp [*]; done)), H', ⟨Nat.le_refl _⟩, ⟨by (with_reducible repeat (first | apply Kd.rA | apply Kd.rN | apply Kd.rD)); exact Kd.R_mono HO221.out (fun _ hk => ⟨hk.1.2, hk.2⟩)⟩, ⟨by (with_reducible repeat (first | apply Kd.rA | apply Kd.rN | apply Kd.rD)); exact Kd.R_mono HO224.out (fun _ hk => ⟨hk.1.2, hk.2⟩)⟩, ⟨by (with_reducible repeat (first | apply Kd.rA | apply Kd.rN | apply Kd.rD)); exact Kd.R_mono HO227.out (fun _ hk => ⟨hk.1.2, hk.2⟩)⟩, ⟨kI BK218.out⟩, ⟨bJ HB.out GE218.out⟩⟩
   case round =>
    clear H';try clear c1
    try clear p2
    try clear c4
    try clear p6
    try clear c7
    try clear c7b0
    try clear c7b1
    try clear c8
    try clear c8b0
    try clear c8b1
    try clear c16
    try clear hcz10_0
    try clear hcz10_1
    try clear hcz10_2
    try clear hcz12_0
    try clear hcz12_1
    try clear hcz12_2
    try clear hcz14_0
    try clear hcz14_1
    try clear hcz14_2
    try clear hfz10_0
    try clear hfz10_1
    try clear hfz10_2
    try clear hfz12_0
    try clear hfz12_1
    try clear hfz12_2
    try clear hfz14_0
    try clear hfz14_1
    try clear hfz14_2
    obtain ⟨x9_1, x10_1, rfl, HA, HK1, HO_7, HO_8, HO_9, BK218, HB⟩ := hrel
    cases gk with
    | zero => exact absurd HA.out (by simp [r4Mul.l0])
    | succ k1 =>
     have H := HA.out;clear HA;simp only [r4Mul.l0] at H;by_cases c17 : x10_1 < a0_1
     ·rw [if_pos c17] at H;have c17b0 : decide (x10_1 < a0_1) = true := decide_eq_true c17;clear c17;have H' := Q9a.mk H;clear H;have hcz18_0 : wr.cell? ⟨gb218, 0, none⟩ = some (.int .i64 a0_0) := (kC BK218.out 0).trans rfl;have hcz18_1 : wr.cell? ⟨gb218, 1, none⟩ = some (.int .i64 a0_1) := (kC BK218.out 1).trans rfl;have hcz18_2 : wr.cell? ⟨gb218, 2, none⟩ = some (.slice A0_2 l0_2.length c0_2) := (kC BK218.out 2).trans rfl;have hfz18_0 := kF BK218.out 0;have hfz18_1 := kF BK218.out 1;have hfz18_2 := kF BK218.out 2;go_wp2
      go_loopg [11] k1 (fun kq v11 w' => ∃ (x9_2 : List Int) (x11_2 : Int), v11 = .int .i64 x11_2 ∧ Q9a (r4Mul.l1 kq t219 t222 x9_2 x10_1 x11_2 a0_0 a0_1 l0_2 = some r) ∧ Q9a (kq ≤ k1) ∧ Q9a (Kd.R (Kd.int .i64) 3 w' w.heap.size (fun k_ => some k_ ≠ (v223 : Value).ownBlock ∧ some k_ ≠ (v226 : Value).ownBlock) v220 t219) ∧ Q9a (Kd.R (Kd.int .i64) 3 w' w.heap.size (fun k_ => some k_ ≠ (v220 : Value).ownBlock ∧ some k_ ≠ (v226 : Value).ownBlock) v223 t222) ∧ Q9a (Kd.R (Kd.int .i64) 3 w' w.heap.size (fun k_ => some k_ ≠ (v220 : Value).ownBlock ∧ some k_ ≠ (v223 : Value).ownBlock) v226 x9_2) ∧ Q9a (w'.heap[gb218]? = some (.cells #[.int .i64 a0_0, .int .i64 a0_1, (.slice A0_2 l0_2.length c0_2)] 24 (0, 0))) ∧ Q9a (Below w.heap.size w w'))
      case atStart => exact ⟨(x9_1), (0), (by first | rfl | (simp; done) | (simp [*]; done)), H', ⟨Nat.le_refl _⟩, ⟨rI HO_7.out⟩, ⟨rI HO_8.out⟩, ⟨rI HO_9.out⟩, ⟨kI BK218.out⟩, ⟨bJ HB.out GE218.out⟩⟩
      case round =>
       clear H';try clear c1
       try clear p2
       try clear c4
       try clear p6
       try clear c7
       try clear c7b0
       try clear c7b1
       try clear c8
       try clear c8b0
       try clear c8b1
       try clear c16
       try clear c17
       try clear c17b0
       try clear hcz10_0
       try clear hcz10_1
       try clear hcz10_2
       try clear hcz12_0
       try clear hcz12_1
       try clear hcz12_2
       try clear hcz14_0
       try clear hcz14_1
       try clear hcz14_2
       try clear hcz18_0
       try clear hcz18_1
       try clear hcz18_2
       try clear hfz10_0
       try clear hfz10_1
       try clear hfz10_2
       try clear hfz12_0
       try clear hfz12_1
       try clear hfz12_2
       try clear hfz14_0
       try clear hfz14_1
       try clear hfz14_2
       try clear hfz18_0
       try clear hfz18_1
       try clear hfz18_2
       try clear p2
       try clear p6
       obtain ⟨x9_2, x11_2, rfl, HA, HK2, HO_7, HO_8, HO_9, BK218, HB⟩ := hrel
       cases gk with
       | zero => exact absurd HA.out (by simp [r4Mul.l1])
       | succ k2 =>
        have H := HA.out;clear HA;simp only [r4Mul.l1] at H;by_cases c19 : x11_2 < a0_1
        ·rw [if_pos c19] at H;have c19b0 : decide (x11_2 < a0_1) = true := decide_eq_true c19;clear c19;obtain ⟨ji20, hji20⟩ : ∃ j_ : Int, (wrap64 (x10_1 + x11_2)) = j_ := ⟨_, rfl⟩;replace H : (if 0 ≤ (ji20) then (if (ji20) < (x9_2.length : Int) then (if 0 ≤ x10_1 then (if x10_1 < (t219.length : Int) then (if 0 ≤ x11_2 then (if x11_2 < (t222.length : Int) then (if a0_0 = 0 then (none) else (r4Mul.l1 k2 t219 t222 (x9_2.set ((ji20) : Int).toNat (Int.tmod (wrap64 ((rd x9_2 (ji20)) + (wrap64 ((rd t219 x10_1) * (rd t222 x11_2))))) a0_0)) x10_1 (wrap64 (x11_2 + 1)) a0_0 a0_1 l0_2)) else (none)) else (none)) else (none)) else (none)) else (none)) else (none)) = some r := by first | (rw [hji20] at H; exact H) | (simp only [hji20] at H ⊢; exact H)
         have hji20w : (IntKind.i64.wrap (x10_1 + x11_2)) = ji20 := (i64_w _).trans hji20;by_cases c21 : 0 ≤ (ji20)
         ·rw [if_pos c21] at H;have c21b0 : decide (0 ≤ (ji20)) = true := decide_eq_true c21;clear c21;by_cases c22 : (ji20) < (x9_2.length : Int)
          ·rw [if_pos c22] at H;have c22b0 : decide ((ji20) < (x9_2.length : Int)) = true := decide_eq_true c22;clear c22;by_cases c23 : 0 ≤ x10_1
           ·rw [if_pos c23] at H;have c23b0 : decide (0 ≤ x10_1) = true := decide_eq_true c23;clear c23;by_cases c24 : x10_1 < (t219.length : Int)
            ·rw [if_pos c24] at H;have c24b0 : decide (x10_1 < (t219.length : Int)) = true := decide_eq_true c24;clear c24;by_cases c25 : 0 ≤ x11_2
             ·rw [if_pos c25] at H;have c25b0 : decide (0 ≤ x11_2) = true := decide_eq_true c25;clear c25;by_cases c26 : x11_2 < (t222.length : Int)
              ·rw [if_pos c26] at H;have c26b0 : decide (x11_2 < (t222.length : Int)) = true := decide_eq_true c26;clear c26;by_cases c27 : a0_0 = 0
               ·rw [if_pos c27] at H;exact absurd H (by simp)
               rw [if_neg c27] at H;have c27b0 : (a0_0 == 0) = false := beq_eq_false_iff_ne.mpr c27;have c27b1 : (a0_0 != 0) = true := bne_iff_ne.mpr c27;obtain ⟨y231, hy231⟩ : ∃ y_ : List Int, y_ = (x9_2.set ((ji20) : Int).toNat (Int.tmod (wrap64 ((rd x9_2 (ji20)) + (wrap64 ((rd t219 x10_1) * (rd t222 x11_2))))) a0_0)) := ⟨_, rfl⟩;replace H : (r4Mul.l1 k2 t219 t222 y231 x10_1 (wrap64 (x11_2 + 1)) a0_0 a0_1 l0_2) = some r := by first | (rw [hy231]; with_reducible exact H) | (have H2_ := (Option.bind_some _ _).symm.trans H; rw [hy231]; with_reducible exact H2_) | (have H2_ := (Option.bind_some _ _).symm.trans H; with_reducible exact H2_) | with_reducible exact H | (rw [hy231]; exact H) | exact H
               have Ny231 := Q9a.mk hy231;clear hy231;have H' := Q9a.mk H;clear H;have hcz29_0 : wr.cell? ⟨gb218, 0, none⟩ = some (.int .i64 a0_0) := (kC BK218.out 0).trans rfl;have hcz29_1 : wr.cell? ⟨gb218, 1, none⟩ = some (.int .i64 a0_1) := (kC BK218.out 1).trans rfl;have hcz29_2 : wr.cell? ⟨gb218, 2, none⟩ = some (.slice A0_2 l0_2.length c0_2) := (kC BK218.out 2).trans rfl;have hfz29_0 := kF BK218.out 0;have hfz29_1 := kF BK218.out 1;have hfz29_2 := kF BK218.out 2;try go_wp2
               have n0_ := Q9a.mk (Kd.rD HO_7.out);have n1_ := Q9a.mk (Kd.rD HO_8.out);have n2_ := Q9a.mk (Kd.rD HO_9.out);have n3_ := Q9a.mk (kD BK218.out);have n4_ := Q9a.mk (bD HB.out);clear HO_7;clear HO_8;clear HO_9;clear BK218;clear HB;have HO_7 := n0_;have HO_8 := n1_;have HO_9 := n2_;have BK218 := n3_;have HB := n4_;clear n0_ n1_ n2_ n3_ n4_;obtain ⟨Ao31, co31, eo31⟩ := Kd.R_slice HO_9.out;(first | subst eo31 | (injection eo31 with f1_ f2_ f3_; have f4_ := f1_.symm; have f5_ := f3_.symm; clear f1_ f2_ f3_; subst f4_; subst f5_))
               have p228 : 0 ≤ ((ji20) : Int) := of_decide_eq_true (by first | (with_reducible assumption) | assumption);have q228 : (ji20) < (x9_2.length : Int) := of_decide_eq_true (by first | (with_reducible assumption) | assumption);obtain ⟨ad228, e228, hx228_0⟩ := Kd.at_int (Kd.R_reads' HO_9.out).2.2 (ji20) p228 q228
               cases e228
               replace p228 := eq_true p228;replace q228 := eq_true q228;obtain ⟨Ao32, co32, eo32⟩ := Kd.R_slice HO_7.out;(first | subst eo32 | (injection eo32 with f1_ f2_ f3_; have f4_ := f1_.symm; have f5_ := f3_.symm; clear f1_ f2_ f3_; subst f4_; subst f5_))
               have p229 : 0 ≤ (x10_1 : Int) := of_decide_eq_true (by first | (with_reducible assumption) | assumption);have q229 : x10_1 < (t219.length : Int) := of_decide_eq_true (by first | (with_reducible assumption) | assumption);obtain ⟨ad229, e229, hx229_0⟩ := Kd.at_int (Kd.R_reads' HO_7.out).2.2 x10_1 p229 q229
               cases e229
               replace p229 := eq_true p229;replace q229 := eq_true q229;obtain ⟨Ao33, co33, eo33⟩ := Kd.R_slice HO_8.out;(first | subst eo33 | (injection eo33 with f1_ f2_ f3_; have f4_ := f1_.symm; have f5_ := f3_.symm; clear f1_ f2_ f3_; subst f4_; subst f5_))
               have p230 : 0 ≤ (x11_2 : Int) := of_decide_eq_true (by first | (with_reducible assumption) | assumption);have q230 : x11_2 < (t222.length : Int) := of_decide_eq_true (by first | (with_reducible assumption) | assumption);obtain ⟨ad230, e230, hx230_0⟩ := Kd.at_int (Kd.R_reads' HO_8.out).2.2 x11_2 p230 q230
               cases e230
               replace p230 := eq_true p230;replace q230 := eq_true q230;have p28 : 0 ≤ ((ji20) : Int) := of_decide_eq_true (by first | (with_reducible assumption) | assumption);have q28 : ((ji20) : Int) < ((x9_2.length : Int) : Int) := of_decide_eq_true (by first | (with_reducible assumption) | assumption);obtain ⟨go28, co28, eo28, gb28, gl28, cl28, HG28⟩ := Kd.R_form HO_9.out (by omega);(first | cases eo28 | (injection eo28 with ea_ en_ ec_; (first | subst ea_ | (injection ea_ with ea_; subst ea_)); subst ec_; clear en_))
               have GB28 := Q9a.mk gb28;have GG28 := Q9a.mk HG28;clear gb28 gl28 HG28;(first | simp only [add_plain] at hx228_0 | skip)
               obtain ⟨hx28_0, hf28_0⟩ := Kd.R_celln 0 HO_9.out ((ji20) : Int) p28 q28;replace p28 := eq_true p28;replace q28 := eq_true q28;have HP34 := Kd.R_putn HO_9.out ((ji20) : Int) (Int.tmod (wrap64 ((rd x9_2 (ji20)) + (wrap64 ((rd t219 x10_1) * (rd t222 x11_2))))) a0_0);rw [← Ny231.out] at HP34;have HQ34 := Q9a.mk HP34;clear HP34;refine start_ (n := 25) (S := fun w' => w'.cell? ⟨gb218, 0, none⟩ = some (.int .i64 a0_0) ∧ w'.cell? ⟨gb218, 1, none⟩ = some (.int .i64 a0_1) ∧ w'.cell? ⟨gb218, 2, none⟩ = some (.slice A0_2 l0_2.length c0_2) ∧ w'.cell? ⟨go28, ((ji20)).toNat, none⟩ = some (.int .i64 (rd x9_2 (ji20))) ∧ w'.cell? (ad229.add (x10_1).toNat) = some (.int .i64 (rd t219 x10_1)) ∧ w'.cell? (ad230.add (x11_2).toNat) = some (.int .i64 (rd t222 x11_2))) (ds := [24]) #[fB,fB,fB,fB,fB,fB,fB,fB,fB,fB,fB,fB,fB,fB,fB,fB,fB,fB,fB,fB,fB,fB,fB,fB,fB] (by kernel_rfl) rfl rfl ⟨(kC BK218.out 0).trans rfl, (kC BK218.out 1).trans rfl, (kC BK218.out 2).trans rfl, hx228_0, hx229_0, hx230_0⟩ (fun hHeld => ?_); refine with_tabW r4Mul.tab10 r4Mul.bits10 (fun HT_ HW_ => ?_);generalize wr.drew = w30 at HO_7 HO_8 HO_9 BK218 HB GG28 HQ34 hf28_0 hx228_0 hx229_0 hx230_0 hx28_0 hHeld ⊢;refine pT 0 37 rfl HT_.out ?_;refine pT 1 38 rfl HT_.out ?_;refine pT 2 39 rfl HT_.out ?_;refine pT 3 40 rfl HT_.out ?_;refine pT 4 41 rfl HT_.out ?_;refine pT 5 42 rfl HT_.out ?_;refine pT 6 43 rfl HT_.out ?_;refine pT 7 44 rfl HT_.out ?_;refine pT 8 45 rfl HT_.out ?_;refine pT 10 47 rfl HT_.out ?_;refine pT 11 48 rfl HT_.out ?_;refine pT 12 49 rfl HT_.out ?_;refine pT 14 51 rfl HT_.out ?_;refine pT 15 52 rfl HT_.out ?_;refine pT 16 53 rfl HT_.out ?_;refine pT 20 57 rfl HT_.out ?_;refine tT 9 46 rfl HT_.out HW_.out hHeld ?_;refine tT 13 50 rfl HT_.out HW_.out hHeld ?_;refine tT 17 54 rfl HT_.out HW_.out hHeld ?_;refine pT 18 55 rfl HT_.out ?_;refine pT 19 56 rfl HT_.out ?_;refine tT 21 58 rfl HT_.out HW_.out hHeld ?_;refine pT 22 59 rfl HT_.out ?_;refine pT 23 60 rfl HT_.out ?_;refine last_ (i := 24) (N := none) #[tB,tB,tB,tB,tB,tB,tB,tB,tB,tB,tB,tB,tB,tB,tB,tB,tB,tB,tB,tB,tB,tB,tB,tB,tB] rfl rfl (one_of HT_.out (by kernel_rfl)) (by decide) (fun K hK => ?_);refine skip_ (w1 := ?_) (by rfl) rfl ?_ ?_;rotate_left
               ·go_simp;rfl
               refine hK.out _ _ ?_;clear hK K;refine done_ (done_of HT_.out (by kernel_rfl)) ?_;try go_wp2
               go_roundg k2
               case measure => have := HK1.out; have := HK2.out; omega
               case rel => exact ⟨(y231), (wrap64 (x11_2 + 1)), (by first | rfl | (simp; done) | (simp [*]; done)), H', ⟨by have := HK1.out; have := HK2.out; omega⟩, ⟨by (with_reducible repeat (first | apply Kd.rA | apply Kd.rN | apply Kd.rD)); exact Kd.R_mono (Kd.R_far (p := ⟨go28, ((ji20) : Int).toNat, none⟩) (Kd.R_mono HO_7.out (fun k_ hk => (⟨hk, fun e_ => hk.2 (by rw [e_]; rfl)⟩ : _ ∧ k_ ≠ go28))) (fun _ hk => hk.2) (.int .i64 (Int.tmod (wrap64 ((rd x9_2 (ji20)) + (wrap64 ((rd t219 x10_1) * (rd t222 x11_2))))) a0_0))) (fun _ hk => ⟨hk.1.1, hk.1.2⟩)⟩, ⟨by (with_reducible repeat (first | apply Kd.rA | apply Kd.rN | apply Kd.rD)); exact Kd.R_mono (Kd.R_far (p := ⟨go28, ((ji20) : Int).toNat, none⟩) (Kd.R_mono HO_8.out (fun k_ hk => (⟨hk, fun e_ => hk.2 (by rw [e_]; rfl)⟩ : _ ∧ k_ ≠ go28))) (fun _ hk => hk.2) (.int .i64 (Int.tmod (wrap64 ((rd x9_2 (ji20)) + (wrap64 ((rd t219 x10_1) * (rd t222 x11_2))))) a0_0))) (fun _ hk => ⟨hk.1.1, hk.1.2⟩)⟩, ⟨rI HQ34.out⟩, ⟨by (with_reducible repeat (first | refine kN ?_ _ | refine kD ?_ | refine kA ?_ _)); refine blk_far ?_ (by have h_ := Kd.R_ne HO_9.out BK218.out (by decide); intro e_; exact h_ (by rw [e_]; rfl)) _; (with_reducible repeat (first | refine kN ?_ _ | refine kD ?_ | refine kA ?_ _)); exact BK218.out⟩, ⟨by repeat (first | (with_reducible first | exact HB.out | apply bA | apply bN | apply bD | refine bS ?_ GB28.out | refine bS ?_ GE218.out) | exact HB.out)⟩⟩
              rw [if_neg c26] at H;exact absurd H (by simp)
             rw [if_neg c25] at H;exact absurd H (by simp)
            rw [if_neg c24] at H;exact absurd H (by simp)
           rw [if_neg c23] at H;exact absurd H (by simp)
          rw [if_neg c22] at H;exact absurd H (by simp)
         rw [if_neg c21] at H;exact absurd H (by simp)
        rw [if_neg c19] at H;have c19b0 : decide (x11_2 < a0_1) = false := decide_eq_false c19;clear c19;have H' := Q9a.mk H;clear H;have hcz35_0 : wr.cell? ⟨gb218, 0, none⟩ = some (.int .i64 a0_0) := (kC BK218.out 0).trans rfl;have hcz35_1 : wr.cell? ⟨gb218, 1, none⟩ = some (.int .i64 a0_1) := (kC BK218.out 1).trans rfl;have hcz35_2 : wr.cell? ⟨gb218, 2, none⟩ = some (.slice A0_2 l0_2.length c0_2) := (kC BK218.out 2).trans rfl;have hfz35_0 := kF BK218.out 0;have hfz35_1 := kF BK218.out 1;have hfz35_2 := kF BK218.out 2;go_wp2
        go_roundg k2
        case measure => have := HK1.out; have := HK2.out; omega
        case rel => exact ⟨(x9_2), (wrap64 (x10_1 + 1)), (by first | rfl | (simp; done) | (simp [*]; done)), H', ⟨by have := HK1.out; have := HK2.out; omega⟩, ⟨rI HO_7.out⟩, ⟨rI HO_8.out⟩, ⟨rI HO_9.out⟩, ⟨kI BK218.out⟩, ⟨bJ HB.out GE218.out⟩⟩
     rw [if_neg c17] at H;have c17b0 : decide (x10_1 < a0_1) = false := decide_eq_false c17;clear c17;have H' := Q9a.mk H;clear H;have hcz36_0 : wr.cell? ⟨gb218, 0, none⟩ = some (.int .i64 a0_0) := (kC BK218.out 0).trans rfl;have hcz36_1 : wr.cell? ⟨gb218, 1, none⟩ = some (.int .i64 a0_1) := (kC BK218.out 1).trans rfl;have hcz36_2 : wr.cell? ⟨gb218, 2, none⟩ = some (.slice A0_2 l0_2.length c0_2) := (kC BK218.out 2).trans rfl;have hfz36_0 := kF BK218.out 0;have hfz36_1 := kF BK218.out 1;have hfz36_2 := kF BK218.out 2;go_wp2
     go_loopg [12] k1 (fun kq v12 w' => ∃ (x9_2 : List Int) (x12_2 : Int), v12 = .int .i64 x12_2 ∧ Q9a (r4Mul.l2 kq x9_2 x12_2 a0_0 a0_1 l0_2 = some r) ∧ Q9a (kq ≤ k1) ∧ Q9a (Kd.R (Kd.int .i64) 3 w' w.heap.size (fun _ => True) v226 x9_2) ∧ Q9a (w'.heap[gb218]? = some (.cells #[.int .i64 a0_0, .int .i64 a0_1, (.slice A0_2 l0_2.length c0_2)] 24 (0, 0))) ∧ Q9a (Below w.heap.size w w'))
     case atStart => exact ⟨(x9_1), (wrap64 ((wrap64 (2 * a0_1)) - 2)), (by first | rfl | (simp; done) | (simp [*]; done)), H', ⟨Nat.le_refl _⟩, ⟨by (with_reducible repeat (first | apply Kd.rA | apply Kd.rN | apply Kd.rD)); exact Kd.R_mono HO_9.out (fun _ hk => trivial)⟩, ⟨kI BK218.out⟩, ⟨bJ HB.out GE218.out⟩⟩
     case round =>
      clear H';try clear c1
      try clear c2
      try clear p2
      try clear q2
      try clear hx2
      try clear c4
      try clear p6
      try clear c7
      try clear c7b0
      try clear c7b1
      try clear c8
      try clear c8b0
      try clear c8b1
      try clear c16
      try clear c17
      try clear c17b0
      try clear c19
      try clear c19b0
      try clear c21
      try clear c21b0
      try clear c22
      try clear c22b0
      try clear p22
      try clear q22
      try clear hx22
      try clear c23
      try clear c23b0
      try clear p23
      try clear q23
      try clear hx23
      try clear c24
      try clear c24b0
      try clear c25
      try clear c25b0
      try clear c26
      try clear c26b0
      try clear c27
      try clear c27b0
      try clear c27b1
      try clear p28
      try clear q28
      try clear hx28
      try clear hf28
      try clear hcz10_0
      try clear hcz10_1
      try clear hcz10_2
      try clear hcz12_0
      try clear hcz12_1
      try clear hcz12_2
      try clear hcz14_0
      try clear hcz14_1
      try clear hcz14_2
      try clear hcz18_0
      try clear hcz18_1
      try clear hcz18_2
      try clear hcz29_0
      try clear hcz29_1
      try clear hcz29_2
      try clear hcz35_0
      try clear hcz35_1
      try clear hcz35_2
      try clear hcz36_0
      try clear hcz36_1
      try clear hcz36_2
      try clear hfz10_0
      try clear hfz10_1
      try clear hfz10_2
      try clear hfz12_0
      try clear hfz12_1
      try clear hfz12_2
      try clear hfz14_0
      try clear hfz14_1
      try clear hfz14_2
      try clear hfz18_0
      try clear hfz18_1
      try clear hfz18_2
      try clear hfz29_0
      try clear hfz29_1
      try clear hfz29_2
      try clear hfz35_0
      try clear hfz35_1
      try clear hfz35_2
      try clear hfz36_0
      try clear hfz36_1
      try clear hfz36_2
      try clear hx228_0
      try clear hx229_0
      try clear hx230_0
      try clear hx28_0
      try clear p2
      try clear p228
      try clear p229
      try clear p230
      try clear p28
      try clear p6
      try clear q228
      try clear q229
      try clear q230
      try clear q28
      obtain ⟨x9_2, x12_2, rfl, HA, HK2, HO_9, BK218, HB⟩ := hrel
      cases gk with
      | zero => exact absurd HA.out (by simp [r4Mul.l2])
      | succ k2 =>
       have H := HA.out;clear HA;simp only [r4Mul.l2] at H;by_cases c37 : x12_2 ≥ a0_1
       ·rw [if_pos c37] at H;have c37b0 : decide (a0_1 ≤ x12_2) = true := decide_eq_true c37;clear c37;have H' := Q9a.mk H;clear H;have hcz38_0 : wr.cell? ⟨gb218, 0, none⟩ = some (.int .i64 a0_0) := (kC BK218.out 0).trans rfl;have hcz38_1 : wr.cell? ⟨gb218, 1, none⟩ = some (.int .i64 a0_1) := (kC BK218.out 1).trans rfl;have hcz38_2 : wr.cell? ⟨gb218, 2, none⟩ = some (.slice A0_2 l0_2.length c0_2) := (kC BK218.out 2).trans rfl;have hfz38_0 := kF BK218.out 0;have hfz38_1 := kF BK218.out 1;have hfz38_2 := kF BK218.out 2;go_wp2
        go_loopg [13] k2 (fun kq v13 w' => ∃ (x9_3 : List Int) (x13_3 : Int), v13 = .int .i64 x13_3 ∧ Q9a (r4Mul.l3 kq x9_3 x12_2 x13_3 a0_0 a0_1 l0_2 = some r) ∧ Q9a (kq ≤ k2) ∧ Q9a (Kd.R (Kd.int .i64) 3 w' w.heap.size (fun _ => True) v226 x9_3) ∧ Q9a (w'.heap[gb218]? = some (.cells #[.int .i64 a0_0, .int .i64 a0_1, (.slice A0_2 l0_2.length c0_2)] 24 (0, 0))) ∧ Q9a (Below w.heap.size w w'))
        case atStart => exact ⟨(x9_2), (0), (by first | rfl | (simp; done) | (simp [*]; done)), H', ⟨Nat.le_refl _⟩, ⟨rI HO_9.out⟩, ⟨kI BK218.out⟩, ⟨bJ HB.out GE218.out⟩⟩
        case round =>
         clear H';try clear c1
         try clear c2
         try clear p2
         try clear q2
         try clear hx2
         try clear c3
         try clear c4
         try clear p6
         try clear c7
         try clear c7b0
         try clear c7b1
         try clear c8
         try clear c8b0
         try clear c8b1
         try clear c16
         try clear c17
         try clear c17b0
         try clear c19
         try clear c19b0
         try clear c21
         try clear c21b0
         try clear c22
         try clear c22b0
         try clear p22
         try clear q22
         try clear hx22
         try clear c23
         try clear c23b0
         try clear p23
         try clear q23
         try clear hx23
         try clear c24
         try clear c24b0
         try clear c25
         try clear c25b0
         try clear c26
         try clear c26b0
         try clear c27
         try clear c27b0
         try clear c27b1
         try clear p28
         try clear q28
         try clear hx28
         try clear hf28
         try clear c37
         try clear c37b0
         try clear hcz10_0
         try clear hcz10_1
         try clear hcz10_2
         try clear hcz12_0
         try clear hcz12_1
         try clear hcz12_2
         try clear hcz14_0
         try clear hcz14_1
         try clear hcz14_2
         try clear hcz18_0
         try clear hcz18_1
         try clear hcz18_2
         try clear hcz29_0
         try clear hcz29_1
         try clear hcz29_2
         try clear hcz35_0
         try clear hcz35_1
         try clear hcz35_2
         try clear hcz36_0
         try clear hcz36_1
         try clear hcz36_2
         try clear hcz38_0
         try clear hcz38_1
         try clear hcz38_2
         try clear hfz10_0
         try clear hfz10_1
         try clear hfz10_2
         try clear hfz12_0
         try clear hfz12_1
         try clear hfz12_2
         try clear hfz14_0
         try clear hfz14_1
         try clear hfz14_2
         try clear hfz18_0
         try clear hfz18_1
         try clear hfz18_2
         try clear hfz29_0
         try clear hfz29_1
         try clear hfz29_2
         try clear hfz35_0
         try clear hfz35_1
         try clear hfz35_2
         try clear hfz36_0
         try clear hfz36_1
         try clear hfz36_2
         try clear hfz38_0
         try clear hfz38_1
         try clear hfz38_2
         try clear hx228_0
         try clear hx229_0
         try clear hx230_0
         try clear hx28_0
         try clear p2
         try clear p22
         try clear p228
         try clear p229
         try clear p23
         try clear p230
         try clear p28
         try clear p6
         try clear q2
         try clear q22
         try clear q228
         try clear q229
         try clear q23
         try clear q230
         try clear q28
         obtain ⟨x9_3, x13_3, rfl, HA, HK3, HO_9, BK218, HB⟩ := hrel
         cases gk with
         | zero => exact absurd HA.out (by simp [r4Mul.l3])
         | succ k3 =>
          have H := HA.out;clear HA;simp only [r4Mul.l3] at H;by_cases c39 : x13_3 < a0_1
          ·rw [if_pos c39] at H;have c39b0 : decide (x13_3 < a0_1) = true := decide_eq_true c39;clear c39;obtain ⟨ji40, hji40⟩ : ∃ j_ : Int, (wrap64 ((wrap64 (x12_2 - a0_1)) + x13_3)) = j_ := ⟨_, rfl⟩;replace H : (if 0 ≤ (ji40) then (if (ji40) < (x9_3.length : Int) then (if 0 ≤ x12_2 then (if x12_2 < (x9_3.length : Int) then (if 0 ≤ x13_3 then (if x13_3 < (l0_2.length : Int) then (if a0_0 = 0 then (none) else (r4Mul.l3 k3 (x9_3.set ((ji40) : Int).toNat (Int.tmod (wrap64 ((rd x9_3 (ji40)) + (wrap64 ((wrap64 (a0_0 - (rd x9_3 x12_2))) * (rd l0_2 x13_3))))) a0_0)) x12_2 (wrap64 (x13_3 + 1)) a0_0 a0_1 l0_2)) else (none)) else (none)) else (none)) else (none)) else (none)) else (none)) = some r := by first | (rw [hji40] at H; exact H) | (simp only [hji40] at H ⊢; exact H)
           have hji40w : (IntKind.i64.wrap ((wrap64 (x12_2 - a0_1)) + x13_3)) = ji40 := (i64_w _).trans hji40;by_cases c41 : 0 ≤ (ji40)
           ·rw [if_pos c41] at H;have c41b0 : decide (0 ≤ (ji40)) = true := decide_eq_true c41;clear c41;by_cases c42 : (ji40) < (x9_3.length : Int)
            ·rw [if_pos c42] at H;have c42b0 : decide ((ji40) < (x9_3.length : Int)) = true := decide_eq_true c42;clear c42;by_cases c43 : 0 ≤ x12_2
             ·rw [if_pos c43] at H;have c43b0 : decide (0 ≤ x12_2) = true := decide_eq_true c43;clear c43;by_cases c44 : x12_2 < (x9_3.length : Int)
              ·rw [if_pos c44] at H;have c44b0 : decide (x12_2 < (x9_3.length : Int)) = true := decide_eq_true c44;clear c44;by_cases c45 : 0 ≤ x13_3
               ·rw [if_pos c45] at H;have c45b0 : decide (0 ≤ x13_3) = true := decide_eq_true c45;clear c45;by_cases c46 : x13_3 < (l0_2.length : Int)
                ·rw [if_pos c46] at H;have c46b0 : decide (x13_3 < (l0_2.length : Int)) = true := decide_eq_true c46;clear c46;by_cases c47 : a0_0 = 0
                 ·rw [if_pos c47] at H;exact absurd H (by simp)
                 rw [if_neg c47] at H;have c47b0 : (a0_0 == 0) = false := beq_eq_false_iff_ne.mpr c47;have c47b1 : (a0_0 != 0) = true := bne_iff_ne.mpr c47;obtain ⟨y240, hy240⟩ : ∃ y_ : List Int, y_ = (x9_3.set ((ji40) : Int).toNat (Int.tmod (wrap64 ((rd x9_3 (ji40)) + (wrap64 ((wrap64 (a0_0 - (rd x9_3 x12_2))) * (rd l0_2 x13_3))))) a0_0)) := ⟨_, rfl⟩;replace H : (r4Mul.l3 k3 y240 x12_2 (wrap64 (x13_3 + 1)) a0_0 a0_1 l0_2) = some r := by first | (rw [hy240]; with_reducible exact H) | (have H2_ := (Option.bind_some _ _).symm.trans H; rw [hy240]; with_reducible exact H2_) | (have H2_ := (Option.bind_some _ _).symm.trans H; with_reducible exact H2_) | with_reducible exact H | (rw [hy240]; exact H) | exact H
                 have Ny240 := Q9a.mk hy240;clear hy240;have H' := Q9a.mk H;clear H;have hcz49_0 : wr.cell? ⟨gb218, 0, none⟩ = some (.int .i64 a0_0) := (kC BK218.out 0).trans rfl;have hcz49_1 : wr.cell? ⟨gb218, 1, none⟩ = some (.int .i64 a0_1) := (kC BK218.out 1).trans rfl;have hcz49_2 : wr.cell? ⟨gb218, 2, none⟩ = some (.slice A0_2 l0_2.length c0_2) := (kC BK218.out 2).trans rfl;have hfz49_0 := kF BK218.out 0;have hfz49_1 := kF BK218.out 1;have hfz49_2 := kF BK218.out 2;try go_wp2
                 have n0_ := Q9a.mk (Kd.rD HO_9.out);have n1_ := Q9a.mk (kD BK218.out);have n2_ := Q9a.mk (bD HB.out);clear HO_9;clear BK218;clear HB;have HO_9 := n0_;have BK218 := n1_;have HB := n2_;clear n0_ n1_ n2_;obtain ⟨Ao51, co51, eo51⟩ := Kd.R_slice HO_9.out;(first | subst eo51 | (injection eo51 with f1_ f2_ f3_; have f4_ := f1_.symm; have f5_ := f3_.symm; clear f1_ f2_ f3_; subst f4_; subst f5_))
                 have p237 : 0 ≤ ((ji40) : Int) := of_decide_eq_true (by first | (with_reducible assumption) | assumption);have q237 : (ji40) < (x9_3.length : Int) := of_decide_eq_true (by first | (with_reducible assumption) | assumption);obtain ⟨ad237, e237, hx237_0⟩ := Kd.at_int (Kd.R_reads' HO_9.out).2.2 (ji40) p237 q237
                 cases e237
                 replace p237 := eq_true p237;replace q237 := eq_true q237;have p238 : 0 ≤ (x12_2 : Int) := of_decide_eq_true (by first | (with_reducible assumption) | assumption);have q238 : x12_2 < (x9_3.length : Int) := of_decide_eq_true (by first | (with_reducible assumption) | assumption);obtain ⟨ad238, e238, hx238_0⟩ := Kd.at_int (Kd.R_reads' HO_9.out).2.2 x12_2 p238 q238;obtain rfl : ad237 = ad238 := (by injection e238);replace p238 := eq_true p238;replace q238 := eq_true q238;have p239 : 0 ≤ (x13_3 : Int) := of_decide_eq_true (by first | (with_reducible assumption) | assumption);have q239 : x13_3 < (l0_2.length : Int) := of_decide_eq_true (by first | (with_reducible assumption) | assumption);obtain ⟨ad239, e239, hx239_0⟩ := Kd.at_int HR0_2.out x13_3 p239 q239;have hw239_0 := hx239_0
                 cases e239
                 replace hx239_0 := (HB.out.cell (World.block_lt_of_cell? w _ hx239_0)).trans hx239_0;replace p239 := eq_true p239;replace q239 := eq_true q239;have p48 : 0 ≤ ((ji40) : Int) := of_decide_eq_true (by first | (with_reducible assumption) | assumption);have q48 : ((ji40) : Int) < ((x9_3.length : Int) : Int) := of_decide_eq_true (by first | (with_reducible assumption) | assumption);obtain ⟨go48, co48, eo48, gb48, gl48, cl48, HG48⟩ := Kd.R_form HO_9.out (by omega);(first | cases eo48 | (injection eo48 with ea_ en_ ec_; (first | subst ea_ | (injection ea_ with ea_; subst ea_)); subst ec_; clear en_))
                 have GB48 := Q9a.mk gb48;have GG48 := Q9a.mk HG48;clear gb48 gl48 HG48;(first | simp only [add_plain] at hx237_0 | skip)
                 (first | simp only [add_plain] at hx238_0 | skip)
                 obtain ⟨hx48_0, hf48_0⟩ := Kd.R_celln 0 HO_9.out ((ji40) : Int) p48 q48;replace p48 := eq_true p48;replace q48 := eq_true q48;have HP52 := Kd.R_putn HO_9.out ((ji40) : Int) (Int.tmod (wrap64 ((rd x9_3 (ji40)) + (wrap64 ((wrap64 (a0_0 - (rd x9_3 x12_2))) * (rd l0_2 x13_3))))) a0_0);rw [← Ny240.out] at HP52;have HQ52 := Q9a.mk HP52;clear HP52;refine start_ (n := 35) (S := fun w' => w'.cell? ⟨gb218, 0, none⟩ = some (.int .i64 a0_0) ∧ w'.cell? ⟨gb218, 1, none⟩ = some (.int .i64 a0_1) ∧ w'.cell? ⟨gb218, 2, none⟩ = some (.slice (some ad239) l0_2.length c0_2) ∧ w'.cell? ⟨go48, ((ji40)).toNat, none⟩ = some (.int .i64 (rd x9_3 (ji40))) ∧ w'.cell? ⟨go48, (x12_2).toNat, none⟩ = some (.int .i64 (rd x9_3 x12_2)) ∧ w'.cell? (ad239.add (x13_3).toNat) = some (.int .i64 (rd l0_2 x13_3))) (ds := [34]) #[fB,fB,fB,fB,fB,fB,fB,fB,fB,fB,fB,fB,fB,fB,fB,fB,fB,fB,fB,fB,fB,fB,fB,fB,fB,fB,fB,fB,fB,fB,fB,fB,fB,fB,fB] (by kernel_rfl) rfl rfl ⟨(kC BK218.out 0).trans rfl, (kC BK218.out 1).trans rfl, (kC BK218.out 2).trans rfl, hx237_0, hx238_0, ((HB.out.cell (World.block_lt_of_cell? w _ hw239_0)).trans hw239_0)⟩ (fun hHeld => ?_); refine with_tabW r4Mul.tab17 r4Mul.bits17 (fun HT_ HW_ => ?_);generalize wr.drew = w50 at HO_9 BK218 HB GG48 HQ52 hf48_0 hx237_0 hx238_0 hx239_0 hx48_0 hHeld ⊢;refine pT 0 77 rfl HT_.out ?_;refine pT 1 78 rfl HT_.out ?_;refine pT 2 79 rfl HT_.out ?_;refine pT 5 82 rfl HT_.out ?_;refine pT 7 84 rfl HT_.out ?_;refine pT 8 85 rfl HT_.out ?_;refine pT 9 86 rfl HT_.out ?_;refine pT 12 89 rfl HT_.out ?_;refine pT 16 93 rfl HT_.out ?_;refine pT 18 95 rfl HT_.out ?_;refine pT 19 96 rfl HT_.out ?_;refine pT 20 97 rfl HT_.out ?_;refine pT 23 100 rfl HT_.out ?_;refine pT 25 102 rfl HT_.out ?_;refine pT 30 107 rfl HT_.out ?_;refine tT 3 80 rfl HT_.out HW_.out hHeld ?_;refine pT 4 81 rfl HT_.out ?_;refine pT 6 83 rfl HT_.out ?_;refine tT 10 87 rfl HT_.out HW_.out hHeld ?_;refine pT 11 88 rfl HT_.out ?_;refine pT 13 90 rfl HT_.out ?_;refine pT 14 91 rfl HT_.out ?_;refine tT 15 92 rfl HT_.out HW_.out hHeld ?_;refine tT 17 94 rfl HT_.out HW_.out hHeld ?_;refine tT 21 98 rfl HT_.out HW_.out hHeld ?_;refine pT 22 99 rfl HT_.out ?_;refine tT 24 101 rfl HT_.out HW_.out hHeld ?_;refine pT 26 103 rfl HT_.out ?_;refine tT 27 104 rfl HT_.out HW_.out hHeld ?_;refine pT 28 105 rfl HT_.out ?_;refine pT 29 106 rfl HT_.out ?_;refine tT 31 108 rfl HT_.out HW_.out hHeld ?_;refine pT 32 109 rfl HT_.out ?_;refine pT 33 110 rfl HT_.out ?_;refine last_ (i := 34) (N := none) #[tB,tB,tB,tB,tB,tB,tB,tB,tB,tB,tB,tB,tB,tB,tB,tB,tB,tB,tB,tB,tB,tB,tB,tB,tB,tB,tB,tB,tB,tB,tB,tB,tB,tB,tB] rfl rfl (one_of HT_.out (by kernel_rfl)) (by decide) (fun K hK => ?_);refine skip_ (w1 := ?_) (by rfl) rfl ?_ ?_;rotate_left
                 ·go_simp;rfl
                 refine hK.out _ _ ?_;clear hK K;refine done_ (done_of HT_.out (by kernel_rfl)) ?_;try go_wp2
                 go_roundg k3
                 case measure => have := HK1.out; have := HK2.out; have := HK3.out; omega
                 case rel => exact ⟨(y240), (wrap64 (x13_3 + 1)), (by first | rfl | (simp; done) | (simp [*]; done)), H', ⟨by have := HK1.out; have := HK2.out; have := HK3.out; omega⟩, ⟨rI HQ52.out⟩, ⟨by (with_reducible repeat (first | refine kN ?_ _ | refine kD ?_ | refine kA ?_ _)); refine blk_far ?_ (by have h_ := Kd.R_ne HO_9.out BK218.out (by decide); intro e_; exact h_ (by rw [e_]; rfl)) _; (with_reducible repeat (first | refine kN ?_ _ | refine kD ?_ | refine kA ?_ _)); exact BK218.out⟩, ⟨by repeat (first | (with_reducible first | exact HB.out | apply bA | apply bN | apply bD | refine bS ?_ GB48.out | refine bS ?_ GE218.out) | exact HB.out)⟩⟩
                rw [if_neg c46] at H;exact absurd H (by simp)
               rw [if_neg c45] at H;exact absurd H (by simp)
              rw [if_neg c44] at H;exact absurd H (by simp)
             rw [if_neg c43] at H;exact absurd H (by simp)
            rw [if_neg c42] at H;exact absurd H (by simp)
           rw [if_neg c41] at H;exact absurd H (by simp)
          rw [if_neg c39] at H;have c39b0 : decide (x13_3 < a0_1) = false := decide_eq_false c39;clear c39;have H' := Q9a.mk H;clear H;have hcz53_0 : wr.cell? ⟨gb218, 0, none⟩ = some (.int .i64 a0_0) := (kC BK218.out 0).trans rfl;have hcz53_1 : wr.cell? ⟨gb218, 1, none⟩ = some (.int .i64 a0_1) := (kC BK218.out 1).trans rfl;have hcz53_2 : wr.cell? ⟨gb218, 2, none⟩ = some (.slice A0_2 l0_2.length c0_2) := (kC BK218.out 2).trans rfl;have hfz53_0 := kF BK218.out 0;have hfz53_1 := kF BK218.out 1;have hfz53_2 := kF BK218.out 2;go_wp2
          go_roundg k3
          case measure => have := HK1.out; have := HK2.out; have := HK3.out; omega
          case rel => exact ⟨(x9_3), (wrap64 (x12_2 - 1)), (by first | rfl | (simp; done) | (simp [*]; done)), H', ⟨by have := HK1.out; have := HK2.out; have := HK3.out; omega⟩, ⟨rI HO_9.out⟩, ⟨kI BK218.out⟩, ⟨bJ HB.out GE218.out⟩⟩
       rw [if_neg c37] at H;have c37b0 : decide (a0_1 ≤ x12_2) = false := decide_eq_false c37;clear c37;by_cases c54 : 0 ≤ a0_1
       ·rw [if_pos c54] at H;have c54b0 := eq_true c54;have c54b1 : decide (0 ≤ a0_1) = true := decide_eq_true c54;clear c54;by_cases c55 : a0_1 ≤ (x9_2.length : Int)
        ·rw [if_pos c55] at H;have c55b0 := eq_true c55;have c55b1 : decide (a0_1 ≤ (x9_2.length : Int)) = true := decide_eq_true c55;clear c55;obtain ⟨y232, hy232⟩ : ∃ y_ : List Int, y_ = (x9_2.take (a0_1 : Int).toNat) := ⟨_, rfl⟩;replace H : ((r4Value.f k2 a0_0 a0_1 l0_2 y232).bind fun t236 => (some t236)) = some r := by first | (rw [hy232]; with_reducible exact H) | (have H2_ := (Option.bind_some _ _).symm.trans H; rw [hy232]; with_reducible exact H2_) | (have H2_ := (Option.bind_some _ _).symm.trans H; with_reducible exact H2_) | with_reducible exact H | (rw [hy232]; exact H) | exact H
         have Ny232 := Q9a.mk hy232;clear hy232;replace H := Option.bind_eq_some_iff.mp H;obtain ⟨t236, A560, H⟩ := H;replace H : (some t236) = some r := H;have A56 := Q9a.mk A560;clear A560;obtain rfl := Option.some.inj H;have hcz57_0 : wr.cell? ⟨gb218, 0, none⟩ = some (.int .i64 a0_0) := (kC BK218.out 0).trans rfl;have hcz57_1 : wr.cell? ⟨gb218, 1, none⟩ = some (.int .i64 a0_1) := (kC BK218.out 1).trans rfl;have hcz57_2 : wr.cell? ⟨gb218, 2, none⟩ = some (.slice A0_2 l0_2.length c0_2) := (kC BK218.out 2).trans rfl;have hfz57_0 := kF BK218.out 0;have hfz57_1 := kF BK218.out 1;have hfz57_2 := kF BK218.out 2;try go_wp2
         have n0_ := Q9a.mk (Kd.rD HO_9.out);have n1_ := Q9a.mk (kD BK218.out);have n2_ := Q9a.mk (bD HB.out);clear HO_9;clear BK218;clear HB;have HO_9 := n0_;have BK218 := n1_;have HB := n2_;clear n0_ n1_ n2_;obtain ⟨Ao60, co60, eo60⟩ := Kd.R_slice HO_9.out;(first | subst eo60 | (injection eo60 with f1_ f2_ f3_; have f4_ := f1_.symm; have f5_ := f3_.symm; clear f1_ f2_ f3_; subst f4_; subst f5_))
         have q59 : (a0_1 : Int) ≤ ((x9_2.length : Int) : Int) := of_decide_eq_true (by first | (with_reducible assumption) | assumption);obtain ⟨i059, hi059, _, hsz59, _⟩ := info_parts info3;have hroom59 : x9_2.length ≤ co60 := (Kd.R_reads' HO_9.out).2.1;have hC59 : Kd.C (Kd.int .i64) _ Ao60 x9_2.length x9_2 := (Kd.R_reads' HO_9.out).2.2;have hcut59 := cut_to (P := Try.prog) 22 3 .i64 Try.underlying22 hi059 Ao60 x9_2.length co60 a0_1 (of_decide_eq_true (by first | (with_reducible assumption) | assumption)) q59 hroom59;have hr59 := Kd.C_take (m := (a0_1 : Int).toNat) hC59 (by omega);have hy59 : y232.length = (a0_1 : Int).toNat := (by rw [Ny232.out, List.length_take]; omega);rw [← Ny232.out] at hr59;rw [← hy59] at hcut59;have HR235 := Q9a.mk hr59;have HC235 := Q9a.mk (show y232.length ≤ co60 from by omega);clear hr59 hC59 hroom59 hi059 hsz59;have KY59 := Q9a.mk hy59;clear hy59;have KL59 := Q9a.mk (show (a0_1 : Int).toNat ≤ x9_2.length from by omega);replace q59 := eq_true q59;refine start_ (n := 7) (S := fun w' => w'.cell? ⟨gb218, 0, none⟩ = some (.int .i64 a0_0) ∧ w'.cell? ⟨gb218, 1, none⟩ = some (.int .i64 a0_1) ∧ w'.cell? ⟨gb218, 2, none⟩ = some (.slice A0_2 l0_2.length c0_2)) (ds := []) #[fB,fB,fB,fB,fB,fB,fB] (by kernel_rfl) rfl rfl ⟨(kC BK218.out 0).trans rfl, (kC BK218.out 1).trans rfl, (kC BK218.out 2).trans rfl⟩ (fun hHeld => ?_);generalize wr.drew = w58 at HO_9 BK218 HB HR235 hHeld ⊢;refine pQ 1 112 rfl (by kernel_rfl) ?_;refine pQ 2 113 rfl (by kernel_rfl) ?_;refine tQ 0 111 rfl (by kernel_rfl) hHeld ?_;refine tQ 3 114 rfl (by kernel_rfl) hHeld ?_;refine pQ 4 115 rfl (by kernel_rfl) ?_;refine oQ 5 116 rfl (by kernel_rfl) (fun K hK => ?_);refine goes_ Try.func45 (by kernel_rfl) rfl #[.agg #[.int .i64 a0_0, .int .i64 a0_1, .slice A0_2 l0_2.length c0_2], .slice Ao60 y232.length co60] (by rfl) rfl rfl (by (try simp only [sm1, sm2, sm3]); first | done | rfl | (simp only [sm4, sm5]; rfl)) ?_;with_reducible refine (r4Value.calls k2 a0_0 a0_1 _ _ l0_2 _ _ y232 t236 _ ?side1 ?side2 ?side3 ?side4 A56.out).mono ?_
         (case side1 => exact cI HR0_2.out HB.out)
         (case side2 => exact HC0_2.out)
         (case side3 => repeat (first | exact (by repeat (first | (with_reducible exact HR235.out) | with_reducible first | refine Kd.cA ?_ _ | refine Kd.cN ?_ _ | refine Kd.cD ?_ | exact HR235.out)) | with_reducible first | refine Kd.cA ?_ _ | refine Kd.cN ?_ _ | refine Kd.cD ?_))
         (case side4 => exact HC235.out)
         rintro e w61 ⟨rfl, hb⟩;refine ⟨_, rfl, ?_⟩;have n0_ := Q9a.mk (Kd.R_below (rI HO_9.out) hb);have n1_ := Q9a.mk (kB (g := gb218) (o := .cells #[.int .i64 a0_0, .int .i64 a0_1, .slice A0_2 l0_2.length c0_2] 24 (0, 0)) (kI BK218.out) hb);have n2_ := Q9a.mk (Kd.cB (by repeat (first | (with_reducible exact HR235.out) | with_reducible first | refine Kd.cA ?_ _ | refine Kd.cN ?_ _ | refine Kd.cD ?_ | exact HR235.out)) hb);have n3_ := Q9a.mk (bP (bJ HB.out GE218.out) hb);clear HO_9;clear BK218;clear HR235;clear HB;have HO_9 := n0_;have BK218 := n1_;have HR235 := n2_;have HB := n3_;clear n0_ n1_ n2_ n3_;refine hK.out _ _ ⟨(kC BK218.out 0).trans rfl, (kC BK218.out 1).trans rfl, (kC BK218.out 2).trans rfl⟩ (fun hHeld => ?_);clear hK K;refine norm_ (a' := ?_) ?_ ?_;rotate_left
         ·show Act.put _ (some 116) _ = _
          simp only [Act.put, sz1, sz2, sz3, i64_w, i32_w];rfl
         refine pQ 6 6 rfl (by kernel_rfl) ?_;refine done_ (by kernel_rfl) ?_;try go_wp2
         go_ret
         exact ⟨by first | rfl | (simp [eN, eS] <;> rfl) | (simp only [← hji6]; first | rfl | (simp [eN, eS] <;> rfl)) | (simp [*, eN, eS] <;> rfl), bJ HB.out GE218.out⟩
        rw [if_neg c55] at H;exact absurd H (by simp)
       rw [if_neg c54] at H;exact absurd H (by simp)
  rw [if_neg c8] at H;exact absurd H (by simp)
 rw [if_neg c7] at H;exact absurd H (by simp)
end
end Go.Proofs.Ytlbddjojhcgpiaa.P
end
-- Pa7
section
namespace Go.Proofs.Ytlbddjojhcgpiaa.P
noncomputable section
open Go.RowKit Go.Proofs.Ytlbddjojhcgpiaa.Hand Go.Proofs.YtlbddjojhcgpiaaW.PrintWords Go.Proofs.YtlbddjojhcgpiaaW.PrintLast Go.Proofs.YtlbddjojhcgpiaaW.PrintMore
set_option linter.unusedVariables false
set_option linter.unusedSimpArgs false
def r4Add.l0 : Nat → List Int → List Int → Int → Int → Int → List Int → Option (Int)
 | 0, _, _, _, _, _, _ => none
 | k + 1, x7, x8, x9, x242000, x242001, x242002 => if x9 < (x7.length : Int) then (if 0 ≤ x9 then (if x9 < (x8.length : Int) then (if x242000 = 0 then (none) else (r4Add.l0 k (x7.set (x9 : Int).toNat (Int.tmod (wrap64 ((rd x7 x9) + (rd x8 x9))) x242000)) x8 (wrap64 (x9 + 1)) x242000 x242001 x242002)) else (none)) else (none)) else ((r4Value.f k x242000 x242001 x242002 x7).bind fun t251 => (some t251))
def r4Add.f (k : Nat) (a0_0 : Int) (a0_1 : Int) (l0_2 : List Int) (a1 : Int) (a2 : Int) : Option (Int) := (r4Digits.f k a0_0 a0_1 l0_2 a1).bind fun t242 => ((r4Digits.f k a0_0 a0_1 l0_2 a2).bind fun t245 => (r4Add.l0 k t242 t245 0 a0_0 a0_1 l0_2))
def r4Add.T6 : Bool × List (List Nat × List Nat) := (true, [([], []), ([], []), ([], []), ([], []), ([2, 3], [2, 3]), ([4], [4]), ([], []), ([], []), ([6, 7], [6, 7]), ([8], [8]), ([5, 9], [5, 9]), ([], []), ([11], [11]), ([10, 12], [10, 12]), ([0, 1, 0, 1, 2, 3, 4, 5, 6, 7, 8, 9, 10, 11, 12, 13], [0, 1]), ([14, 13, 0, 1, 2, 3, 4, 5, 6, 7, 8, 9, 10, 11, 12, 13], [13, 14])])
def r4Add.B6 : List Nat := [0, 0, 0, 0, 12, 28, 0, 0, 192, 448, 1020, 0, 2048, 8188, 16383, 32767]
theorem r4Add.tab6 : rtab .any (opsOf Try.f31 6) = r4Add.T6 := by kernel_rfl
theorem r4Add.bits6 : waitsOk r4Add.T6.2 r4Add.B6 = true := by kernel_rfl
theorem r4Add.calls (k : Nat) (a0_0 : Int) (a0_1 : Int) (A0_2 : Option Addr) (c0_2 : Nat) (l0_2 : List Int) (a1 : Int) (a2 : Int) (r : Int) (w : World) (hr0_2 : Kd.C (Kd.int .i64) w A0_2 l0_2.length l0_2) (hc0_2 : l0_2.length ≤ c0_2) (h : r4Add.f k a0_0 a0_1 l0_2 a1 a2 = some r) :
  Calls Try.prog 31 #[.agg #[.int .i64 a0_0, .int .i64 a0_1, .slice A0_2 l0_2.length c0_2], .int .i64 a1, .int .i64 a2] w fun e w' => e = .returned (.int .i64 r) ∧ Below w.heap.size w w' := by
 have hu24 := Try.underlying24;have HR0_2 := Q9a.mk hr0_2;have HC0_2 := Q9a.mk hc0_2;clear hr0_2 hc0_2;have HB := Q9a.mk (Below.refl w.heap.size w);have H : ((r4Digits.f k a0_0 a0_1 l0_2 a1).bind fun t242 => ((r4Digits.f k a0_0 a0_1 l0_2 a2).bind fun t245 => (r4Add.l0 k t242 t245 0 a0_0 a0_1 l0_2))) = some r := h;clear h;replace H := Option.bind_eq_some_iff.mp H;obtain ⟨t242, A40, H⟩ := H;replace H : ((r4Digits.f k a0_0 a0_1 l0_2 a2).bind fun t245 => (r4Add.l0 k t242 t245 0 a0_0 a0_1 l0_2)) = some r := H;have A4 := Q9a.mk A40;clear A40;replace H := Option.bind_eq_some_iff.mp H;obtain ⟨t245, A50, H⟩ := H;replace H : (r4Add.l0 k t242 t245 0 a0_0 a0_1 l0_2) = some r := H;have A5 := Q9a.mk A50;clear A50;have H' := Q9a.mk H;clear H;go_enter Try.func31, Try.ntmps31
 go_wp2_with (first | ((with_reducible refine gD (N := 3) rfl ?_); refine bE ?hg (N := 3) ?hd (cs := #[.int .i64 a0_0, .int .i64 a0_1, .slice A0_2 l0_2.length c0_2]) (t := 24) ?hr ?_; (case hd => rfl); (case hg => rfl); (case hr => first | (go_simp; done) | (go_simp; rfl)); intro gb241 hg w6 hbox hb; have n0_ := Q9a.mk (bP (bI HB.out) hb); have n1_ := Q9a.mk (hbox); have n2_ := Q9a.mk ((by rw [hg]; exact (bZ (bI HB.out)) : w.heap.size ≤ gb241)); have n3_ := n2_; clear HB; have HB := n0_; have BK241 := n1_; have GW241 := n2_; have GE241 := n3_; clear n0_ n1_ n2_ n3_; clear hb hbox hg; have hcz7_0 : w6.cell? ⟨gb241, 0, none⟩ = some (.int .i64 a0_0) := (kC BK241.out 0).trans rfl; have hcz7_1 : w6.cell? ⟨gb241, 1, none⟩ = some (.int .i64 a0_1) := (kC BK241.out 1).trans rfl; have hcz7_2 : w6.cell? ⟨gb241, 2, none⟩ = some (.slice A0_2 l0_2.length c0_2) := (kC BK241.out 2).trans rfl; have hfz7_0 := kF BK241.out 0; have hfz7_1 := kF BK241.out 1; have hfz7_2 := kF BK241.out 2) | ((with_reducible refine gC (f := 44) rfl ?_); refine gL (some 12) rfl rfl Try.func44 (by kernel_rfl) rfl #[.agg #[.int .i64 a0_0, .int .i64 a0_1, .slice A0_2 l0_2.length c0_2], .int .i64 a1] rfl (by (try simp only [sm1, sm2, sm3]); first | done | rfl | (simp only [sm4, sm5]; rfl)) ?_; (with_reducible refine (r4Digits.calls k a0_0 a0_1 _ _ l0_2 a1 t242 _ ?side1 ?side2 A4.out).mono ?_); (case side1 => exact cI HR0_2.out HB.out); (case side2 => exact HC0_2.out); rintro e w8 ⟨v243, rfl, ho0, hb⟩; refine ⟨_, rfl, ?_⟩; have n0_ := Q9a.mk (Kd.rL ho0 (bZ (bJ HB.out GE241.out))); have n1_ := Q9a.mk (kB (g := gb241) (o := .cells #[.int .i64 a0_0, .int .i64 a0_1, .slice A0_2 l0_2.length c0_2] 24 (0, 0)) (kI BK241.out) hb); have n2_ := Q9a.mk (bP (bJ HB.out GE241.out) hb); clear BK241; clear HB; have HO244 := n0_; have BK241 := n1_; have HB := n2_; clear n0_ n1_ n2_; (try clear ho0); have hcz9_0 : w8.cell? ⟨gb241, 0, none⟩ = some (.int .i64 a0_0) := (kC BK241.out 0).trans rfl; have hcz9_1 : w8.cell? ⟨gb241, 1, none⟩ = some (.int .i64 a0_1) := (kC BK241.out 1).trans rfl; have hcz9_2 : w8.cell? ⟨gb241, 2, none⟩ = some (.slice A0_2 l0_2.length c0_2) := (kC BK241.out 2).trans rfl; have hfz9_0 := kF BK241.out 0; have hfz9_1 := kF BK241.out 1; have hfz9_2 := kF BK241.out 2) | ((with_reducible refine gC (f := 44) rfl ?_); refine gL (some 15) rfl rfl Try.func44 (by kernel_rfl) rfl #[.agg #[.int .i64 a0_0, .int .i64 a0_1, .slice A0_2 l0_2.length c0_2], .int .i64 a2] rfl (by (try simp only [sm1, sm2, sm3]); first | done | rfl | (simp only [sm4, sm5]; rfl)) ?_; (with_reducible refine (r4Digits.calls k a0_0 a0_1 _ _ l0_2 a2 t245 _ ?side1 ?side2 A5.out).mono ?_); (case side1 => exact cI HR0_2.out HB.out); (case side2 => exact HC0_2.out); rintro e w10 ⟨v246, rfl, ho0, hb⟩; refine ⟨_, rfl, ?_⟩; have n0_ := Q9a.mk (Kd.R_elder' (rI HO244.out) (Kd.R_base ho0) hb); have n1_ := Q9a.mk (Kd.rL (Kd.R_new' ho0 (Kd.R_lt (rI HO244.out))) (bZ (bJ HB.out GE241.out))); have n2_ := Q9a.mk (kB (g := gb241) (o := .cells #[.int .i64 a0_0, .int .i64 a0_1, .slice A0_2 l0_2.length c0_2] 24 (0, 0)) (kI BK241.out) hb); have n3_ := Q9a.mk (bP (bJ HB.out GE241.out) hb); clear HO244; clear BK241; clear HB; have HO244 := n0_; have HO247 := n1_; have BK241 := n2_; have HB := n3_; clear n0_ n1_ n2_ n3_; (try clear ho0)))
 go_loopg [9] k (fun kq v9 w' => ∃ (x7_1 : List Int) (x9_1 : Int), v9 = .int .i64 x9_1 ∧ Q9a (r4Add.l0 kq x7_1 t245 x9_1 a0_0 a0_1 l0_2 = some r) ∧ Q9a (kq ≤ k) ∧ Q9a (Kd.R (Kd.int .i64) 3 w' w.heap.size (fun k_ => some k_ ≠ (v246 : Value).ownBlock) v243 x7_1) ∧ Q9a (Kd.R (Kd.int .i64) 3 w' w.heap.size (fun k_ => some k_ ≠ (v243 : Value).ownBlock) v246 t245) ∧ Q9a (w'.heap[gb241]? = some (.cells #[.int .i64 a0_0, .int .i64 a0_1, (.slice A0_2 l0_2.length c0_2)] 24 (0, 0))) ∧ Q9a (Below w.heap.size w w'))
 case atStart => exact ⟨(t242), (0), (by first | rfl | (simp; done) | (simp [*]; done)), H', ⟨Nat.le_refl _⟩, ⟨by (with_reducible repeat (first | apply Kd.rA | apply Kd.rN | apply Kd.rD)); exact Kd.R_mono HO244.out (fun _ hk => hk.2)⟩, ⟨by (with_reducible repeat (first | apply Kd.rA | apply Kd.rN | apply Kd.rD)); exact Kd.R_mono HO247.out (fun _ hk => hk.2)⟩, ⟨kI BK241.out⟩, ⟨bJ HB.out GE241.out⟩⟩
 case round =>
  clear H';try clear p2
  try clear c3
  try clear c4
  try clear hcz7_0
  try clear hcz7_1
  try clear hcz7_2
  try clear hcz9_0
  try clear hcz9_1
  try clear hcz9_2
  try clear hfz7_0
  try clear hfz7_1
  try clear hfz7_2
  try clear hfz9_0
  try clear hfz9_1
  try clear hfz9_2
  obtain ⟨x7_1, x9_1, rfl, HA, HK1, HO_7, HO_8, BK241, HB⟩ := hrel
  cases gk with
  | zero => exact absurd HA.out (by simp [r4Add.l0])
  | succ k1 =>
   have H := HA.out;clear HA;simp only [r4Add.l0] at H;by_cases c11 : x9_1 < (x7_1.length : Int)
   ·rw [if_pos c11] at H;have c11b0 : decide (x9_1 < (x7_1.length : Int)) = true := decide_eq_true c11;clear c11;by_cases c12 : 0 ≤ x9_1
    ·rw [if_pos c12] at H;have c12b0 : decide (0 ≤ x9_1) = true := decide_eq_true c12;clear c12;by_cases c13 : x9_1 < (t245.length : Int)
     ·rw [if_pos c13] at H;have c13b0 : decide (x9_1 < (t245.length : Int)) = true := decide_eq_true c13;clear c13;by_cases c14 : a0_0 = 0
      ·rw [if_pos c14] at H;exact absurd H (by simp)
      rw [if_neg c14] at H;have c14b0 : (a0_0 == 0) = false := beq_eq_false_iff_ne.mpr c14;have c14b1 : (a0_0 != 0) = true := bne_iff_ne.mpr c14;obtain ⟨y250, hy250⟩ : ∃ y_ : List Int, y_ = (x7_1.set (x9_1 : Int).toNat (Int.tmod (wrap64 ((rd x7_1 x9_1) + (rd t245 x9_1))) a0_0)) := ⟨_, rfl⟩;replace H : (r4Add.l0 k1 y250 t245 (wrap64 (x9_1 + 1)) a0_0 a0_1 l0_2) = some r := by first | (rw [hy250]; with_reducible exact H) | (have H2_ := (Option.bind_some _ _).symm.trans H; rw [hy250]; with_reducible exact H2_) | (have H2_ := (Option.bind_some _ _).symm.trans H; with_reducible exact H2_) | with_reducible exact H | (rw [hy250]; exact H) | exact H
      have Ny250 := Q9a.mk hy250;clear hy250;have H' := Q9a.mk H;clear H;obtain ⟨Ao16, co16, eo16⟩ := Kd.R_slice HO_7.out;subst eo16;try go_wp2
      have n0_ := Q9a.mk (Kd.rD HO_7.out);have n1_ := Q9a.mk (Kd.rD HO_8.out);have n2_ := Q9a.mk (kD BK241.out);have n3_ := Q9a.mk (bD HB.out);clear HO_7;clear HO_8;clear BK241;clear HB;have HO_7 := n0_;have HO_8 := n1_;have BK241 := n2_;have HB := n3_;clear n0_ n1_ n2_ n3_;have p248 : 0 ≤ (x9_1 : Int) := of_decide_eq_true (by first | (with_reducible assumption) | assumption);have q248 : x9_1 < (x7_1.length : Int) := of_decide_eq_true (by first | (with_reducible assumption) | assumption);obtain ⟨ad248, e248, hx248_0⟩ := Kd.at_int (Kd.R_reads' HO_7.out).2.2 x9_1 p248 q248
      cases e248
      replace p248 := eq_true p248;replace q248 := eq_true q248;obtain ⟨Ao18, co18, eo18⟩ := Kd.R_slice HO_8.out;(first | subst eo18 | (injection eo18 with f1_ f2_ f3_; have f4_ := f1_.symm; have f5_ := f3_.symm; clear f1_ f2_ f3_; subst f4_; subst f5_))
      have p249 : 0 ≤ (x9_1 : Int) := of_decide_eq_true (by first | (with_reducible assumption) | assumption);have q249 : x9_1 < (t245.length : Int) := of_decide_eq_true (by first | (with_reducible assumption) | assumption);obtain ⟨ad249, e249, hx249_0⟩ := Kd.at_int (Kd.R_reads' HO_8.out).2.2 x9_1 p249 q249
      cases e249
      replace p249 := eq_true p249;replace q249 := eq_true q249;have p15 : 0 ≤ (x9_1 : Int) := of_decide_eq_true (by first | (with_reducible assumption) | assumption);have q15 : (x9_1 : Int) < ((x7_1.length : Int) : Int) := of_decide_eq_true (by first | (with_reducible assumption) | assumption);obtain ⟨go15, co15, eo15, gb15, gl15, cl15, HG15⟩ := Kd.R_form HO_7.out (by omega);(first | cases eo15 | (injection eo15 with ea_ en_ ec_; (first | subst ea_ | (injection ea_ with ea_; subst ea_)); subst ec_; clear en_))
      have GB15 := Q9a.mk gb15;have GG15 := Q9a.mk HG15;clear gb15 gl15 HG15;(first | simp only [add_plain] at hx248_0 | skip)
      obtain ⟨hx15_0, hf15_0⟩ := Kd.R_celln 0 HO_7.out (x9_1 : Int) p15 q15;replace p15 := eq_true p15;replace q15 := eq_true q15;have HP19 := Kd.R_putn HO_7.out (x9_1 : Int) (Int.tmod (wrap64 ((rd x7_1 x9_1) + (rd t245 x9_1))) a0_0);rw [← Ny250.out] at HP19;have HQ19 := Q9a.mk HP19;clear HP19;refine start_ (n := 16) (S := fun w' => w'.cell? ⟨gb241, 0, none⟩ = some (.int .i64 a0_0) ∧ w'.cell? ⟨gb241, 1, none⟩ = some (.int .i64 a0_1) ∧ w'.cell? ⟨gb241, 2, none⟩ = some (.slice A0_2 l0_2.length c0_2) ∧ w'.cell? ⟨go15, (x9_1).toNat, none⟩ = some (.int .i64 (rd x7_1 x9_1)) ∧ w'.cell? (ad249.add (x9_1).toNat) = some (.int .i64 (rd t245 x9_1))) (ds := [15]) #[fB,fB,fB,fB,fB,fB,fB,fB,fB,fB,fB,fB,fB,fB,fB,fB] (by kernel_rfl) rfl rfl ⟨(kC BK241.out 0).trans rfl, (kC BK241.out 1).trans rfl, (kC BK241.out 2).trans rfl, hx248_0, hx249_0⟩ (fun hHeld => ?_); refine with_tabW r4Add.tab6 r4Add.bits6 (fun HT_ HW_ => ?_);generalize wr.drew = w17 at HO_7 HO_8 BK241 HB GG15 HQ19 hf15_0 hx15_0 hx248_0 hx249_0 hHeld ⊢;refine pT 0 22 rfl HT_.out ?_;refine pT 1 23 rfl HT_.out ?_;refine pT 2 24 rfl HT_.out ?_;refine pT 3 25 rfl HT_.out ?_;refine pT 4 26 rfl HT_.out ?_;refine pT 6 28 rfl HT_.out ?_;refine pT 7 29 rfl HT_.out ?_;refine pT 8 30 rfl HT_.out ?_;refine pT 11 33 rfl HT_.out ?_;refine tT 5 27 rfl HT_.out HW_.out hHeld ?_;refine tT 9 31 rfl HT_.out HW_.out hHeld ?_;refine pT 10 32 rfl HT_.out ?_;refine tT 12 34 rfl HT_.out HW_.out hHeld ?_;refine pT 13 35 rfl HT_.out ?_;refine pT 14 36 rfl HT_.out ?_;refine last_ (i := 15) (N := none) #[tB,tB,tB,tB,tB,tB,tB,tB,tB,tB,tB,tB,tB,tB,tB,tB] rfl rfl (one_of HT_.out (by kernel_rfl)) (by decide) (fun K hK => ?_);refine skip_ (w1 := ?_) (by rfl) rfl ?_ ?_;rotate_left
      ·go_simp;rfl
      refine hK.out _ _ ?_;clear hK K;refine done_ (done_of HT_.out (by kernel_rfl)) ?_;try go_wp2
      go_roundg k1
      case measure => have := HK1.out; omega
      case rel => exact ⟨(y250), (wrap64 (x9_1 + 1)), (by first | rfl | (simp; done) | (simp [*]; done)), H', ⟨by have := HK1.out; omega⟩, ⟨rI HQ19.out⟩, ⟨by (with_reducible repeat (first | apply Kd.rA | apply Kd.rN | apply Kd.rD)); exact Kd.R_mono (Kd.R_far (p := ⟨go15, (x9_1 : Int).toNat, none⟩) (Kd.R_mono HO_8.out (fun k_ hk => (⟨hk, fun e_ => hk (by rw [e_]; rfl)⟩ : _ ∧ k_ ≠ go15))) (fun _ hk => hk.2) (.int .i64 (Int.tmod (wrap64 ((rd x7_1 x9_1) + (rd t245 x9_1))) a0_0))) (fun _ hk => hk.1)⟩, ⟨by (with_reducible repeat (first | refine kN ?_ _ | refine kD ?_ | refine kA ?_ _)); refine blk_far ?_ (by have h_ := Kd.R_ne HO_7.out BK241.out (by decide); intro e_; exact h_ (by rw [e_]; rfl)) _; (with_reducible repeat (first | refine kN ?_ _ | refine kD ?_ | refine kA ?_ _)); exact BK241.out⟩, ⟨by repeat (first | (with_reducible first | exact HB.out | apply bA | apply bN | apply bD | refine bS ?_ GB15.out | refine bS ?_ GE241.out) | exact HB.out)⟩⟩
     rw [if_neg c13] at H;exact absurd H (by simp)
    rw [if_neg c12] at H;exact absurd H (by simp)
   rw [if_neg c11] at H;have c11b0 : decide (x9_1 < (x7_1.length : Int)) = false := decide_eq_false c11;clear c11;replace H := Option.bind_eq_some_iff.mp H;obtain ⟨t251, A200, H⟩ := H;replace H : (some t251) = some r := H;have A20 := Q9a.mk A200;clear A200;obtain rfl := Option.some.inj H;obtain ⟨Ao21, co21, eo21⟩ := Kd.R_slice HO_7.out;subst eo21;have hcz22_0 : wr.cell? ⟨gb241, 0, none⟩ = some (.int .i64 a0_0) := (kC BK241.out 0).trans rfl;have hcz22_1 : wr.cell? ⟨gb241, 1, none⟩ = some (.int .i64 a0_1) := (kC BK241.out 1).trans rfl;have hcz22_2 : wr.cell? ⟨gb241, 2, none⟩ = some (.slice A0_2 l0_2.length c0_2) := (kC BK241.out 2).trans rfl;have hfz22_0 := kF BK241.out 0;have hfz22_1 := kF BK241.out 1;have hfz22_2 := kF BK241.out 2;go_wp2_with (first | ((with_reducible refine gC (f := 45) rfl ?_); refine gL (some 39) rfl rfl Try.func45 (by kernel_rfl) rfl #[.agg #[.int .i64 a0_0, .int .i64 a0_1, .slice A0_2 l0_2.length c0_2], .slice Ao21 x7_1.length co21] rfl (by (try simp only [sm1, sm2, sm3]); first | done | rfl | (simp only [sm4, sm5]; rfl)) ?_; (with_reducible refine (r4Value.calls k1 a0_0 a0_1 _ _ l0_2 _ _ x7_1 t251 _ ?side1 ?side2 ?side3 ?side4 A20.out).mono ?_); (case side1 => exact cI HR0_2.out HB.out); (case side2 => exact HC0_2.out); (case side3 => repeat (first | exact (Kd.R_reads' HO_7.out).2.2 | with_reducible first | refine Kd.cA ?_ _ | refine Kd.cN ?_ _ | refine Kd.cD ?_)); (case side4 => exact (Kd.R_reads' HO_7.out).2.1); rintro e w23 ⟨rfl, hb⟩; refine ⟨_, rfl, ?_⟩; have n0_ := Q9a.mk (Kd.R_below (rI HO_7.out) hb); have n1_ := Q9a.mk (Kd.R_below (rI HO_8.out) hb); have n2_ := Q9a.mk (kB (g := gb241) (o := .cells #[.int .i64 a0_0, .int .i64 a0_1, .slice A0_2 l0_2.length c0_2] 24 (0, 0)) (kI BK241.out) hb); have n3_ := Q9a.mk (bP (bJ HB.out GE241.out) hb); clear HO_7; clear HO_8; clear BK241; clear HB; have HO_7 := n0_; have HO_8 := n1_; have BK241 := n2_; have HB := n3_; clear n0_ n1_ n2_ n3_; (try clear hb); (try clear hb2); (try clear hk); (try clear hi)))
   go_ret
   exact ⟨by first | rfl | (simp [*, eN, eS] <;> rfl), bJ HB.out GE241.out⟩
mutual
def r4Pow.j0 : Nat → Int → Int → Bool → Int → Int → List Int → Option (Int × Int)
 | 0, _, _, _, _, _, _ => none
 | k + 1, x1, x2, x21, x253000, x253001, x253002 => if x21 = true then (some (0, 7)) else (if x1 = 0 then (some (0, 0)) else ((r4Order.f k x253000 x253001 x253002).bind fun t254 => (if (wrap64 (t254 - 1)) = 0 then (none) else (r4Pow.l0 k x1 (Int.tmod (wrap64 ((Int.tmod x2 (wrap64 (t254 - 1))) + (wrap64 (t254 - 1)))) (wrap64 (t254 - 1))) 1 0 x253000 x253001 x253002))))
def r4Pow.l0 : Nat → Int → Int → Int → Int → Int → Int → List Int → Option (Int × Int)
 | 0, _, _, _, _, _, _, _ => none
 | k + 1, x1, x2, x9, x10, x253000, x253001, x253002 => if x10 < x2 then ((r4Mul.f k x253000 x253001 x253002 x9 x1).bind fun t255 => (r4Pow.l0 k x1 x2 t255 (wrap64 (x10 + 1)) x253000 x253001 x253002)) else (some (x9, 0))
end
def r4Pow.f (k : Nat) (a0_0 : Int) (a0_1 : Int) (l0_2 : List Int) (a1 : Int) (a2 : Int) : Option (Int × Int) := (r4In.f k a0_0 a0_1 l0_2 a1).bind fun t253 => (if a2 = 0 then (some (1, 0)) else (if t253 = 0 then (r4Pow.j0 k t253 a2 (decide (a2 < 0)) a0_0 a0_1 l0_2) else (r4Pow.j0 k t253 a2 false a0_0 a0_1 l0_2)))
theorem r4Pow.calls (k : Nat) (a0_0 : Int) (a0_1 : Int) (A0_2 : Option Addr) (c0_2 : Nat) (l0_2 : List Int) (a1 : Int) (a2 : Int) (r1 : Int) (r2 : Int) (w : World) (hr0_2 : Kd.C (Kd.int .i64) w A0_2 l0_2.length l0_2) (hc0_2 : l0_2.length ≤ c0_2) (h : r4Pow.f k a0_0 a0_1 l0_2 a1 a2 = some (r1, r2)) :
  Calls Try.prog 71 #[.agg #[.int .i64 a0_0, .int .i64 a0_1, .slice A0_2 l0_2.length c0_2], .int .i64 a1, .int .i64 a2] w fun e w' => e = .returned (.tuple #[.int .i64 r1, .int .i64 r2]) ∧ Below w.heap.size w w' := by
 have hu24 := Try.underlying24;have HR0_2 := Q9a.mk hr0_2;have HC0_2 := Q9a.mk hc0_2;clear hr0_2 hc0_2;have HB := Q9a.mk (Below.refl w.heap.size w);have H : ((r4In.f k a0_0 a0_1 l0_2 a1).bind fun t253 => (if a2 = 0 then (some (1, 0)) else (if t253 = 0 then (r4Pow.j0 k t253 a2 (decide (a2 < 0)) a0_0 a0_1 l0_2) else (r4Pow.j0 k t253 a2 false a0_0 a0_1 l0_2)))) = some (r1, r2) := h;clear h;replace H := Option.bind_eq_some_iff.mp H;obtain ⟨t253, A40, H⟩ := H;replace H : (if a2 = 0 then (some (1, 0)) else (if t253 = 0 then (r4Pow.j0 k t253 a2 (decide (a2 < 0)) a0_0 a0_1 l0_2) else (r4Pow.j0 k t253 a2 false a0_0 a0_1 l0_2))) = some (r1, r2) := H;have A4 := Q9a.mk A40;clear A40;by_cases c5 : a2 = 0
 ·rw [if_pos c5] at H;have c5b0 : (a2 == 0) = true := beq_iff_eq.mpr c5;have c5b1 : (a2 != 0) = false := bne_eq_false_iff_eq.mpr c5;clear c5;simp only [Option.some.injEq, Prod.mk.injEq] at H;obtain ⟨rfl, rfl⟩ := H;go_enter Try.func71, Try.ntmps71
  go_wp2_with (first | ((with_reducible refine gD (N := 3) rfl ?_); refine bE ?hg (N := 3) ?hd (cs := #[.int .i64 a0_0, .int .i64 a0_1, .slice A0_2 l0_2.length c0_2]) (t := 24) ?hr ?_; (case hd => rfl); (case hg => rfl); (case hr => first | (go_simp; done) | (go_simp; rfl)); intro gb252 hg w6 hbox hb; have n0_ := Q9a.mk (bP (bI HB.out) hb); have n1_ := Q9a.mk (hbox); have n2_ := Q9a.mk ((by rw [hg]; exact (bZ (bI HB.out)) : w.heap.size ≤ gb252)); have n3_ := n2_; clear HB; have HB := n0_; have BK252 := n1_; have GW252 := n2_; have GE252 := n3_; clear n0_ n1_ n2_ n3_; clear hb hbox hg; have hcz7_0 : w6.cell? ⟨gb252, 0, none⟩ = some (.int .i64 a0_0) := (kC BK252.out 0).trans rfl; have hcz7_1 : w6.cell? ⟨gb252, 1, none⟩ = some (.int .i64 a0_1) := (kC BK252.out 1).trans rfl; have hcz7_2 : w6.cell? ⟨gb252, 2, none⟩ = some (.slice A0_2 l0_2.length c0_2) := (kC BK252.out 2).trans rfl; have hfz7_0 := kF BK252.out 0; have hfz7_1 := kF BK252.out 1; have hfz7_2 := kF BK252.out 2) | ((with_reducible refine gC (f := 30) rfl ?_); refine gL (some 13) rfl rfl Try.func30 (by kernel_rfl) rfl #[.agg #[.int .i64 a0_0, .int .i64 a0_1, .slice A0_2 l0_2.length c0_2], .int .i64 a1] rfl (by (try simp only [sm1, sm2, sm3]); first | done | rfl | (simp only [sm4, sm5]; rfl)) ?_; (with_reducible refine (r4In.calls k a0_0 a0_1 _ _ l0_2 a1 t253 _ ?side1 ?side2 A4.out).mono ?_); (case side1 => exact cI HR0_2.out HB.out); (case side2 => exact HC0_2.out); rintro e w8 ⟨rfl, hb⟩; refine ⟨_, rfl, ?_⟩; have n0_ := Q9a.mk (kB (g := gb252) (o := .cells #[.int .i64 a0_0, .int .i64 a0_1, .slice A0_2 l0_2.length c0_2] 24 (0, 0)) (kI BK252.out) hb); have n1_ := Q9a.mk (bP (bJ HB.out GE252.out) hb); clear BK252; clear HB; have BK252 := n0_; have HB := n1_; clear n0_ n1_; (try clear hb); (try clear hb2); (try clear hk); (try clear hi)))
  go_ret2
  exact ⟨by first | rfl | (simp [*, eN, eS] <;> rfl), bJ HB.out GE252.out⟩
 rw [if_neg c5] at H;have c5b0 : (a2 == 0) = false := beq_eq_false_iff_ne.mpr c5;have c5b1 : (a2 != 0) = true := bne_iff_ne.mpr c5;have HC9 := Q9a.mk H;clear H;go_enter Try.func71, Try.ntmps71
 go_upto_region 4 with (first | ((with_reducible refine gD (N := 3) rfl ?_); refine bE ?hg (N := 3) ?hd (cs := #[.int .i64 a0_0, .int .i64 a0_1, .slice A0_2 l0_2.length c0_2]) (t := 24) ?hr ?_; (case hd => rfl); (case hg => rfl); (case hr => first | (go_simp; done) | (go_simp; rfl)); intro gb252 hg w10 hbox hb; have n0_ := Q9a.mk (bP (bI HB.out) hb); have n1_ := Q9a.mk (hbox); have n2_ := Q9a.mk ((by rw [hg]; exact (bZ (bI HB.out)) : w.heap.size ≤ gb252)); have n3_ := n2_; clear HB; have HB := n0_; have BK252 := n1_; have GW252 := n2_; have GE252 := n3_; clear n0_ n1_ n2_ n3_; clear hb hbox hg; have hcz11_0 : w10.cell? ⟨gb252, 0, none⟩ = some (.int .i64 a0_0) := (kC BK252.out 0).trans rfl; have hcz11_1 : w10.cell? ⟨gb252, 1, none⟩ = some (.int .i64 a0_1) := (kC BK252.out 1).trans rfl; have hcz11_2 : w10.cell? ⟨gb252, 2, none⟩ = some (.slice A0_2 l0_2.length c0_2) := (kC BK252.out 2).trans rfl; have hfz11_0 := kF BK252.out 0; have hfz11_1 := kF BK252.out 1; have hfz11_2 := kF BK252.out 2) | ((with_reducible refine gC (f := 30) rfl ?_); refine gL (some 13) rfl rfl Try.func30 (by kernel_rfl) rfl #[.agg #[.int .i64 a0_0, .int .i64 a0_1, .slice A0_2 l0_2.length c0_2], .int .i64 a1] rfl (by (try simp only [sm1, sm2, sm3]); first | done | rfl | (simp only [sm4, sm5]; rfl)) ?_; (with_reducible refine (r4In.calls k a0_0 a0_1 _ _ l0_2 a1 t253 _ ?side1 ?side2 A4.out).mono ?_); (case side1 => exact cI HR0_2.out HB.out); (case side2 => exact HC0_2.out); rintro e w12 ⟨rfl, hb⟩; refine ⟨_, rfl, ?_⟩; have n0_ := Q9a.mk (kB (g := gb252) (o := .cells #[.int .i64 a0_0, .int .i64 a0_1, .slice A0_2 l0_2.length c0_2] 24 (0, 0)) (kI BK252.out) hb); have n1_ := Q9a.mk (bP (bJ HB.out GE252.out) hb); clear BK252; clear HB; have BK252 := n0_; have HB := n1_; clear n0_ n1_; (try clear hb); (try clear hb2); (try clear hk); (try clear hi)))
 (try simp only [Act.put, sz1, sz2, sz3])
 go_cut [21] (fun v21 wc => ∃ (kq : Nat) (x21_8 : Bool), v21 = .bool x21_8 ∧ Q9a (r4Pow.j0 kq t253 a2 x21_8 a0_0 a0_1 l0_2 = some (r1, r2)) ∧ Q9a (kq ≤ k) ∧ Q9a (wc.heap[gb252]? = some (.cells #[.int .i64 a0_0, .int .i64 a0_1, (.slice A0_2 l0_2.length c0_2)] 24 (0, 0))) ∧ Q9a (Below w.heap.size w wc))
 case first =>
  have H := HC9.out;clear HC9;by_cases c13 : t253 = 0
  ·rw [if_pos c13] at H;have c13b0 : (t253 == 0) = true := beq_iff_eq.mpr c13;have c13b1 : (t253 != 0) = false := bne_eq_false_iff_eq.mpr c13;clear c13;(first | rw [c13b0] | (simp only [i64_w, i32_w]; rw [c13b0]) | skip)
   have H' := Q9a.mk H;clear H;go_wp2
   go_meet
   case rel => exact ⟨_, (decide (a2 < 0)), (by first | rfl | (simp; done) | (simp [*]; done)), H', ⟨by first | omega | exact Nat.le_refl _⟩, ⟨kI BK252.out⟩, ⟨bJ HB.out GE252.out⟩⟩
  rw [if_neg c13] at H;have c13b0 : (t253 == 0) = false := beq_eq_false_iff_ne.mpr c13;have c13b1 : (t253 != 0) = true := bne_iff_ne.mpr c13;(first | rw [c13b0] | (simp only [i64_w, i32_w]; rw [c13b0]) | skip)
  have H' := Q9a.mk H;clear H;go_wp2
  go_meet
  case rel => exact ⟨_, (false), (by first | rfl | (simp; done) | (simp [*]; done)), H', ⟨by first | omega | exact Nat.le_refl _⟩, ⟨kI BK252.out⟩, ⟨bJ HB.out GE252.out⟩⟩
 case rest =>
  clear HC9;try clear c1
  try clear p2
  try clear c3
  try clear c5
  try clear c5b0
  try clear c5b1
  try clear c7
  try clear c13
  try clear c13b0
  try clear c13b1
  try clear hcz11_0
  try clear hcz11_1
  try clear hcz11_2
  try clear hcz7_0
  try clear hcz7_1
  try clear hcz7_2
  try clear hfz11_0
  try clear hfz11_1
  try clear hfz11_2
  try clear hfz7_0
  try clear hfz7_1
  try clear hfz7_2
  obtain ⟨kq, x21_8, rfl, HA, HJ8, BK252, HB⟩ := hcut
  cases kq with
  | zero => exact absurd HA.out (by simp [r4Pow.j0])
  | succ kj8 =>
   have H := HA.out;clear HA;simp only [r4Pow.j0] at H;by_cases c14 : x21_8 = true
   ·subst c14;have H1 : (some (0, 7)) = some (r1, r2) := by rw [if_pos rfl] at H; exact H
    clear H;have H := H1;clear H1;simp only [Option.some.injEq, Prod.mk.injEq] at H;obtain ⟨rfl, rfl⟩ := H;go_wp2
    go_ret2
    exact ⟨by first | rfl | (simp [*, eN, eS] <;> rfl), bJ HB.out GE252.out⟩
   replace c14 := Bool.eq_false_iff.mpr c14;subst c14;have H1 : (if t253 = 0 then (some (0, 0)) else ((r4Order.f kj8 a0_0 a0_1 l0_2).bind fun t254 => (if (wrap64 (t254 - 1)) = 0 then (none) else (r4Pow.l0 kj8 t253 (Int.tmod (wrap64 ((Int.tmod a2 (wrap64 (t254 - 1))) + (wrap64 (t254 - 1)))) (wrap64 (t254 - 1))) 1 0 a0_0 a0_1 l0_2)))) = some (r1, r2) := by rw [if_neg (show ¬ (false = true) by decide)] at H; exact H
   clear H;have H := H1;clear H1;by_cases c15 : t253 = 0
   ·rw [if_pos c15] at H;have c15b0 : (t253 == 0) = true := beq_iff_eq.mpr c15;have c15b1 : (t253 != 0) = false := bne_eq_false_iff_eq.mpr c15;clear c15;simp only [Option.some.injEq, Prod.mk.injEq] at H;obtain ⟨rfl, rfl⟩ := H;go_wp2
    go_ret2
    exact ⟨by first | rfl | (simp [*, eN, eS] <;> rfl), bJ HB.out GE252.out⟩
   rw [if_neg c15] at H;have c15b0 : (t253 == 0) = false := beq_eq_false_iff_ne.mpr c15;have c15b1 : (t253 != 0) = true := bne_iff_ne.mpr c15;replace H := Option.bind_eq_some_iff.mp H;obtain ⟨t254, A160, H⟩ := H;replace H : (if (wrap64 (t254 - 1)) = 0 then (none) else (r4Pow.l0 kj8 t253 (Int.tmod (wrap64 ((Int.tmod a2 (wrap64 (t254 - 1))) + (wrap64 (t254 - 1)))) (wrap64 (t254 - 1))) 1 0 a0_0 a0_1 l0_2)) = some (r1, r2) := H;have A16 := Q9a.mk A160;clear A160;by_cases c17 : (wrap64 (t254 - 1)) = 0
   ·rw [if_pos c17] at H;exact absurd H (by simp)
   rw [if_neg c17] at H;have c17b0 : ((wrap64 (t254 - 1)) == 0) = false := beq_eq_false_iff_ne.mpr c17;have c17b1 : ((wrap64 (t254 - 1)) != 0) = true := bne_iff_ne.mpr c17;have H' := Q9a.mk H;clear H;have hcz18_0 : wc.cell? ⟨gb252, 0, none⟩ = some (.int .i64 a0_0) := (kC BK252.out 0).trans rfl;have hcz18_1 : wc.cell? ⟨gb252, 1, none⟩ = some (.int .i64 a0_1) := (kC BK252.out 1).trans rfl;have hcz18_2 : wc.cell? ⟨gb252, 2, none⟩ = some (.slice A0_2 l0_2.length c0_2) := (kC BK252.out 2).trans rfl;have hfz18_0 := kF BK252.out 0;have hfz18_1 := kF BK252.out 1;have hfz18_2 := kF BK252.out 2;go_wp2_with (first | ((with_reducible refine gC (f := 29) rfl ?_); refine gL (some 25) rfl rfl Try.func29 (by kernel_rfl) rfl #[.agg #[.int .i64 a0_0, .int .i64 a0_1, .slice A0_2 l0_2.length c0_2]] rfl (by (try simp only [sm1, sm2, sm3]); first | done | rfl | (simp only [sm4, sm5]; rfl)) ?_; (with_reducible refine (r4Order.calls kj8 a0_0 a0_1 _ _ l0_2 t254 _ ?side1 ?side2 A16.out).mono ?_); (case side1 => exact cI HR0_2.out HB.out); (case side2 => exact HC0_2.out); rintro e w19 ⟨rfl, hb⟩; refine ⟨_, rfl, ?_⟩; have n0_ := Q9a.mk (kB (g := gb252) (o := .cells #[.int .i64 a0_0, .int .i64 a0_1, .slice A0_2 l0_2.length c0_2] 24 (0, 0)) (kI BK252.out) hb); have n1_ := Q9a.mk (bP (bJ HB.out GE252.out) hb); clear BK252; clear HB; have BK252 := n0_; have HB := n1_; clear n0_ n1_; (try clear hb); (try clear hb2); (try clear hk); (try clear hi)))
   go_loopg [9, 10] kj8 (fun kq v9 v10 w' => ∃ (x9_2 : Int) (x10_2 : Int), v9 = .int .i64 x9_2 ∧ v10 = .int .i64 x10_2 ∧ Q9a (r4Pow.l0 kq t253 (Int.tmod (wrap64 ((Int.tmod a2 (wrap64 (t254 - 1))) + (wrap64 (t254 - 1)))) (wrap64 (t254 - 1))) x9_2 x10_2 a0_0 a0_1 l0_2 = some (r1, r2)) ∧ Q9a (kq ≤ kj8) ∧ Q9a (w'.heap[gb252]? = some (.cells #[.int .i64 a0_0, .int .i64 a0_1, (.slice A0_2 l0_2.length c0_2)] 24 (0, 0))) ∧ Q9a (Below w.heap.size w w'))
   case atStart => exact ⟨(1), (0), (by first | rfl | (simp; done) | (simp [*]; done)), (by first | rfl | (simp; done) | (simp [*]; done)), H', ⟨Nat.le_refl _⟩, ⟨kI BK252.out⟩, ⟨bJ HB.out GE252.out⟩⟩
   case round =>
    clear H';try clear c1
    try clear c2
    try clear p2
    try clear c3
    try clear c5
    try clear c5b0
    try clear c5b1
    try clear p6
    try clear c7
    try clear c13
    try clear c13b0
    try clear c13b1
    try clear c14
    try clear c15
    try clear c15b0
    try clear c15b1
    try clear c17
    try clear c17b0
    try clear c17b1
    try clear hcz11_0
    try clear hcz11_1
    try clear hcz11_2
    try clear hcz18_0
    try clear hcz18_1
    try clear hcz18_2
    try clear hcz7_0
    try clear hcz7_1
    try clear hcz7_2
    try clear hfz11_0
    try clear hfz11_1
    try clear hfz11_2
    try clear hfz18_0
    try clear hfz18_1
    try clear hfz18_2
    try clear hfz7_0
    try clear hfz7_1
    try clear hfz7_2
    try clear p2
    obtain ⟨x9_2, x10_2, rfl, rfl, HA, HK2, BK252, HB⟩ := hrel
    cases gk with
    | zero => exact absurd HA.out (by simp [r4Pow.l0])
    | succ k2 =>
     have H := HA.out;clear HA;simp only [r4Pow.l0] at H;by_cases c20 : x10_2 < (Int.tmod (wrap64 ((Int.tmod a2 (wrap64 (t254 - 1))) + (wrap64 (t254 - 1)))) (wrap64 (t254 - 1)))
     ·rw [if_pos c20] at H;have c20b0 : decide (x10_2 < (Int.tmod (wrap64 ((Int.tmod a2 (wrap64 (t254 - 1))) + (wrap64 (t254 - 1)))) (wrap64 (t254 - 1)))) = true := decide_eq_true c20;clear c20;replace H := Option.bind_eq_some_iff.mp H;obtain ⟨t255, A210, H⟩ := H;replace H : (r4Pow.l0 k2 t253 (Int.tmod (wrap64 ((Int.tmod a2 (wrap64 (t254 - 1))) + (wrap64 (t254 - 1)))) (wrap64 (t254 - 1))) t255 (wrap64 (x10_2 + 1)) a0_0 a0_1 l0_2) = some (r1, r2) := H;have A21 := Q9a.mk A210;clear A210;have H' := Q9a.mk H;clear H;have hcz22_0 : wr.cell? ⟨gb252, 0, none⟩ = some (.int .i64 a0_0) := (kC BK252.out 0).trans rfl;have hcz22_1 : wr.cell? ⟨gb252, 1, none⟩ = some (.int .i64 a0_1) := (kC BK252.out 1).trans rfl;have hcz22_2 : wr.cell? ⟨gb252, 2, none⟩ = some (.slice A0_2 l0_2.length c0_2) := (kC BK252.out 2).trans rfl;have hfz22_0 := kF BK252.out 0;have hfz22_1 := kF BK252.out 1;have hfz22_2 := kF BK252.out 2;go_wp2_with (first | ((with_reducible refine gC (f := 16) rfl ?_); refine gL (some 42) rfl rfl Try.func16 (by kernel_rfl) rfl #[.agg #[.int .i64 a0_0, .int .i64 a0_1, .slice A0_2 l0_2.length c0_2], .int .i64 x9_2, .int .i64 t253] rfl (by (try simp only [sm1, sm2, sm3]); first | done | rfl | (simp only [sm4, sm5]; rfl)) ?_; (with_reducible refine (r4Mul.calls k2 a0_0 a0_1 _ _ l0_2 x9_2 t253 t255 _ ?side1 ?side2 A21.out).mono ?_); (case side1 => exact cI HR0_2.out HB.out); (case side2 => exact HC0_2.out); rintro e w23 ⟨rfl, hb⟩; refine ⟨_, rfl, ?_⟩; have n0_ := Q9a.mk (kB (g := gb252) (o := .cells #[.int .i64 a0_0, .int .i64 a0_1, .slice A0_2 l0_2.length c0_2] 24 (0, 0)) (kI BK252.out) hb); have n1_ := Q9a.mk (bP (bJ HB.out GE252.out) hb); clear BK252; clear HB; have BK252 := n0_; have HB := n1_; clear n0_ n1_; (try clear hb); (try clear hb2); (try clear hk); (try clear hi)))
      go_roundg k2
      case measure => have := HJ8.out; have := HK2.out; omega
      case rel => exact ⟨(t255), (wrap64 (x10_2 + 1)), (by first | rfl | (simp; done) | (simp [*]; done)), (by first | rfl | (simp; done) | (simp [*]; done)), H', ⟨by have := HJ8.out; have := HK2.out; omega⟩, ⟨kI BK252.out⟩, ⟨bJ HB.out GE252.out⟩⟩
     rw [if_neg c20] at H;have c20b0 : decide (x10_2 < (Int.tmod (wrap64 ((Int.tmod a2 (wrap64 (t254 - 1))) + (wrap64 (t254 - 1)))) (wrap64 (t254 - 1)))) = false := decide_eq_false c20;clear c20;simp only [Option.some.injEq, Prod.mk.injEq] at H;obtain ⟨rfl, rfl⟩ := H;go_wp2
     go_ret2
     exact ⟨by first | rfl | (simp [*, eN, eS] <;> rfl), bJ HB.out GE252.out⟩
def r7Frobenius.l0 : Nat → Int → Int → Int → Int → Int → List Int → Option (Int)
 | 0, _, _, _, _, _, _ => none
 | k + 1, x1, x2, x7, x257000, x257001, x257002 => if x7 < x2 then ((r4Pow.f k x257000 x257001 x257002 x1 x257000).bind fun bt258 => (r7Frobenius.l0 k bt258.1 x2 (wrap64 (x7 + 1)) x257000 x257001 x257002)) else (some x1)
def r7Frobenius.f (k : Nat) (a0_0 : Int) (a0_1 : Int) (l0_2 : List Int) (a1 : Int) (a2 : Int) : Option (Int) := (r4In.f k a0_0 a0_1 l0_2 a1).bind fun t257 => (r7Frobenius.l0 k t257 a2 0 a0_0 a0_1 l0_2)
theorem r7Frobenius.calls (k : Nat) (a0_0 : Int) (a0_1 : Int) (A0_2 : Option Addr) (c0_2 : Nat) (l0_2 : List Int) (a1 : Int) (a2 : Int) (r : Int) (w : World) (hr0_2 : Kd.C (Kd.int .i64) w A0_2 l0_2.length l0_2) (hc0_2 : l0_2.length ≤ c0_2) (h : r7Frobenius.f k a0_0 a0_1 l0_2 a1 a2 = some r) :
  Calls Try.prog 43 #[.agg #[.int .i64 a0_0, .int .i64 a0_1, .slice A0_2 l0_2.length c0_2], .int .i64 a1, .int .i64 a2] w fun e w' => e = .returned (.int .i64 r) ∧ Below w.heap.size w w' := by
 have hu24 := Try.underlying24;have HR0_2 := Q9a.mk hr0_2;have HC0_2 := Q9a.mk hc0_2;clear hr0_2 hc0_2;have HB := Q9a.mk (Below.refl w.heap.size w);have H : ((r4In.f k a0_0 a0_1 l0_2 a1).bind fun t257 => (r7Frobenius.l0 k t257 a2 0 a0_0 a0_1 l0_2)) = some r := h;clear h;replace H := Option.bind_eq_some_iff.mp H;obtain ⟨t257, A40, H⟩ := H;replace H : (r7Frobenius.l0 k t257 a2 0 a0_0 a0_1 l0_2) = some r := H;have A4 := Q9a.mk A40;clear A40;have H' := Q9a.mk H;clear H;go_enter Try.func43, Try.ntmps43
 go_wp2_with (first | ((with_reducible refine gD (N := 3) rfl ?_); refine bE ?hg (N := 3) ?hd (cs := #[.int .i64 a0_0, .int .i64 a0_1, .slice A0_2 l0_2.length c0_2]) (t := 24) ?hr ?_; (case hd => rfl); (case hg => rfl); (case hr => first | (go_simp; done) | (go_simp; rfl)); intro gb256 hg w5 hbox hb; have n0_ := Q9a.mk (bP (bI HB.out) hb); have n1_ := Q9a.mk (hbox); have n2_ := Q9a.mk ((by rw [hg]; exact (bZ (bI HB.out)) : w.heap.size ≤ gb256)); have n3_ := n2_; clear HB; have HB := n0_; have BK256 := n1_; have GW256 := n2_; have GE256 := n3_; clear n0_ n1_ n2_ n3_; clear hb hbox hg; have hcz6_0 : w5.cell? ⟨gb256, 0, none⟩ = some (.int .i64 a0_0) := (kC BK256.out 0).trans rfl; have hcz6_1 : w5.cell? ⟨gb256, 1, none⟩ = some (.int .i64 a0_1) := (kC BK256.out 1).trans rfl; have hcz6_2 : w5.cell? ⟨gb256, 2, none⟩ = some (.slice A0_2 l0_2.length c0_2) := (kC BK256.out 2).trans rfl; have hfz6_0 := kF BK256.out 0; have hfz6_1 := kF BK256.out 1; have hfz6_2 := kF BK256.out 2) | ((with_reducible refine gC (f := 30) rfl ?_); refine gL (some 10) rfl rfl Try.func30 (by kernel_rfl) rfl #[.agg #[.int .i64 a0_0, .int .i64 a0_1, .slice A0_2 l0_2.length c0_2], .int .i64 a1] rfl (by (try simp only [sm1, sm2, sm3]); first | done | rfl | (simp only [sm4, sm5]; rfl)) ?_; (with_reducible refine (r4In.calls k a0_0 a0_1 _ _ l0_2 a1 t257 _ ?side1 ?side2 A4.out).mono ?_); (case side1 => exact cI HR0_2.out HB.out); (case side2 => exact HC0_2.out); rintro e w7 ⟨rfl, hb⟩; refine ⟨_, rfl, ?_⟩; have n0_ := Q9a.mk (kB (g := gb256) (o := .cells #[.int .i64 a0_0, .int .i64 a0_1, .slice A0_2 l0_2.length c0_2] 24 (0, 0)) (kI BK256.out) hb); have n1_ := Q9a.mk (bP (bJ HB.out GE256.out) hb); clear BK256; clear HB; have BK256 := n0_; have HB := n1_; clear n0_ n1_; (try clear hb); (try clear hb2); (try clear hk); (try clear hi)))
 go_loopg [1, 7] k (fun kq v1 v7 w' => ∃ (x1_1 : Int) (x7_1 : Int), v1 = .int .i64 x1_1 ∧ v7 = .int .i64 x7_1 ∧ Q9a (r7Frobenius.l0 kq x1_1 a2 x7_1 a0_0 a0_1 l0_2 = some r) ∧ Q9a (kq ≤ k) ∧ Q9a (w'.heap[gb256]? = some (.cells #[.int .i64 a0_0, .int .i64 a0_1, (.slice A0_2 l0_2.length c0_2)] 24 (0, 0))) ∧ Q9a (Below w.heap.size w w'))
 case atStart => exact ⟨(t257), (0), (by first | rfl | (simp; done) | (simp [*]; done)), (by first | rfl | (simp; done) | (simp [*]; done)), H', ⟨Nat.le_refl _⟩, ⟨kI BK256.out⟩, ⟨bJ HB.out GE256.out⟩⟩
 case round =>
  clear H';try clear p2
  try clear c3
  try clear c4
  try clear hcz6_0
  try clear hcz6_1
  try clear hcz6_2
  try clear hfz6_0
  try clear hfz6_1
  try clear hfz6_2
  obtain ⟨x1_1, x7_1, rfl, rfl, HA, HK1, BK256, HB⟩ := hrel
  cases gk with
  | zero => exact absurd HA.out (by simp [r7Frobenius.l0])
  | succ k1 =>
   have H := HA.out;clear HA;simp only [r7Frobenius.l0] at H;by_cases c8 : x7_1 < a2
   ·rw [if_pos c8] at H;have c8b0 : decide (x7_1 < a2) = true := decide_eq_true c8;clear c8;replace H := Option.bind_eq_some_iff.mp H;obtain ⟨⟨t258, t259⟩, A90, H⟩ := H;replace H : (r7Frobenius.l0 k1 t258 a2 (wrap64 (x7_1 + 1)) a0_0 a0_1 l0_2) = some r := H;have A9 := Q9a.mk A90;clear A90;have H' := Q9a.mk H;clear H;have hcz10_0 : wr.cell? ⟨gb256, 0, none⟩ = some (.int .i64 a0_0) := (kC BK256.out 0).trans rfl;have hcz10_1 : wr.cell? ⟨gb256, 1, none⟩ = some (.int .i64 a0_1) := (kC BK256.out 1).trans rfl;have hcz10_2 : wr.cell? ⟨gb256, 2, none⟩ = some (.slice A0_2 l0_2.length c0_2) := (kC BK256.out 2).trans rfl;have hfz10_0 := kF BK256.out 0;have hfz10_1 := kF BK256.out 1;have hfz10_2 := kF BK256.out 2;go_wp2_with (first | ((with_reducible refine gC (f := 71) rfl ?_); refine gL (some 21) rfl rfl Try.func71 (by kernel_rfl) rfl #[.agg #[.int .i64 a0_0, .int .i64 a0_1, .slice A0_2 l0_2.length c0_2], .int .i64 x1_1, .int .i64 a0_0] rfl (by (try simp only [sm1, sm2, sm3]); first | done | rfl | (simp only [sm4, sm5]; rfl)) ?_; (with_reducible refine (r4Pow.calls k1 a0_0 a0_1 _ _ l0_2 x1_1 a0_0 t258 t259 _ ?side1 ?side2 A9.out).mono ?_); (case side1 => exact cI HR0_2.out HB.out); (case side2 => exact HC0_2.out); rintro e w11 ⟨rfl, hb⟩; refine ⟨_, rfl, ?_⟩; have n0_ := Q9a.mk (kB (g := gb256) (o := .cells #[.int .i64 a0_0, .int .i64 a0_1, .slice A0_2 l0_2.length c0_2] 24 (0, 0)) (kI BK256.out) hb); have n1_ := Q9a.mk (bP (bJ HB.out GE256.out) hb); clear BK256; clear HB; have BK256 := n0_; have HB := n1_; clear n0_ n1_; (try clear hb); (try clear hb2); (try clear hk); (try clear hi)))
    go_roundg k1
    case measure => have := HK1.out; omega
    case rel => exact ⟨(t258), (wrap64 (x7_1 + 1)), (by first | rfl | (simp; done) | (simp [*]; done)), (by first | rfl | (simp; done) | (simp [*]; done)), H', ⟨by have := HK1.out; omega⟩, ⟨kI BK256.out⟩, ⟨bJ HB.out GE256.out⟩⟩
   rw [if_neg c8] at H;have c8b0 : decide (x7_1 < a2) = false := decide_eq_false c8;clear c8;obtain rfl := Option.some.inj H;go_wp2
   go_ret
   exact ⟨by first | rfl | (simp [*, eN, eS] <;> rfl), bJ HB.out GE256.out⟩
def r7In.f (k : Nat) (a0_0 : Int) (a0_1 : Int) (l0_2 : List Int) (a1 : Int) (a2 : Int) : Option (Bool) := (r7Frobenius.f k a0_0 a0_1 l0_2 a1 a2).bind fun t261 => ((r4In.f k a0_0 a0_1 l0_2 a1).bind fun t262 => (some (t261 == t262)))
def r7In.T1 : Bool × List (List Nat × List Nat) := (true, [([], []), ([], []), ([], []), ([0, 1, 2], [0, 1, 2]), ([], []), ([], []), ([4, 5, 3], [4, 5]), ([3, 6], [3, 6]), ([7, 6, 0, 1, 2, 3, 4, 5, 6, 7], [7])])
def r7In.B1 : List Nat := [0, 0, 0, 7, 0, 0, 63, 127, 255]
theorem r7In.tab1 : rtab .any (opsOf Try.f24 1) = r7In.T1 := by kernel_rfl
theorem r7In.bits1 : waitsOk r7In.T1.2 r7In.B1 = true := by kernel_rfl
theorem r7In.calls (k : Nat) (a0_0 : Int) (a0_1 : Int) (A0_2 : Option Addr) (c0_2 : Nat) (l0_2 : List Int) (a1 : Int) (a2 : Int) (r : Bool) (w : World) (hr0_2 : Kd.C (Kd.int .i64) w A0_2 l0_2.length l0_2) (hc0_2 : l0_2.length ≤ c0_2) (h : r7In.f k a0_0 a0_1 l0_2 a1 a2 = some r) :
  Calls Try.prog 24 #[.agg #[.int .i64 a0_0, .int .i64 a0_1, .slice A0_2 l0_2.length c0_2], .int .i64 a1, .int .i64 a2] w fun e w' => e = .returned (.bool r) ∧ Below w.heap.size w w' := by
 have hu24 := Try.underlying24;have HR0_2 := Q9a.mk hr0_2;have HC0_2 := Q9a.mk hc0_2;clear hr0_2 hc0_2;have HB := Q9a.mk (Below.refl w.heap.size w);have H : ((r7Frobenius.f k a0_0 a0_1 l0_2 a1 a2).bind fun t261 => ((r4In.f k a0_0 a0_1 l0_2 a1).bind fun t262 => (some (t261 == t262)))) = some r := h;clear h;replace H := Option.bind_eq_some_iff.mp H;obtain ⟨t261, A40, H⟩ := H;replace H : ((r4In.f k a0_0 a0_1 l0_2 a1).bind fun t262 => (some (t261 == t262))) = some r := H;have A4 := Q9a.mk A40;clear A40;replace H := Option.bind_eq_some_iff.mp H;obtain ⟨t262, A50, H⟩ := H;replace H : (some (t261 == t262)) = some r := H;have A5 := Q9a.mk A50;clear A50;obtain rfl := Option.some.inj H;go_enter Try.func24, Try.ntmps24
 try go_wp2_with (first | ((with_reducible refine gD (N := 3) rfl ?_); refine bE ?hg (N := 3) ?hd (cs := #[.int .i64 a0_0, .int .i64 a0_1, .slice A0_2 l0_2.length c0_2]) (t := 24) ?hr ?_; (case hd => rfl); (case hg => rfl); (case hr => first | (go_simp; done) | (go_simp; rfl)); intro gb260 hg w6 hbox hb; have n0_ := Q9a.mk (bP (bI HB.out) hb); have n1_ := Q9a.mk (hbox); have n2_ := Q9a.mk ((by rw [hg]; exact (bZ (bI HB.out)) : w.heap.size ≤ gb260)); have n3_ := n2_; clear HB; have HB := n0_; have BK260 := n1_; have GW260 := n2_; have GE260 := n3_; clear n0_ n1_ n2_ n3_; clear hb hbox hg))
 have n0_ := Q9a.mk (kD BK260.out);have n1_ := Q9a.mk (bD HB.out);clear BK260;clear HB;have BK260 := n0_;have HB := n1_;clear n0_ n1_;refine start_ (n := 9) (S := fun w' => w'.cell? ⟨gb260, 0, none⟩ = some (.int .i64 a0_0) ∧ w'.cell? ⟨gb260, 1, none⟩ = some (.int .i64 a0_1) ∧ w'.cell? ⟨gb260, 2, none⟩ = some (.slice A0_2 l0_2.length c0_2)) (ds := []) #[fB,fB,fB,fB,fB,fB,fB,fB,fB] (by kernel_rfl) rfl rfl ⟨(kC BK260.out 0).trans rfl, (kC BK260.out 1).trans rfl, (kC BK260.out 2).trans rfl⟩ (fun hHeld => ?_); refine with_tabW r7In.tab1 r7In.bits1 (fun HT_ HW_ => ?_);generalize w6.drew = w7 at BK260 HB hHeld ⊢;refine pT 1 8 rfl HT_.out ?_;refine pT 2 9 rfl HT_.out ?_;refine pT 5 12 rfl HT_.out ?_;refine tT 0 7 rfl HT_.out HW_.out hHeld ?_;refine tT 4 11 rfl HT_.out HW_.out hHeld ?_;refine oT 3 10 rfl HT_.out (fun K hK => ?_);refine goes_ Try.func43 (by kernel_rfl) rfl #[.agg #[.int .i64 a0_0, .int .i64 a0_1, .slice A0_2 l0_2.length c0_2], .int .i64 a1, .int .i64 a2] (by rfl) rfl rfl (by (try simp only [sm1, sm2, sm3]); first | done | rfl | (simp only [sm4, sm5]; rfl)) ?_;with_reducible refine (r7Frobenius.calls k a0_0 a0_1 _ _ l0_2 a1 a2 t261 _ ?side1 ?side2 A4.out).mono ?_
 (case side1 => exact cI HR0_2.out HB.out)
 (case side2 => exact HC0_2.out)
 rintro e w8 ⟨rfl, hb⟩;refine ⟨_, rfl, ?_⟩;have n0_ := Q9a.mk (kB (g := gb260) (o := .cells #[.int .i64 a0_0, .int .i64 a0_1, .slice A0_2 l0_2.length c0_2] 24 (0, 0)) (kI BK260.out) hb);have n1_ := Q9a.mk (bP (bJ HB.out GE260.out) hb);clear BK260;clear HB;have BK260 := n0_;have HB := n1_;clear n0_ n1_;refine hK.out _ _ ⟨(kC BK260.out 0).trans rfl, (kC BK260.out 1).trans rfl, (kC BK260.out 2).trans rfl⟩ (fun hHeld => ?_);clear hK K;refine norm_ (a' := ?_) ?_ ?_;rotate_left
 ·show Act.put _ (some 10) _ = _
  simp only [Act.put, sz1, sz2, sz3, i64_w, i32_w];rfl
 refine oT 6 13 rfl HT_.out (fun K hK => ?_);refine goes_ Try.func30 (by kernel_rfl) rfl #[.agg #[.int .i64 a0_0, .int .i64 a0_1, .slice A0_2 l0_2.length c0_2], .int .i64 a1] (by rfl) rfl rfl (by (try simp only [sm1, sm2, sm3]); first | done | rfl | (simp only [sm4, sm5]; rfl)) ?_;with_reducible refine (r4In.calls k a0_0 a0_1 _ _ l0_2 a1 t262 _ ?side1 ?side2 A5.out).mono ?_
 (case side1 => exact cI HR0_2.out HB.out)
 (case side2 => exact HC0_2.out)
 rintro e w9 ⟨rfl, hb⟩;refine ⟨_, rfl, ?_⟩;have n0_ := Q9a.mk (kB (g := gb260) (o := .cells #[.int .i64 a0_0, .int .i64 a0_1, .slice A0_2 l0_2.length c0_2] 24 (0, 0)) (kI BK260.out) hb);have n1_ := Q9a.mk (bP (bJ HB.out GE260.out) hb);clear BK260;clear HB;have BK260 := n0_;have HB := n1_;clear n0_ n1_;refine hK.out _ _ ⟨(kC BK260.out 0).trans rfl, (kC BK260.out 1).trans rfl, (kC BK260.out 2).trans rfl⟩ (fun hHeld => ?_);clear hK K;refine norm_ (a' := ?_) ?_ ?_;rotate_left
 ·show Act.put _ (some 13) _ = _
  simp only [Act.put, sz1, sz2, sz3, i64_w, i32_w];rfl
 refine pT 7 14 rfl HT_.out ?_;refine pT 8 6 rfl HT_.out ?_;refine done_ (done_of HT_.out (by kernel_rfl)) ?_;try go_wp2
 go_ret
 exact ⟨by first | rfl | (simp [*, eN, eS] <;> rfl), bJ HB.out GE260.out⟩
def r7Subfield.l0 : Nat → Int → List Int → Int → Int → Int → List Int → Option (List Int)
 | 0, _, _, _, _, _, _ => none
 | k + 1, x1, x5, x6, x264000, x264001, x264002 => (r4Order.f k x264000 x264001 x264002).bind fun t264 => (if x6 < t264 then ((r7In.f k x264000 x264001 x264002 x6 x1).bind fun t265 => (if t265 = true then (if x5.length < 17592186044416 then (r7Subfield.l0 k x1 (x5 ++ [x6]) (wrap64 (x6 + 1)) x264000 x264001 x264002) else (none)) else (r7Subfield.l0 k x1 x5 (wrap64 (x6 + 1)) x264000 x264001 x264002))) else (some x5))
def r7Subfield.f (k : Nat) (a0_0 : Int) (a0_1 : Int) (l0_2 : List Int) (a1 : Int) : Option (List Int) := r7Subfield.l0 k a1 ([] : List Int) 0 a0_0 a0_1 l0_2
theorem r7Subfield.calls (k : Nat) (a0_0 : Int) (a0_1 : Int) (A0_2 : Option Addr) (c0_2 : Nat) (l0_2 : List Int) (a1 : Int) (r : List Int) (w : World) (hr0_2 : Kd.C (Kd.int .i64) w A0_2 l0_2.length l0_2) (hc0_2 : l0_2.length ≤ c0_2) (h : r7Subfield.f k a0_0 a0_1 l0_2 a1 = some r) :
  Calls Try.prog 42 #[.agg #[.int .i64 a0_0, .int .i64 a0_1, .slice A0_2 l0_2.length c0_2], .int .i64 a1] w fun e w' => ∃ v0_ : Value, e = .returned (v0_) ∧ Kd.R (Kd.int .i64) 3 w' w.heap.size (fun _ => True) v0_ r ∧ Below w.heap.size w w' := by
 have hu24 := Try.underlying24;have HR0_2 := Q9a.mk hr0_2;have HC0_2 := Q9a.mk hc0_2;clear hr0_2 hc0_2;have HB := Q9a.mk (Below.refl w.heap.size w);have H : (r7Subfield.l0 k a1 ([] : List Int) 0 a0_0 a0_1 l0_2) = some r := h;clear h;have H' := Q9a.mk H;clear H;go_enter Try.func42, Try.ntmps42
 go_wp2_with (first | ((with_reducible refine gD (N := 2) rfl ?_); refine bE ?hg (N := 2) ?hd (cs := #[.int .i64 a0_0, .int .i64 a0_1, .slice A0_2 l0_2.length c0_2]) (t := 24) ?hr ?_; (case hd => rfl); (case hg => rfl); (case hr => first | (go_simp; done) | (go_simp; rfl)); intro gb263 hg w3 hbox hb; have n0_ := Q9a.mk (bP (bI HB.out) hb); have n1_ := Q9a.mk (hbox); have n2_ := Q9a.mk ((by rw [hg]; exact (bZ (bI HB.out)) : w.heap.size ≤ gb263)); have n3_ := n2_; clear HB; have HB := n0_; have BK263 := n1_; have GW263 := n2_; have GE263 := n3_; clear n0_ n1_ n2_ n3_; clear hb hbox hg))
 go_loopg [5, 6] k (fun kq v5 v6 w' => ∃ (x5_1 : List Int) (x6_1 : Int), v6 = .int .i64 x6_1 ∧ Q9a (r7Subfield.l0 kq a1 x5_1 x6_1 a0_0 a0_1 l0_2 = some r) ∧ Q9a (kq ≤ k) ∧ Q9a (Kd.R (Kd.int .i64) 3 w' w.heap.size (fun _ => True) v5 x5_1) ∧ Q9a (w'.heap[gb263]? = some (.cells #[.int .i64 a0_0, .int .i64 a0_1, (.slice A0_2 l0_2.length c0_2)] 24 (0, 0))) ∧ Q9a (Below w.heap.size w w'))
 case atStart => exact ⟨(([] : List Int)), (0), (by first | rfl | (simp; done) | (simp [*]; done)), H', ⟨Nat.le_refl _⟩, ⟨by first | exact Kd.R_nil _ _ _ _ _ | exact Kd.N_nil _ _ _ _ _ | exact Kd.V_nil _ _ _ _ _ | exact Kd.Q_nil _ _ _ _ _ | exact Kd.S_nil _ _ _ _ _⟩, ⟨kI BK263.out⟩, ⟨bJ HB.out GE263.out⟩⟩
 case round =>
  clear H';try clear p2
  obtain ⟨x5_1, x6_1, rfl, HA, HK1, HO_5, BK263, HB⟩ := hrel
  cases gk with
  | zero => exact absurd HA.out (by simp [r7Subfield.l0])
  | succ k1 =>
   have H := HA.out;clear HA;simp only [r7Subfield.l0] at H;replace H := Option.bind_eq_some_iff.mp H;obtain ⟨t264, A40, H⟩ := H;replace H : (if x6_1 < t264 then ((r7In.f k1 a0_0 a0_1 l0_2 x6_1 a1).bind fun t265 => (if t265 = true then (if x5_1.length < 17592186044416 then (r7Subfield.l0 k1 a1 (x5_1 ++ [x6_1]) (wrap64 (x6_1 + 1)) a0_0 a0_1 l0_2) else (none)) else (r7Subfield.l0 k1 a1 x5_1 (wrap64 (x6_1 + 1)) a0_0 a0_1 l0_2))) else (some x5_1)) = some r := H;have A4 := Q9a.mk A40;clear A40;by_cases c5 : x6_1 < t264
   ·rw [if_pos c5] at H;have c5b0 : decide (x6_1 < t264) = true := decide_eq_true c5;clear c5;replace H := Option.bind_eq_some_iff.mp H;obtain ⟨t265, A60, H⟩ := H;replace H : (if t265 = true then (if x5_1.length < 17592186044416 then (r7Subfield.l0 k1 a1 (x5_1 ++ [x6_1]) (wrap64 (x6_1 + 1)) a0_0 a0_1 l0_2) else (none)) else (r7Subfield.l0 k1 a1 x5_1 (wrap64 (x6_1 + 1)) a0_0 a0_1 l0_2)) = some r := H;have A6 := Q9a.mk A60;clear A60;by_cases c7 : t265 = true
    ·subst c7;have H1 : (if x5_1.length < 17592186044416 then (r7Subfield.l0 k1 a1 (x5_1 ++ [x6_1]) (wrap64 (x6_1 + 1)) a0_0 a0_1 l0_2) else (none)) = some r := by rw [if_pos rfl] at H; exact H
     clear H;have H := H1;clear H1;by_cases c8 : x5_1.length < 17592186044416
     ·rw [if_pos c8] at H;have LMc8 := Q9a.mk c8;clear c8;obtain ⟨y266, hy266⟩ : ∃ y_ : List Int, y_ = (x5_1 ++ [x6_1]) := ⟨_, rfl⟩;replace H : (r7Subfield.l0 k1 a1 y266 (wrap64 (x6_1 + 1)) a0_0 a0_1 l0_2) = some r := by first | (rw [hy266]; with_reducible exact H) | (have H2_ := (Option.bind_some _ _).symm.trans H; rw [hy266]; with_reducible exact H2_) | (have H2_ := (Option.bind_some _ _).symm.trans H; with_reducible exact H2_) | with_reducible exact H | (rw [hy266]; exact H) | exact H
      have Ny266 := Q9a.mk hy266;clear hy266;have H' := Q9a.mk H;clear H;have hcz9_0 : wr.cell? ⟨gb263, 0, none⟩ = some (.int .i64 a0_0) := (kC BK263.out 0).trans rfl;have hcz9_1 : wr.cell? ⟨gb263, 1, none⟩ = some (.int .i64 a0_1) := (kC BK263.out 1).trans rfl;have hcz9_2 : wr.cell? ⟨gb263, 2, none⟩ = some (.slice A0_2 l0_2.length c0_2) := (kC BK263.out 2).trans rfl;have hfz9_0 := kF BK263.out 0;have hfz9_1 := kF BK263.out 1;have hfz9_2 := kF BK263.out 2;go_wp2_with (first | ((with_reducible refine gC (f := 29) rfl ?_); refine gL (some 9) rfl rfl Try.func29 (by kernel_rfl) rfl #[.agg #[.int .i64 a0_0, .int .i64 a0_1, .slice A0_2 l0_2.length c0_2]] rfl (by (try simp only [sm1, sm2, sm3]); first | done | rfl | (simp only [sm4, sm5]; rfl)) ?_; (with_reducible refine (r4Order.calls k1 a0_0 a0_1 _ _ l0_2 t264 _ ?side1 ?side2 A4.out).mono ?_); (case side1 => exact cI HR0_2.out HB.out); (case side2 => exact HC0_2.out); rintro e w10 ⟨rfl, hb⟩; refine ⟨_, rfl, ?_⟩; have n0_ := Q9a.mk (Kd.R_below (rI HO_5.out) hb); have n1_ := Q9a.mk (kB (g := gb263) (o := .cells #[.int .i64 a0_0, .int .i64 a0_1, .slice A0_2 l0_2.length c0_2] 24 (0, 0)) (kI BK263.out) hb); have n2_ := Q9a.mk (bP (bJ HB.out GE263.out) hb); clear HO_5; clear BK263; clear HB; have HO_5 := n0_; have BK263 := n1_; have HB := n2_; clear n0_ n1_ n2_; have hcz11_0 : w10.cell? ⟨gb263, 0, none⟩ = some (.int .i64 a0_0) := (kC BK263.out 0).trans rfl; have hcz11_1 : w10.cell? ⟨gb263, 1, none⟩ = some (.int .i64 a0_1) := (kC BK263.out 1).trans rfl; have hcz11_2 : w10.cell? ⟨gb263, 2, none⟩ = some (.slice A0_2 l0_2.length c0_2) := (kC BK263.out 2).trans rfl; have hfz11_0 := kF BK263.out 0; have hfz11_1 := kF BK263.out 1; have hfz11_2 := kF BK263.out 2) | ((with_reducible refine gC (f := 24) rfl ?_); refine gL (some 16) rfl rfl Try.func24 (by kernel_rfl) rfl #[.agg #[.int .i64 a0_0, .int .i64 a0_1, .slice A0_2 l0_2.length c0_2], .int .i64 x6_1, .int .i64 a1] rfl (by (try simp only [sm1, sm2, sm3]); first | done | rfl | (simp only [sm4, sm5]; rfl)) ?_; (with_reducible refine (r7In.calls k1 a0_0 a0_1 _ _ l0_2 x6_1 a1 true _ ?side1 ?side2 A6.out).mono ?_); (case side1 => exact cI HR0_2.out HB.out); (case side2 => exact HC0_2.out); rintro e w12 ⟨rfl, hb⟩; refine ⟨_, rfl, ?_⟩; have n0_ := Q9a.mk (Kd.R_below (rI HO_5.out) hb); have n1_ := Q9a.mk (kB (g := gb263) (o := .cells #[.int .i64 a0_0, .int .i64 a0_1, .slice A0_2 l0_2.length c0_2] 24 (0, 0)) (kI BK263.out) hb); have n2_ := Q9a.mk (bP (bJ HB.out GE263.out) hb); clear HO_5; clear BK263; clear HB; have HO_5 := n0_; have BK263 := n1_; have HB := n2_; clear n0_ n1_ n2_; (try clear hb); (try clear hb2); (try clear hk); (try clear hi)) | ((with_reducible refine gate_builtin (b := .append) (xs := #[.tmp 17, .tmp 19]) rfl ?_); at_builtin; refine Kd.R_append (Kd.int .i64) (w0 := w) w.heap.size rfl (.tmp 17) (.tmp 19) 22 3 (.int .i64 0) 8 rfl Try.underlying22 info3 rfl (by decide) (by omega) u5 x5_1 x6_1 [.int .i64 x6_1] (fun _ => True) (fun _ => False) rfl rfl ?aP (fun _ hk => hk.elim) ?aF ?aO ?aB ?aS ?aL ?_; (case aP => exact rfl); (case aB => exact (bJ HB.out GE263.out)); (case aF => exact (fun _ _ => trivial)); (case aO => exact (rI HO_5.out)); (case aS => exact (bZ (bJ HB.out GE263.out))); (case aL => have := LMc8.out; omega); intro v267 w13 ho hb hg hat; rw [← Ny266.out] at ho; have n0_ := Q9a.mk (blk_grown (g := gb263) (o := .cells #[.int .i64 a0_0, .int .i64 a0_1, .slice A0_2 l0_2.length c0_2] 24 (0, 0)) (kI BK263.out) hg (Kd.R_ne HO_5.out BK263.out (by decide))); have n1_ := Q9a.mk (hb); have n2_ := Q9a.mk (ho); clear BK263; clear HB; clear HO_5; have BK263 := n0_; have HB := n1_; have HO268 := n2_; clear n0_ n1_ n2_; clear ho hb hg hat))
      go_roundg k1
      case measure => have := HK1.out; omega
      case rel => exact ⟨(y266), (wrap64 (x6_1 + 1)), (by first | rfl | (simp; done) | (simp [*]; done)), H', ⟨by have := HK1.out; omega⟩, ⟨rI HO268.out⟩, ⟨kI BK263.out⟩, ⟨bJ HB.out GE263.out⟩⟩
     rw [if_neg c8] at H;exact absurd H (by simp)
    replace c7 := Bool.eq_false_iff.mpr c7;subst c7;have H1 : (r7Subfield.l0 k1 a1 x5_1 (wrap64 (x6_1 + 1)) a0_0 a0_1 l0_2) = some r := by rw [if_neg (show ¬ (false = true) by decide)] at H; exact H
    clear H;have H := H1;clear H1;have H' := Q9a.mk H;clear H;have hcz14_0 : wr.cell? ⟨gb263, 0, none⟩ = some (.int .i64 a0_0) := (kC BK263.out 0).trans rfl;have hcz14_1 : wr.cell? ⟨gb263, 1, none⟩ = some (.int .i64 a0_1) := (kC BK263.out 1).trans rfl;have hcz14_2 : wr.cell? ⟨gb263, 2, none⟩ = some (.slice A0_2 l0_2.length c0_2) := (kC BK263.out 2).trans rfl;have hfz14_0 := kF BK263.out 0;have hfz14_1 := kF BK263.out 1;have hfz14_2 := kF BK263.out 2;go_wp2_with (first | ((with_reducible refine gC (f := 29) rfl ?_); refine gL (some 9) rfl rfl Try.func29 (by kernel_rfl) rfl #[.agg #[.int .i64 a0_0, .int .i64 a0_1, .slice A0_2 l0_2.length c0_2]] rfl (by (try simp only [sm1, sm2, sm3]); first | done | rfl | (simp only [sm4, sm5]; rfl)) ?_; (with_reducible refine (r4Order.calls k1 a0_0 a0_1 _ _ l0_2 t264 _ ?side1 ?side2 A4.out).mono ?_); (case side1 => exact cI HR0_2.out HB.out); (case side2 => exact HC0_2.out); rintro e w15 ⟨rfl, hb⟩; refine ⟨_, rfl, ?_⟩; have n0_ := Q9a.mk (Kd.R_below (rI HO_5.out) hb); have n1_ := Q9a.mk (kB (g := gb263) (o := .cells #[.int .i64 a0_0, .int .i64 a0_1, .slice A0_2 l0_2.length c0_2] 24 (0, 0)) (kI BK263.out) hb); have n2_ := Q9a.mk (bP (bJ HB.out GE263.out) hb); clear HO_5; clear BK263; clear HB; have HO_5 := n0_; have BK263 := n1_; have HB := n2_; clear n0_ n1_ n2_; have hcz16_0 : w15.cell? ⟨gb263, 0, none⟩ = some (.int .i64 a0_0) := (kC BK263.out 0).trans rfl; have hcz16_1 : w15.cell? ⟨gb263, 1, none⟩ = some (.int .i64 a0_1) := (kC BK263.out 1).trans rfl; have hcz16_2 : w15.cell? ⟨gb263, 2, none⟩ = some (.slice A0_2 l0_2.length c0_2) := (kC BK263.out 2).trans rfl; have hfz16_0 := kF BK263.out 0; have hfz16_1 := kF BK263.out 1; have hfz16_2 := kF BK263.out 2) | ((with_reducible refine gC (f := 24) rfl ?_); refine gL (some 16) rfl rfl Try.func24 (by kernel_rfl) rfl #[.agg #[.int .i64 a0_0, .int .i64 a0_1, .slice A0_2 l0_2.length c0_2], .int .i64 x6_1, .int .i64 a1] rfl (by (try simp only [sm1, sm2, sm3]); first | done | rfl | (simp only [sm4, sm5]; rfl)) ?_; (with_reducible refine (r7In.calls k1 a0_0 a0_1 _ _ l0_2 x6_1 a1 false _ ?side1 ?side2 A6.out).mono ?_); (case side1 => exact cI HR0_2.out HB.out); (case side2 => exact HC0_2.out); rintro e w17 ⟨rfl, hb⟩; refine ⟨_, rfl, ?_⟩; have n0_ := Q9a.mk (Kd.R_below (rI HO_5.out) hb); have n1_ := Q9a.mk (kB (g := gb263) (o := .cells #[.int .i64 a0_0, .int .i64 a0_1, .slice A0_2 l0_2.length c0_2] 24 (0, 0)) (kI BK263.out) hb); have n2_ := Q9a.mk (bP (bJ HB.out GE263.out) hb); clear HO_5; clear BK263; clear HB; have HO_5 := n0_; have BK263 := n1_; have HB := n2_; clear n0_ n1_ n2_; (try clear hb); (try clear hb2); (try clear hk); (try clear hi)))
    go_roundg k1
    case measure => have := HK1.out; omega
    case rel => exact ⟨(x5_1), (wrap64 (x6_1 + 1)), (by first | rfl | (simp; done) | (simp [*]; done)), H', ⟨by have := HK1.out; omega⟩, ⟨rI HO_5.out⟩, ⟨kI BK263.out⟩, ⟨bJ HB.out GE263.out⟩⟩
   rw [if_neg c5] at H;have c5b0 : decide (x6_1 < t264) = false := decide_eq_false c5;clear c5;obtain rfl := Option.some.inj H;have hcz18_0 : wr.cell? ⟨gb263, 0, none⟩ = some (.int .i64 a0_0) := (kC BK263.out 0).trans rfl;have hcz18_1 : wr.cell? ⟨gb263, 1, none⟩ = some (.int .i64 a0_1) := (kC BK263.out 1).trans rfl;have hcz18_2 : wr.cell? ⟨gb263, 2, none⟩ = some (.slice A0_2 l0_2.length c0_2) := (kC BK263.out 2).trans rfl;have hfz18_0 := kF BK263.out 0;have hfz18_1 := kF BK263.out 1;have hfz18_2 := kF BK263.out 2;go_wp2_with (first | ((with_reducible refine gC (f := 29) rfl ?_); refine gL (some 9) rfl rfl Try.func29 (by kernel_rfl) rfl #[.agg #[.int .i64 a0_0, .int .i64 a0_1, .slice A0_2 l0_2.length c0_2]] rfl (by (try simp only [sm1, sm2, sm3]); first | done | rfl | (simp only [sm4, sm5]; rfl)) ?_; (with_reducible refine (r4Order.calls k1 a0_0 a0_1 _ _ l0_2 t264 _ ?side1 ?side2 A4.out).mono ?_); (case side1 => exact cI HR0_2.out HB.out); (case side2 => exact HC0_2.out); rintro e w19 ⟨rfl, hb⟩; refine ⟨_, rfl, ?_⟩; have n0_ := Q9a.mk (Kd.R_below (rI HO_5.out) hb); have n1_ := Q9a.mk (kB (g := gb263) (o := .cells #[.int .i64 a0_0, .int .i64 a0_1, .slice A0_2 l0_2.length c0_2] 24 (0, 0)) (kI BK263.out) hb); have n2_ := Q9a.mk (bP (bJ HB.out GE263.out) hb); clear HO_5; clear BK263; clear HB; have HO_5 := n0_; have BK263 := n1_; have HB := n2_; clear n0_ n1_ n2_; (try clear hb); (try clear hb2); (try clear hk); (try clear hi)))
   go_ret
   exact ⟨_, by first | rfl | (simp [*, eN, eS] <;> rfl), rI HO_5.out, bJ HB.out GE263.out⟩
end
end Go.Proofs.Ytlbddjojhcgpiaa.P
end
-- Pa8
section
namespace Go.Proofs.Ytlbddjojhcgpiaa.P
noncomputable section
open Go.RowKit Go.Proofs.Ytlbddjojhcgpiaa.Hand Go.Proofs.YtlbddjojhcgpiaaW.PrintWords Go.Proofs.YtlbddjojhcgpiaaW.PrintLast Go.Proofs.YtlbddjojhcgpiaaW.PrintMore
set_option linter.unusedVariables false
set_option linter.unusedSimpArgs false
mutual
def r7IsBasis.j0 : Nat → List Int → Int → Bool → Int → Int → List Int → Option (Bool)
 | 0, _, _, _, _, _, _ => none
 | k + 1, x1, x2, x27, x270000, x270001, x270002 => if x27 = true then (some false) else ((r7Subfield.f k x270000 x270001 x270002 x2).bind fun t271 => (r7IsBasis.l0 k x1 t271 (([0] : List Int)) 0 x270000 x270001 x270002))
def r7IsBasis.l0 : Nat → List Int → List Int → List Int → Int → Int → Int → List Int → Option (Bool)
 | 0, _, _, _, _, _, _, _ => none
 | k + 1, x1, x7, x8, x9, x270000, x270001, x270002 => if x9 < (x1.length : Int) then (r7IsBasis.l1 k x1 x7 x8 x9 ([] : List Int) 0 x270000 x270001 x270002) else ((r4Order.f k x270000 x270001 x270002).bind fun t285 => (if 0 ≤ t285 then (if (t285 : Int).toNat ≤ 281474976710656 then (r7IsBasis.l3 k x8 (List.replicate (t285 : Int).toNat false) 0) else (none)) else (none)))
def r7IsBasis.l1 : Nat → List Int → List Int → List Int → Int → List Int → Int → Int → Int → List Int → Option (Bool)
 | 0, _, _, _, _, _, _, _, _, _ => none
 | k + 1, x1, x7, x8, x9, x10, x11, x270000, x270001, x270002 => if x11 < (x8.length : Int) then (r7IsBasis.l2 k x1 x7 x8 x9 x10 x11 0 x270000 x270001 x270002) else (r7IsBasis.l0 k x1 x7 x10 (wrap64 (x9 + 1)) x270000 x270001 x270002)
def r7IsBasis.l2 : Nat → List Int → List Int → List Int → Int → List Int → Int → Int → Int → Int → List Int → Option (Bool)
 | 0, _, _, _, _, _, _, _, _, _, _ => none
 | k + 1, x1, x7, x8, x9, x10, x11, x12, x270000, x270001, x270002 => if x12 < (x7.length : Int) then (if 0 ≤ x11 then (if x11 < (x8.length : Int) then (if 0 ≤ x12 then (if 0 ≤ x9 then (if x9 < (x1.length : Int) then ((r4Mul.f k x270000 x270001 x270002 (rd x7 x12) (rd x1 x9)).bind fun t280 => ((r4Add.f k x270000 x270001 x270002 (rd x8 x11) t280).bind fun t281 => (if x10.length < 17592186044416 then (r7IsBasis.l2 k x1 x7 x8 x9 (x10 ++ [t281]) x11 (wrap64 (x12 + 1)) x270000 x270001 x270002) else (none)))) else (none)) else (none)) else (none)) else (none)) else (none)) else (r7IsBasis.l1 k x1 x7 x8 x9 x10 (wrap64 (x11 + 1)) x270000 x270001 x270002)
def r7IsBasis.l3 : Nat → List Int → List Bool → Int → Option (Bool)
 | 0, _, _, _ => none
 | k + 1, x8, x13, x14 => if x14 < (x8.length : Int) then (if 0 ≤ x14 then (if 0 ≤ (rd x8 x14) then (if (rd x8 x14) < (x13.length : Int) then (if rdOf false x13 (rd x8 x14) = true then (some false) else (r7IsBasis.l3 k x8 (x13.set ((rd x8 x14) : Int).toNat true) (wrap64 (x14 + 1)))) else (none)) else (none)) else (none)) else (some true)
end
def r7IsBasis.f (k : Nat) (a0_0 : Int) (a0_1 : Int) (l0_2 : List Int) (l1 : List Int) (a2 : Int) : Option (Bool) := (r7Divides.f a0_0 a0_1 l0_2 a2).bind fun t270 => (if t270 = true then (if a2 = 0 then (none) else (r7IsBasis.j0 k l1 a2 ((l1.length : Int) != (wrap64 (Int.tdiv a0_1 a2))) a0_0 a0_1 l0_2)) else (r7IsBasis.j0 k l1 a2 true a0_0 a0_1 l0_2))
def r7IsBasis.T15 : Bool × List (List Nat × List Nat) := (true, [([], []), ([], []), ([], []), ([], []), ([2, 3], [2, 3]), ([4], [4]), ([], []), ([], []), ([], []), ([7, 8], [7, 8]), ([9], [9]), ([], []), ([], []), ([11, 12], [11, 12]), ([13], [13]), ([6, 10, 14], [6, 10, 14]), ([1, 5, 15, 15], [1, 5, 15]), ([16], [16]), ([0, 17, 16], [0, 17]), ([18, 18, 0, 1, 2, 3, 4, 5, 6, 7, 8, 9, 10, 11, 12, 13, 14, 15, 16, 17, 18], [0, 18])])
def r7IsBasis.B15 : List Nat := [0, 0, 0, 0, 12, 28, 0, 0, 0, 384, 896, 0, 0, 6144, 14336, 32704, 65534, 131070, 262143, 524287]
theorem r7IsBasis.tab15 : rtab .any (opsOf Try.f14 15) = r7IsBasis.T15 := by kernel_rfl
theorem r7IsBasis.bits15 : waitsOk r7IsBasis.T15.2 r7IsBasis.B15 = true := by kernel_rfl
theorem r7IsBasis.calls (k : Nat) (a0_0 : Int) (a0_1 : Int) (A0_2 : Option Addr) (c0_2 : Nat) (l0_2 : List Int) (A1 : Option Addr) (c1 : Nat) (l1 : List Int) (a2 : Int) (r : Bool) (w : World) (hr0_2 : Kd.C (Kd.int .i64) w A0_2 l0_2.length l0_2) (hc0_2 : l0_2.length ≤ c0_2) (hr1 : Kd.C (Kd.int .i64) w A1 l1.length l1) (hc1 : l1.length ≤ c1) (h : r7IsBasis.f k a0_0 a0_1 l0_2 l1 a2 = some r) :
  Calls Try.prog 14 #[.agg #[.int .i64 a0_0, .int .i64 a0_1, .slice A0_2 l0_2.length c0_2], .slice A1 l1.length c1, .int .i64 a2] w fun e w' => e = .returned (.bool r) ∧ Below w.heap.size w w' := by
 have hu24 := Try.underlying24;have HR0_2 := Q9a.mk hr0_2;have HC0_2 := Q9a.mk hc0_2;clear hr0_2 hc0_2;have HR1 := Q9a.mk hr1;have HC1 := Q9a.mk hc1;clear hr1 hc1;have HB := Q9a.mk (Below.refl w.heap.size w);have H : ((r7Divides.f a0_0 a0_1 l0_2 a2).bind fun t270 => (if t270 = true then (if a2 = 0 then (none) else (r7IsBasis.j0 k l1 a2 ((l1.length : Int) != (wrap64 (Int.tdiv a0_1 a2))) a0_0 a0_1 l0_2)) else (r7IsBasis.j0 k l1 a2 true a0_0 a0_1 l0_2))) = some r := h;clear h;have HC4 := Q9a.mk H;clear H;go_enter Try.func14, Try.ntmps14
 go_upto_region 1 with (first | ((with_reducible refine gD (N := 3) rfl ?_); (try (refine gG (by rfl) ?_; dsimp only)); refine bE ?hg (N := 3) ?hd (cs := #[.int .i64 a0_0, .int .i64 a0_1, .slice A0_2 l0_2.length c0_2]) (t := 24) ?hr ?_; (case hd => rfl); (case hg => rfl); (case hr => first | (go_simp; done) | (go_simp; rfl)); intro gb269 hg w5 hbox hb; have n0_ := Q9a.mk (bP (bI HB.out) hb); have n1_ := Q9a.mk (hbox); have n2_ := Q9a.mk ((by rw [hg]; exact (bZ (bI HB.out)) : w.heap.size ≤ gb269)); have n3_ := n2_; clear HB; have HB := n0_; have BK269 := n1_; have GW269 := n2_; have GE269 := n3_; clear n0_ n1_ n2_ n3_; clear hb hbox hg))
 (try simp only [Act.put, sz1, sz2, sz3])
 go_cut [27] (fun v27 wc => ∃ (kq : Nat) (x27_3 : Bool), v27 = .bool x27_3 ∧ Q9a (r7IsBasis.j0 kq l1 a2 x27_3 a0_0 a0_1 l0_2 = some r) ∧ Q9a (kq ≤ k) ∧ Q9a (wc.heap[gb269]? = some (.cells #[.int .i64 a0_0, .int .i64 a0_1, (.slice A0_2 l0_2.length c0_2)] 24 (0, 0))) ∧ Q9a (Below w.heap.size w wc))
 case first =>
  have H := HC4.out;clear HC4;replace H := Option.bind_eq_some_iff.mp H;obtain ⟨t270, A60, H⟩ := H;replace H : (if t270 = true then (if a2 = 0 then (none) else (r7IsBasis.j0 k l1 a2 ((l1.length : Int) != (wrap64 (Int.tdiv a0_1 a2))) a0_0 a0_1 l0_2)) else (r7IsBasis.j0 k l1 a2 true a0_0 a0_1 l0_2)) = some r := H;have A6 := Q9a.mk A60;clear A60;by_cases c7 : t270 = true
  ·subst c7;have H1 : (if a2 = 0 then (none) else (r7IsBasis.j0 k l1 a2 ((l1.length : Int) != (wrap64 (Int.tdiv a0_1 a2))) a0_0 a0_1 l0_2)) = some r := by rw [if_pos rfl] at H; exact H
   clear H;have H := H1;clear H1;by_cases c8 : a2 = 0
   ·rw [if_pos c8] at H;exact absurd H (by simp)
   rw [if_neg c8] at H;have c8b0 : (a2 == 0) = false := beq_eq_false_iff_ne.mpr c8;have c8b1 : (a2 != 0) = true := bne_iff_ne.mpr c8;(first | rw [c8b0] | (simp only [i64_w, i32_w]; rw [c8b0]) | skip)
   have H' := Q9a.mk H;clear H;have hcz9_0 : w5.cell? ⟨gb269, 0, none⟩ = some (.int .i64 a0_0) := (kC BK269.out 0).trans rfl;have hcz9_1 : w5.cell? ⟨gb269, 1, none⟩ = some (.int .i64 a0_1) := (kC BK269.out 1).trans rfl;have hcz9_2 : w5.cell? ⟨gb269, 2, none⟩ = some (.slice A0_2 l0_2.length c0_2) := (kC BK269.out 2).trans rfl;have hfz9_0 := kF BK269.out 0;have hfz9_1 := kF BK269.out 1;have hfz9_2 := kF BK269.out 2;go_wp2_with (first | ((with_reducible refine gC (f := 13) rfl ?_); refine gL (some 17) rfl rfl Try.func13 (by kernel_rfl) rfl #[.agg #[.int .i64 a0_0, .int .i64 a0_1, .slice A0_2 l0_2.length c0_2], .int .i64 a2] rfl (by (try simp only [sm1, sm2, sm3]); first | done | rfl | (simp only [sm4, sm5]; rfl)) ?_; (with_reducible refine (r7Divides.calls a0_0 a0_1 _ _ l0_2 a2 true _ ?side1 ?side2 A6.out).mono ?_); (case side1 => exact cI HR0_2.out HB.out); (case side2 => exact HC0_2.out); rintro e w10 ⟨rfl, hb⟩; refine ⟨_, rfl, ?_⟩; have n0_ := Q9a.mk (kB (g := gb269) (o := .cells #[.int .i64 a0_0, .int .i64 a0_1, .slice A0_2 l0_2.length c0_2] 24 (0, 0)) (kI BK269.out) hb); have n1_ := Q9a.mk (bP (bJ HB.out GE269.out) hb); clear BK269; clear HB; have BK269 := n0_; have HB := n1_; clear n0_ n1_; have hcz11_0 : w10.cell? ⟨gb269, 0, none⟩ = some (.int .i64 a0_0) := (kC BK269.out 0).trans rfl; have hcz11_1 : w10.cell? ⟨gb269, 1, none⟩ = some (.int .i64 a0_1) := (kC BK269.out 1).trans rfl; have hcz11_2 : w10.cell? ⟨gb269, 2, none⟩ = some (.slice A0_2 l0_2.length c0_2) := (kC BK269.out 2).trans rfl; have hfz11_0 := kF BK269.out 0; have hfz11_1 := kF BK269.out 1; have hfz11_2 := kF BK269.out 2))
   go_meet
   case rel => exact ⟨_, (((l1.length : Int) != (wrap64 (Int.tdiv a0_1 a2)))), (by first | rfl | (simp; done) | (simp [*]; done)), H', ⟨by first | omega | exact Nat.le_refl _⟩, ⟨kI BK269.out⟩, ⟨bJ HB.out GE269.out⟩⟩
  replace c7 := Bool.eq_false_iff.mpr c7;subst c7;have H1 : (r7IsBasis.j0 k l1 a2 true a0_0 a0_1 l0_2) = some r := by rw [if_neg (show ¬ (false = true) by decide)] at H; exact H
  clear H;have H := H1;clear H1;have H' := Q9a.mk H;clear H;have hcz12_0 : w5.cell? ⟨gb269, 0, none⟩ = some (.int .i64 a0_0) := (kC BK269.out 0).trans rfl;have hcz12_1 : w5.cell? ⟨gb269, 1, none⟩ = some (.int .i64 a0_1) := (kC BK269.out 1).trans rfl;have hcz12_2 : w5.cell? ⟨gb269, 2, none⟩ = some (.slice A0_2 l0_2.length c0_2) := (kC BK269.out 2).trans rfl;have hfz12_0 := kF BK269.out 0;have hfz12_1 := kF BK269.out 1;have hfz12_2 := kF BK269.out 2;go_wp2_with (first | ((with_reducible refine gC (f := 13) rfl ?_); refine gL (some 17) rfl rfl Try.func13 (by kernel_rfl) rfl #[.agg #[.int .i64 a0_0, .int .i64 a0_1, .slice A0_2 l0_2.length c0_2], .int .i64 a2] rfl (by (try simp only [sm1, sm2, sm3]); first | done | rfl | (simp only [sm4, sm5]; rfl)) ?_; (with_reducible refine (r7Divides.calls a0_0 a0_1 _ _ l0_2 a2 false _ ?side1 ?side2 A6.out).mono ?_); (case side1 => exact cI HR0_2.out HB.out); (case side2 => exact HC0_2.out); rintro e w13 ⟨rfl, hb⟩; refine ⟨_, rfl, ?_⟩; have n0_ := Q9a.mk (kB (g := gb269) (o := .cells #[.int .i64 a0_0, .int .i64 a0_1, .slice A0_2 l0_2.length c0_2] 24 (0, 0)) (kI BK269.out) hb); have n1_ := Q9a.mk (bP (bJ HB.out GE269.out) hb); clear BK269; clear HB; have BK269 := n0_; have HB := n1_; clear n0_ n1_; (try clear hb); (try clear hb2); (try clear hk); (try clear hi)))
  go_meet
  case rel => exact ⟨_, (true), (by first | rfl | (simp; done) | (simp [*]; done)), H', ⟨by first | omega | exact Nat.le_refl _⟩, ⟨kI BK269.out⟩, ⟨bJ HB.out GE269.out⟩⟩
 case rest =>
  clear HC4;try clear c1
  try clear p2
  try clear p6
  try clear c7
  try clear c8
  try clear c8b0
  try clear c8b1
  try clear c13
  try clear hcz11_0
  try clear hcz11_1
  try clear hcz11_2
  try clear hcz12_0
  try clear hcz12_1
  try clear hcz12_2
  try clear hcz9_0
  try clear hcz9_1
  try clear hcz9_2
  try clear hfz11_0
  try clear hfz11_1
  try clear hfz11_2
  try clear hfz12_0
  try clear hfz12_1
  try clear hfz12_2
  try clear hfz9_0
  try clear hfz9_1
  try clear hfz9_2
  obtain ⟨kq, x27_3, rfl, HA, HJ3, BK269, HB⟩ := hcut
  cases kq with
  | zero => exact absurd HA.out (by simp [r7IsBasis.j0])
  | succ kj3 =>
   have H := HA.out;clear HA;simp only [r7IsBasis.j0] at H;by_cases c14 : x27_3 = true
   ·subst c14;have H1 : (some false) = some r := by rw [if_pos rfl] at H; exact H
    clear H;have H := H1;clear H1;obtain rfl := Option.some.inj H;go_wp2
    go_ret
    exact ⟨by first | rfl | (simp [*, eN, eS] <;> rfl), bJ HB.out GE269.out⟩
   replace c14 := Bool.eq_false_iff.mpr c14;subst c14;have H1 : ((r7Subfield.f kj3 a0_0 a0_1 l0_2 a2).bind fun t271 => (r7IsBasis.l0 kj3 l1 t271 (([0] : List Int)) 0 a0_0 a0_1 l0_2)) = some r := by rw [if_neg (show ¬ (false = true) by decide)] at H; exact H
   clear H;have H := H1;clear H1;replace H := Option.bind_eq_some_iff.mp H;obtain ⟨t271, A150, H⟩ := H;replace H : (r7IsBasis.l0 kj3 l1 t271 (([0] : List Int)) 0 a0_0 a0_1 l0_2) = some r := H;have A15 := Q9a.mk A150;clear A150;obtain ⟨y274, hy274⟩ : ∃ y_ : List Int, y_ = (([0] : List Int)) := ⟨_, rfl⟩;replace H : (r7IsBasis.l0 kj3 l1 t271 y274 0 a0_0 a0_1 l0_2) = some r := by first | (rw [hy274]; with_reducible exact H) | (have H2_ := (Option.bind_some _ _).symm.trans H; rw [hy274]; with_reducible exact H2_) | (have H2_ := (Option.bind_some _ _).symm.trans H; with_reducible exact H2_) | with_reducible exact H | (rw [hy274]; exact H) | exact H
   have Ny274 := Q9a.mk hy274;clear hy274;have H' := Q9a.mk H;clear H;have hcz16_0 : wc.cell? ⟨gb269, 0, none⟩ = some (.int .i64 a0_0) := (kC BK269.out 0).trans rfl;have hcz16_1 : wc.cell? ⟨gb269, 1, none⟩ = some (.int .i64 a0_1) := (kC BK269.out 1).trans rfl;have hcz16_2 : wc.cell? ⟨gb269, 2, none⟩ = some (.slice A0_2 l0_2.length c0_2) := (kC BK269.out 2).trans rfl;have hfz16_0 := kF BK269.out 0;have hfz16_1 := kF BK269.out 1;have hfz16_2 := kF BK269.out 2;go_wp2_with (first | ((with_reducible refine gC (f := 42) rfl ?_); refine gL (some 30) rfl rfl Try.func42 (by kernel_rfl) rfl #[.agg #[.int .i64 a0_0, .int .i64 a0_1, .slice A0_2 l0_2.length c0_2], .int .i64 a2] rfl (by (try simp only [sm1, sm2, sm3]); first | done | rfl | (simp only [sm4, sm5]; rfl)) ?_; (with_reducible refine (r7Subfield.calls kj3 a0_0 a0_1 _ _ l0_2 a2 t271 _ ?side1 ?side2 A15.out).mono ?_); (case side1 => exact cI HR0_2.out HB.out); (case side2 => exact HC0_2.out); rintro e w17 ⟨v272, rfl, ho0, hb⟩; refine ⟨_, rfl, ?_⟩; have n0_ := Q9a.mk (Kd.rL ho0 (bZ (bJ HB.out GE269.out))); have n1_ := Q9a.mk (kB (g := gb269) (o := .cells #[.int .i64 a0_0, .int .i64 a0_1, .slice A0_2 l0_2.length c0_2] 24 (0, 0)) (kI BK269.out) hb); have n2_ := Q9a.mk (bP (bJ HB.out GE269.out) hb); clear BK269; clear HB; have HO273 := n0_; have BK269 := n1_; have HB := n2_; clear n0_ n1_ n2_; (try clear ho0)) | ((with_reducible refine gD (N := 31) rfl ?_); (try (refine gG (by rfl) ?_; dsimp only)); refine Kd.R_lit (Kd.int .i64) _ 3 ?hg (N := 31) ?hd (xs := ([0] : List Int)) (inner := [.int .i64 0]) (ok := fun _ => True) (okp := fun _ => True) ?hr ?hp (fun _ hk => hk) trivial (Below.refl _ _) (Nat.le_refl _) (by simp) ?_; (case hd => rfl); (case hg => rfl); (case hr => first | (go_simp; done) | (go_simp; rfl)); (case hp => exact (Reps.one (show Kd.M (Kd.int .i64) _ _ _ 0 [.int .i64 0] from rfl) (Reps.none _ _))); intro v275 w18 ho19 hb hg_ hnew_; clear hg_ hnew_; (first | rw [← Ny274.out] at ho19 | (simp only [Int.reduceToNat] at ho19; rw [← Ny274.out] at ho19)); have n0_ := Q9a.mk (Kd.R_elder' (rI HO273.out) (Kd.R_base ho19) hb); have n1_ := Q9a.mk (Kd.rL (Kd.R_new' ho19 (Kd.R_lt (rI HO273.out))) (bZ (bJ HB.out GE269.out))); have n2_ := Q9a.mk (kB (g := gb269) (o := .cells #[.int .i64 a0_0, .int .i64 a0_1, .slice A0_2 l0_2.length c0_2] 24 (0, 0)) (kI BK269.out) hb); have n3_ := Q9a.mk (bP (bJ HB.out GE269.out) hb); clear HO273; clear BK269; clear HB; have HO273 := n0_; have HO276 := n1_; have BK269 := n2_; have HB := n3_; clear n0_ n1_ n2_ n3_; clear hb ho19))
   go_loopg [8, 9] kj3 (fun kq v8 v9 w' => ∃ (x8_2 : List Int) (x9_2 : Int), v9 = .int .i64 x9_2 ∧ Q9a (r7IsBasis.l0 kq l1 t271 x8_2 x9_2 a0_0 a0_1 l0_2 = some r) ∧ Q9a (kq ≤ kj3) ∧ Q9a (Kd.R (Kd.int .i64) 3 w' w.heap.size (fun k_ => some k_ ≠ (v8 : Value).ownBlock) v272 t271) ∧ Q9a (Kd.R (Kd.int .i64) 3 w' w.heap.size (fun k_ => some k_ ≠ (v272 : Value).ownBlock) v8 x8_2) ∧ Q9a (w'.heap[gb269]? = some (.cells #[.int .i64 a0_0, .int .i64 a0_1, (.slice A0_2 l0_2.length c0_2)] 24 (0, 0))) ∧ Q9a (Below w.heap.size w w'))
   case atStart => exact ⟨(y274), (0), (by first | rfl | (simp; done) | (simp [*]; done)), H', ⟨Nat.le_refl _⟩, ⟨by (with_reducible repeat (first | apply Kd.rA | apply Kd.rN | apply Kd.rD)); exact Kd.R_mono HO273.out (fun _ hk => hk.2)⟩, ⟨by (with_reducible repeat (first | apply Kd.rA | apply Kd.rN | apply Kd.rD)); exact Kd.R_mono HO276.out (fun _ hk => hk.2)⟩, ⟨kI BK269.out⟩, ⟨bJ HB.out GE269.out⟩⟩
   case round =>
    clear H';try clear c1
    try clear p2
    try clear c4
    try clear p6
    try clear c7
    try clear c8
    try clear c8b0
    try clear c8b1
    try clear c13
    try clear c14
    try clear hcz11_0
    try clear hcz11_1
    try clear hcz11_2
    try clear hcz12_0
    try clear hcz12_1
    try clear hcz12_2
    try clear hcz16_0
    try clear hcz16_1
    try clear hcz16_2
    try clear hcz9_0
    try clear hcz9_1
    try clear hcz9_2
    try clear hfz11_0
    try clear hfz11_1
    try clear hfz11_2
    try clear hfz12_0
    try clear hfz12_1
    try clear hfz12_2
    try clear hfz16_0
    try clear hfz16_1
    try clear hfz16_2
    try clear hfz9_0
    try clear hfz9_1
    try clear hfz9_2
    try clear p2
    try clear p6
    obtain ⟨x8_2, x9_2, rfl, HA, HK2, HO_7, HO_8, BK269, HB⟩ := hrel
    cases gk with
    | zero => exact absurd HA.out (by simp [r7IsBasis.l0])
    | succ k2 =>
     have H := HA.out;clear HA;simp only [r7IsBasis.l0] at H;by_cases c20 : x9_2 < (l1.length : Int)
     ·rw [if_pos c20] at H;have c20b0 : decide (x9_2 < (l1.length : Int)) = true := decide_eq_true c20;clear c20;have H' := Q9a.mk H;clear H;go_wp2
      go_loopg [10, 11] k2 (fun kq v10 v11 w' => ∃ (x10_3 : List Int) (x11_3 : Int), v11 = .int .i64 x11_3 ∧ Q9a (r7IsBasis.l1 kq l1 t271 x8_2 x9_2 x10_3 x11_3 a0_0 a0_1 l0_2 = some r) ∧ Q9a (kq ≤ k2) ∧ Q9a (Kd.R (Kd.int .i64) 3 w' w.heap.size (fun k_ => some k_ ≠ (u8 : Value).ownBlock ∧ some k_ ≠ (v10 : Value).ownBlock) v272 t271) ∧ Q9a (Kd.R (Kd.int .i64) 3 w' w.heap.size (fun k_ => some k_ ≠ (v272 : Value).ownBlock ∧ some k_ ≠ (v10 : Value).ownBlock) u8 x8_2) ∧ Q9a (Kd.R (Kd.int .i64) 3 w' w.heap.size (fun k_ => some k_ ≠ (v272 : Value).ownBlock ∧ some k_ ≠ (u8 : Value).ownBlock) v10 x10_3) ∧ Q9a (w'.heap[gb269]? = some (.cells #[.int .i64 a0_0, .int .i64 a0_1, (.slice A0_2 l0_2.length c0_2)] 24 (0, 0))) ∧ Q9a (Below w.heap.size w w'))
      case atStart => exact ⟨(([] : List Int)), (0), (by first | rfl | (simp; done) | (simp [*]; done)), H', ⟨Nat.le_refl _⟩, ⟨by (with_reducible repeat (first | apply Kd.rA | apply Kd.rN | apply Kd.rD)); exact Kd.R_mono HO_7.out (fun _ hk => ⟨hk, (by simp [Value.ownBlock])⟩)⟩, ⟨by (with_reducible repeat (first | apply Kd.rA | apply Kd.rN | apply Kd.rD)); exact Kd.R_mono HO_8.out (fun _ hk => ⟨hk, (by simp [Value.ownBlock])⟩)⟩, ⟨by first | exact Kd.R_nil _ _ _ _ _ | exact Kd.N_nil _ _ _ _ _ | exact Kd.V_nil _ _ _ _ _ | exact Kd.Q_nil _ _ _ _ _ | exact Kd.S_nil _ _ _ _ _⟩, ⟨kI BK269.out⟩, ⟨bJ HB.out GE269.out⟩⟩
      case round =>
       clear H';try clear c1
       try clear c2
       try clear p2
       try clear c4
       try clear p6
       try clear c7
       try clear c8
       try clear c8b0
       try clear c8b1
       try clear c13
       try clear c14
       try clear c20
       try clear c20b0
       try clear hcz11_0
       try clear hcz11_1
       try clear hcz11_2
       try clear hcz12_0
       try clear hcz12_1
       try clear hcz12_2
       try clear hcz16_0
       try clear hcz16_1
       try clear hcz16_2
       try clear hcz9_0
       try clear hcz9_1
       try clear hcz9_2
       try clear hfz11_0
       try clear hfz11_1
       try clear hfz11_2
       try clear hfz12_0
       try clear hfz12_1
       try clear hfz12_2
       try clear hfz16_0
       try clear hfz16_1
       try clear hfz16_2
       try clear hfz9_0
       try clear hfz9_1
       try clear hfz9_2
       try clear p2
       try clear p6
       obtain ⟨x10_3, x11_3, rfl, HA, HK3, HO_7, HO_8, HO_10, BK269, HB⟩ := hrel
       cases gk with
       | zero => exact absurd HA.out (by simp [r7IsBasis.l1])
       | succ k3 =>
        have H := HA.out;clear HA;simp only [r7IsBasis.l1] at H;by_cases c21 : x11_3 < (x8_2.length : Int)
        ·rw [if_pos c21] at H;have c21b0 : decide (x11_3 < (x8_2.length : Int)) = true := decide_eq_true c21;clear c21;have H' := Q9a.mk H;clear H;obtain ⟨Ao22, co22, eo22⟩ := Kd.R_slice HO_8.out;subst eo22;go_wp2
         go_loopg [10, 12] k3 (fun kq v10 v12 w' => ∃ (x10_4 : List Int) (x12_4 : Int), v12 = .int .i64 x12_4 ∧ Q9a (r7IsBasis.l2 kq l1 t271 x8_2 x9_2 x10_4 x11_3 x12_4 a0_0 a0_1 l0_2 = some r) ∧ Q9a (kq ≤ k3) ∧ Q9a (Kd.R (Kd.int .i64) 3 w' w.heap.size (fun k_ => some k_ ≠ ((.slice Ao22 x8_2.length co22) : Value).ownBlock ∧ some k_ ≠ (v10 : Value).ownBlock) v272 t271) ∧ Q9a (Kd.R (Kd.int .i64) 3 w' w.heap.size (fun k_ => some k_ ≠ (v272 : Value).ownBlock ∧ some k_ ≠ (v10 : Value).ownBlock) (.slice Ao22 x8_2.length co22) x8_2) ∧ Q9a (Kd.R (Kd.int .i64) 3 w' w.heap.size (fun k_ => some k_ ≠ (v272 : Value).ownBlock ∧ some k_ ≠ ((.slice Ao22 x8_2.length co22) : Value).ownBlock) v10 x10_4) ∧ Q9a (w'.heap[gb269]? = some (.cells #[.int .i64 a0_0, .int .i64 a0_1, (.slice A0_2 l0_2.length c0_2)] 24 (0, 0))) ∧ Q9a (Below w.heap.size w w'))
         case atStart => exact ⟨(x10_3), (0), (by first | rfl | (simp; done) | (simp [*]; done)), H', ⟨Nat.le_refl _⟩, ⟨rI HO_7.out⟩, ⟨rI HO_8.out⟩, ⟨rI HO_10.out⟩, ⟨kI BK269.out⟩, ⟨bJ HB.out GE269.out⟩⟩
         case round =>
          clear H';try clear c1
          try clear c2
          try clear p2
          try clear c4
          try clear p6
          try clear c7
          try clear c8
          try clear c8b0
          try clear c8b1
          try clear c13
          try clear c14
          try clear c20
          try clear c20b0
          try clear c21
          try clear c21b0
          try clear hcz11_0
          try clear hcz11_1
          try clear hcz11_2
          try clear hcz12_0
          try clear hcz12_1
          try clear hcz12_2
          try clear hcz16_0
          try clear hcz16_1
          try clear hcz16_2
          try clear hcz9_0
          try clear hcz9_1
          try clear hcz9_2
          try clear hfz11_0
          try clear hfz11_1
          try clear hfz11_2
          try clear hfz12_0
          try clear hfz12_1
          try clear hfz12_2
          try clear hfz16_0
          try clear hfz16_1
          try clear hfz16_2
          try clear hfz9_0
          try clear hfz9_1
          try clear hfz9_2
          try clear p2
          try clear p6
          obtain ⟨x10_4, x12_4, rfl, HA, HK4, HO_7, HO_8, HO_10, BK269, HB⟩ := hrel
          cases gk with
          | zero => exact absurd HA.out (by simp [r7IsBasis.l2])
          | succ k4 =>
           have H := HA.out;clear HA;simp only [r7IsBasis.l2] at H;by_cases c23 : x12_4 < (t271.length : Int)
           ·rw [if_pos c23] at H;have c23b0 : decide (x12_4 < (t271.length : Int)) = true := decide_eq_true c23;clear c23;by_cases c24 : 0 ≤ x11_3
            ·rw [if_pos c24] at H;have c24b0 : decide (0 ≤ x11_3) = true := decide_eq_true c24;clear c24;by_cases c25 : x11_3 < (x8_2.length : Int)
             ·rw [if_pos c25] at H;have c25b0 : decide (x11_3 < (x8_2.length : Int)) = true := decide_eq_true c25;clear c25;by_cases c26 : 0 ≤ x12_4
              ·rw [if_pos c26] at H;have c26b0 : decide (0 ≤ x12_4) = true := decide_eq_true c26;clear c26;by_cases c27 : 0 ≤ x9_2
               ·rw [if_pos c27] at H;have c27b0 : decide (0 ≤ x9_2) = true := decide_eq_true c27;clear c27;by_cases c28 : x9_2 < (l1.length : Int)
                ·rw [if_pos c28] at H;have c28b0 : decide (x9_2 < (l1.length : Int)) = true := decide_eq_true c28;clear c28;replace H := Option.bind_eq_some_iff.mp H;obtain ⟨t280, A290, H⟩ := H;replace H : ((r4Add.f k4 a0_0 a0_1 l0_2 (rd x8_2 x11_3) t280).bind fun t281 => (if x10_4.length < 17592186044416 then (r7IsBasis.l2 k4 l1 t271 x8_2 x9_2 (x10_4 ++ [t281]) x11_3 (wrap64 (x12_4 + 1)) a0_0 a0_1 l0_2) else (none))) = some r := H;have A29 := Q9a.mk A290;clear A290;replace H := Option.bind_eq_some_iff.mp H;obtain ⟨t281, A300, H⟩ := H;replace H : (if x10_4.length < 17592186044416 then (r7IsBasis.l2 k4 l1 t271 x8_2 x9_2 (x10_4 ++ [t281]) x11_3 (wrap64 (x12_4 + 1)) a0_0 a0_1 l0_2) else (none)) = some r := H;have A30 := Q9a.mk A300;clear A300;by_cases c31 : x10_4.length < 17592186044416
                 ·rw [if_pos c31] at H;have LMc31 := Q9a.mk c31;clear c31;obtain ⟨y282, hy282⟩ : ∃ y_ : List Int, y_ = (x10_4 ++ [t281]) := ⟨_, rfl⟩;replace H : (r7IsBasis.l2 k4 l1 t271 x8_2 x9_2 y282 x11_3 (wrap64 (x12_4 + 1)) a0_0 a0_1 l0_2) = some r := by first | (rw [hy282]; with_reducible exact H) | (have H2_ := (Option.bind_some _ _).symm.trans H; rw [hy282]; with_reducible exact H2_) | (have H2_ := (Option.bind_some _ _).symm.trans H; with_reducible exact H2_) | with_reducible exact H | (rw [hy282]; exact H) | exact H
                  have Ny282 := Q9a.mk hy282;clear hy282;have H' := Q9a.mk H;clear H;obtain ⟨Ao32, co32, eo32⟩ := Kd.R_slice HO_7.out;subst eo32;try go_wp2
                  have n0_ := Q9a.mk (Kd.rD HO_7.out);have n1_ := Q9a.mk (Kd.rD HO_8.out);have n2_ := Q9a.mk (Kd.rD HO_10.out);have n3_ := Q9a.mk (kD BK269.out);have n4_ := Q9a.mk (bD HB.out);clear HO_7;clear HO_8;clear HO_10;clear BK269;clear HB;have HO_7 := n0_;have HO_8 := n1_;have HO_10 := n2_;have BK269 := n3_;have HB := n4_;clear n0_ n1_ n2_ n3_ n4_;have p277 : 0 ≤ (x11_3 : Int) := of_decide_eq_true (by first | (with_reducible assumption) | assumption);have q277 : x11_3 < (x8_2.length : Int) := of_decide_eq_true (by first | (with_reducible assumption) | assumption);obtain ⟨ad277, e277, hx277_0⟩ := Kd.at_int (Kd.R_reads' HO_8.out).2.2 x11_3 p277 q277
                  cases e277
                  replace p277 := eq_true p277;replace q277 := eq_true q277;have p278 : 0 ≤ (x12_4 : Int) := of_decide_eq_true (by first | (with_reducible assumption) | assumption);have q278 : x12_4 < (t271.length : Int) := of_decide_eq_true (by first | (with_reducible assumption) | assumption);obtain ⟨ad278, e278, hx278_0⟩ := Kd.at_int (Kd.R_reads' HO_7.out).2.2 x12_4 p278 q278
                  cases e278
                  replace p278 := eq_true p278;replace q278 := eq_true q278;have p279 : 0 ≤ (x9_2 : Int) := of_decide_eq_true (by first | (with_reducible assumption) | assumption);have q279 : x9_2 < (l1.length : Int) := of_decide_eq_true (by first | (with_reducible assumption) | assumption);obtain ⟨ad279, e279, hx279_0⟩ := Kd.at_int HR1.out x9_2 p279 q279;have hw279_0 := hx279_0
                  cases e279
                  replace hx279_0 := (HB.out.cell (World.block_lt_of_cell? w _ hx279_0)).trans hx279_0;replace p279 := eq_true p279;replace q279 := eq_true q279;refine start_ (n := 20) (S := fun w' => w'.cell? ⟨gb269, 0, none⟩ = some (.int .i64 a0_0) ∧ w'.cell? ⟨gb269, 1, none⟩ = some (.int .i64 a0_1) ∧ w'.cell? ⟨gb269, 2, none⟩ = some (.slice A0_2 l0_2.length c0_2) ∧ w'.cell? (ad277.add (x11_3).toNat) = some (.int .i64 (rd x8_2 x11_3)) ∧ w'.cell? (ad278.add (x12_4).toNat) = some (.int .i64 (rd t271 x12_4)) ∧ w'.cell? (ad279.add (x9_2).toNat) = some (.int .i64 (rd l1 x9_2))) (ds := [17, 18]) #[fB,fB,fB,fB,fB,fB,fB,fB,fB,fB,fB,fB,fB,fB,fB,fB,fB,fB,fB,fB] (by kernel_rfl) rfl rfl ⟨(kC BK269.out 0).trans rfl, (kC BK269.out 1).trans rfl, (kC BK269.out 2).trans rfl, hx277_0, hx278_0, ((HB.out.cell (World.block_lt_of_cell? w _ hw279_0)).trans hw279_0)⟩ (fun hHeld => ?_); refine with_tabW r7IsBasis.tab15 r7IsBasis.bits15 (fun HT_ HW_ => ?_);generalize wr.drew = w33 at HO_7 HO_8 HO_10 BK269 HB hx277_0 hx278_0 hx279_0 hHeld ⊢;refine pT 0 50 rfl HT_.out ?_;refine pT 2 52 rfl HT_.out ?_;refine pT 3 53 rfl HT_.out ?_;refine pT 4 54 rfl HT_.out ?_;refine pT 7 57 rfl HT_.out ?_;refine pT 8 58 rfl HT_.out ?_;refine pT 9 59 rfl HT_.out ?_;refine pT 11 61 rfl HT_.out ?_;refine pT 12 62 rfl HT_.out ?_;refine pT 13 63 rfl HT_.out ?_;refine tT 1 51 rfl HT_.out HW_.out hHeld ?_;refine tT 5 55 rfl HT_.out HW_.out hHeld ?_;refine tT 6 56 rfl HT_.out HW_.out hHeld ?_;refine tT 10 60 rfl HT_.out HW_.out hHeld ?_;refine tT 14 64 rfl HT_.out HW_.out hHeld ?_;refine oT 15 65 rfl HT_.out (fun K hK => ?_);refine goes_ Try.func16 (by kernel_rfl) rfl #[.agg #[.int .i64 a0_0, .int .i64 a0_1, .slice A0_2 l0_2.length c0_2], .int .i64 (rd t271 x12_4), .int .i64 (rd l1 x9_2)] (by rfl) rfl rfl (by (try simp only [sm1, sm2, sm3]); first | done | rfl | (simp only [sm4, sm5]; rfl)) ?_;with_reducible refine (r4Mul.calls k4 a0_0 a0_1 _ _ l0_2 (rd t271 x12_4) (rd l1 x9_2) t280 _ ?side1 ?side2 A29.out).mono ?_
                  (case side1 => exact cI HR0_2.out HB.out)
                  (case side2 => exact HC0_2.out)
                  rintro e w34 ⟨rfl, hb⟩;have HS3_ := (hb.cell (World.block_lt_of_cell? _ _ (hHeld.2.2.2.1))).trans (hHeld.2.2.2.1);have HS4_ := (hb.cell (World.block_lt_of_cell? _ _ (hHeld.2.2.2.2.1))).trans (hHeld.2.2.2.2.1);refine ⟨_, rfl, ?_⟩;have n0_ := Q9a.mk (Kd.R_below (rI HO_7.out) hb);have n1_ := Q9a.mk (Kd.R_below (rI HO_8.out) hb);have n2_ := Q9a.mk (Kd.R_below (rI HO_10.out) hb);have n3_ := Q9a.mk (kB (g := gb269) (o := .cells #[.int .i64 a0_0, .int .i64 a0_1, .slice A0_2 l0_2.length c0_2] 24 (0, 0)) (kI BK269.out) hb);have n4_ := Q9a.mk (bP (bJ HB.out GE269.out) hb);clear HO_7;clear HO_8;clear HO_10;clear BK269;clear HB;have HO_7 := n0_;have HO_8 := n1_;have HO_10 := n2_;have BK269 := n3_;have HB := n4_;clear n0_ n1_ n2_ n3_ n4_;refine hK.out _ _ ⟨(kC BK269.out 0).trans rfl, (kC BK269.out 1).trans rfl, (kC BK269.out 2).trans rfl, HS3_, HS4_, ((HB.out.cell (World.block_lt_of_cell? w _ hw279_0)).trans hw279_0)⟩ (fun hHeld => ?_);clear hK K;refine norm_ (a' := ?_) ?_ ?_;rotate_left
                  ·show Act.put _ (some 65) _ = _
                   simp only [Act.put, sz1, sz2, sz3, i64_w, i32_w];rfl
                  refine oT 16 66 rfl HT_.out (fun K hK => ?_);refine goes_ Try.func31 (by kernel_rfl) rfl #[.agg #[.int .i64 a0_0, .int .i64 a0_1, .slice A0_2 l0_2.length c0_2], .int .i64 (rd x8_2 x11_3), .int .i64 t280] (by rfl) rfl rfl (by (try simp only [sm1, sm2, sm3]); first | done | rfl | (simp only [sm4, sm5]; rfl)) ?_;with_reducible refine (r4Add.calls k4 a0_0 a0_1 _ _ l0_2 (rd x8_2 x11_3) t280 t281 _ ?side1 ?side2 A30.out).mono ?_
                  (case side1 => exact cI HR0_2.out HB.out)
                  (case side2 => exact HC0_2.out)
                  rintro e w35 ⟨rfl, hb⟩;have HS3_ := (hb.cell (World.block_lt_of_cell? _ _ (hHeld.2.2.2.1))).trans (hHeld.2.2.2.1);have HS4_ := (hb.cell (World.block_lt_of_cell? _ _ (hHeld.2.2.2.2.1))).trans (hHeld.2.2.2.2.1);refine ⟨_, rfl, ?_⟩;have n0_ := Q9a.mk (Kd.R_below (rI HO_7.out) hb);have n1_ := Q9a.mk (Kd.R_below (rI HO_8.out) hb);have n2_ := Q9a.mk (Kd.R_below (rI HO_10.out) hb);have n3_ := Q9a.mk (kB (g := gb269) (o := .cells #[.int .i64 a0_0, .int .i64 a0_1, .slice A0_2 l0_2.length c0_2] 24 (0, 0)) (kI BK269.out) hb);have n4_ := Q9a.mk (bP (bJ HB.out GE269.out) hb);clear HO_7;clear HO_8;clear HO_10;clear BK269;clear HB;have HO_7 := n0_;have HO_8 := n1_;have HO_10 := n2_;have BK269 := n3_;have HB := n4_;clear n0_ n1_ n2_ n3_ n4_;refine hK.out _ _ ⟨(kC BK269.out 0).trans rfl, (kC BK269.out 1).trans rfl, (kC BK269.out 2).trans rfl, HS3_, HS4_, ((HB.out.cell (World.block_lt_of_cell? w _ hw279_0)).trans hw279_0)⟩ (fun hHeld => ?_);clear hK K;refine norm_ (a' := ?_) ?_ ?_;rotate_left
                  ·show Act.put _ (some 66) _ = _
                   simp only [Act.put, sz1, sz2, sz3, i64_w, i32_w];rfl
                  refine last_ (i := 17) (N := some 67) #[tB,tB,tB,tB,tB,tB,tB,tB,tB,tB,tB,tB,tB,tB,tB,tB,tB,tB,fB,fB] rfl rfl (one_of HT_.out (by kernel_rfl)) (by decide) (fun K hK => ?_);refine value_ (w1 := ?_) (v := ?_) (by rfl) rfl ?_ ?_;rotate_left 2
                  ·go_simp;constructor
                   ·rfl
                   rfl
                  refine hK.out _ _ ?_;clear hK K;refine norm_ (a' := ?_) ?_ ?_;rotate_left
                  ·show Act.put _ (some 67) _ = _
                   simp only [Act.put, sz1, sz2, sz3, i64_w, i32_w];rfl
                  refine last_ (i := 18) (N := some 68) #[tB,tB,tB,tB,tB,tB,tB,tB,tB,tB,tB,tB,tB,tB,tB,tB,tB,tB,tB,fB] rfl rfl (one_of HT_.out (by kernel_rfl)) (by decide) (fun K hK => ?_);refine Kd.R_append_step (Kd.int .i64) (w0 := w) w.heap.size (by rfl) (.tmp 50) (.tmp 67) 22 3 (.int .i64 0) 8 rfl Try.underlying22 info3 rfl (by decide) (by omega) u10 x10_4 t281 [.int .i64 t281] (fun k_ => some k_ ≠ (.slice (some ad278) t271.length co32 : Value).ownBlock ∧ some k_ ≠ (.slice (some ad277) x8_2.length co22 : Value).ownBlock) (fun _ => False) rfl rfl ?aP (fun _ hk => hk.elim) ?aF ?aO ?aB ?aS ?aL ?_;(case aP => exact rfl)
                  (case aB => exact (bJ HB.out GE269.out))
                  (case aF => exact (fun k_ hk => ⟨Kd.fresh' (Kd.R_lt (rI HO_7.out)) k_ hk, Kd.fresh' (Kd.R_lt (rI HO_8.out)) k_ hk⟩))
                  (case aO => exact (rI HO_10.out))
                  (case aS => exact (bZ (bJ HB.out GE269.out)))
                  (case aL => have := LMc31.out; omega)
                  intro v283 w36 ho hb hg hat;rw [← Ny282.out] at ho;have n0_ := Q9a.mk (Kd.R_after (ok := (fun k_ => some k_ ≠ (.slice (some ad277) x8_2.length co22 : Value).ownBlock)) (rI HO_7.out) hg hat);have n1_ := Q9a.mk (Kd.R_after (ok := (fun k_ => some k_ ≠ (.slice (some ad278) t271.length co32 : Value).ownBlock)) (rI HO_8.out) hg hat);have n2_ := Q9a.mk (blk_grown (g := gb269) (o := .cells #[.int .i64 a0_0, .int .i64 a0_1, .slice A0_2 l0_2.length c0_2] 24 (0, 0)) (kI BK269.out) hg (Kd.R_ne HO_10.out BK269.out (by decide)));have n3_ := Q9a.mk (hb);have n4_ := Q9a.mk (ho);clear HO_7;clear HO_8;clear BK269;clear HB;clear HO_10;have HO_7 := n0_;have HO_8 := n1_;have BK269 := n2_;have HB := n3_;have HO284 := n4_;clear n0_ n1_ n2_ n3_ n4_;clear ho hb hg hat;refine hK.out _ _ ?_;clear hK K;refine norm_ (a' := ?_) ?_ ?_;rotate_left
                  ·show Act.put _ (some 68) _ = _
                   simp only [Act.put, sz1, sz2, sz3, i64_w, i32_w];rfl
                  refine pT 19 10 rfl HT_.out ?_;refine done_ (done_of HT_.out (by kernel_rfl)) ?_;try go_wp2
                  go_roundg k4
                  case measure => have := HJ3.out; have := HK2.out; have := HK3.out; have := HK4.out; omega
                  case rel => exact ⟨(y282), (wrap64 (x12_4 + 1)), (by first | rfl | (simp; done) | (simp [*]; done)), H', ⟨by have := HJ3.out; have := HK2.out; have := HK3.out; have := HK4.out; omega⟩, ⟨rI HO_7.out⟩, ⟨rI HO_8.out⟩, ⟨rI HO284.out⟩, ⟨kI BK269.out⟩, ⟨bJ HB.out GE269.out⟩⟩
                 rw [if_neg c31] at H;exact absurd H (by simp)
                rw [if_neg c28] at H;exact absurd H (by simp)
               rw [if_neg c27] at H;exact absurd H (by simp)
              rw [if_neg c26] at H;exact absurd H (by simp)
             rw [if_neg c25] at H;exact absurd H (by simp)
            rw [if_neg c24] at H;exact absurd H (by simp)
           rw [if_neg c23] at H;have c23b0 : decide (x12_4 < (t271.length : Int)) = false := decide_eq_false c23;clear c23;have H' := Q9a.mk H;clear H;obtain ⟨Ao37, co37, eo37⟩ := Kd.R_slice HO_7.out;subst eo37;go_wp2
           go_roundg k4
           case measure => have := HJ3.out; have := HK2.out; have := HK3.out; have := HK4.out; omega
           case rel => exact ⟨(x10_4), (wrap64 (x11_3 + 1)), (by first | rfl | (simp; done) | (simp [*]; done)), H', ⟨by have := HJ3.out; have := HK2.out; have := HK3.out; have := HK4.out; omega⟩, ⟨rI HO_7.out⟩, ⟨rI HO_8.out⟩, ⟨rI HO_10.out⟩, ⟨kI BK269.out⟩, ⟨bJ HB.out GE269.out⟩⟩
        rw [if_neg c21] at H;have c21b0 : decide (x11_3 < (x8_2.length : Int)) = false := decide_eq_false c21;clear c21;have H' := Q9a.mk H;clear H;obtain ⟨Ao38, co38, eo38⟩ := Kd.R_slice HO_8.out;subst eo38;go_wp2
        go_roundg k3
        case measure => have := HJ3.out; have := HK2.out; have := HK3.out; omega
        case rel => exact ⟨(x10_3), (wrap64 (x9_2 + 1)), (by first | rfl | (simp; done) | (simp [*]; done)), H', ⟨by have := HJ3.out; have := HK2.out; have := HK3.out; omega⟩, ⟨by (with_reducible repeat (first | apply Kd.rA | apply Kd.rN | apply Kd.rD)); exact Kd.R_mono HO_7.out (fun _ hk => hk.2)⟩, ⟨by (with_reducible repeat (first | apply Kd.rA | apply Kd.rN | apply Kd.rD)); exact Kd.R_mono HO_10.out (fun _ hk => hk.1)⟩, ⟨kI BK269.out⟩, ⟨bJ HB.out GE269.out⟩⟩
     rw [if_neg c20] at H;have c20b0 : decide (x9_2 < (l1.length : Int)) = false := decide_eq_false c20;clear c20;replace H := Option.bind_eq_some_iff.mp H;obtain ⟨t285, A390, H⟩ := H;replace H : (if 0 ≤ t285 then (if (t285 : Int).toNat ≤ 281474976710656 then (r7IsBasis.l3 k2 x8_2 (List.replicate (t285 : Int).toNat false) 0) else (none)) else (none)) = some r := H;have A39 := Q9a.mk A390;clear A390;by_cases c40 : 0 ≤ t285
     ·rw [if_pos c40] at H;have c40b0 := eq_true c40;have c40b1 : decide (0 ≤ t285) = true := decide_eq_true c40;clear c40;by_cases c41 : (t285 : Int).toNat ≤ 281474976710656
      ·rw [if_pos c41] at H;have c41b0 := eq_true c41;have c41b1 : decide ((t285 : Int).toNat ≤ 281474976710656) = true := decide_eq_true c41;clear c41;obtain ⟨y286, hy286⟩ : ∃ y_ : List Bool, y_ = (List.replicate (t285 : Int).toNat false) := ⟨_, rfl⟩;replace H : (r7IsBasis.l3 k2 x8_2 y286 0) = some r := by first | (rw [hy286]; with_reducible exact H) | (have H2_ := (Option.bind_some _ _).symm.trans H; rw [hy286]; with_reducible exact H2_) | (have H2_ := (Option.bind_some _ _).symm.trans H; with_reducible exact H2_) | with_reducible exact H | (rw [hy286]; exact H) | exact H
       have Ny286 := Q9a.mk hy286;clear hy286;have H' := Q9a.mk H;clear H;have hcz42_0 : wr.cell? ⟨gb269, 0, none⟩ = some (.int .i64 a0_0) := (kC BK269.out 0).trans rfl;have hcz42_1 : wr.cell? ⟨gb269, 1, none⟩ = some (.int .i64 a0_1) := (kC BK269.out 1).trans rfl;have hcz42_2 : wr.cell? ⟨gb269, 2, none⟩ = some (.slice A0_2 l0_2.length c0_2) := (kC BK269.out 2).trans rfl;have hfz42_0 := kF BK269.out 0;have hfz42_1 := kF BK269.out 1;have hfz42_2 := kF BK269.out 2;go_wp2_with (first | ((with_reducible refine gC (f := 29) rfl ?_); refine gL (some 71) rfl rfl Try.func29 (by kernel_rfl) rfl #[.agg #[.int .i64 a0_0, .int .i64 a0_1, .slice A0_2 l0_2.length c0_2]] rfl (by (try simp only [sm1, sm2, sm3]); first | done | rfl | (simp only [sm4, sm5]; rfl)) ?_; (with_reducible refine (r4Order.calls k2 a0_0 a0_1 _ _ l0_2 t285 _ ?side1 ?side2 A39.out).mono ?_); (case side1 => exact cI HR0_2.out HB.out); (case side2 => exact HC0_2.out); rintro e w43 ⟨rfl, hb⟩; refine ⟨_, rfl, ?_⟩; have n0_ := Q9a.mk (Kd.R_below (rI HO_7.out) hb); have n1_ := Q9a.mk (Kd.R_below (rI HO_8.out) hb); have n2_ := Q9a.mk (kB (g := gb269) (o := .cells #[.int .i64 a0_0, .int .i64 a0_1, .slice A0_2 l0_2.length c0_2] 24 (0, 0)) (kI BK269.out) hb); have n3_ := Q9a.mk (bP (bJ HB.out GE269.out) hb); clear HO_7; clear HO_8; clear BK269; clear HB; have HO_7 := n0_; have HO_8 := n1_; have BK269 := n2_; have HB := n3_; clear n0_ n1_ n2_ n3_; (try clear hb); (try clear hb2); (try clear hk); (try clear hi)) | ((with_reducible refine gD (N := 72) rfl ?_); (try (refine gG (by rfl) ?_; dsimp only)); refine Kd.R_make Kd.bool _ 4 rfl (N := 72) rfl 48 _ _ rfl t285 rfl rfl Try.underlying48 (.bool false) 1 info4 rfl (by decide) (by omega) false (ok := fun _ => True) (okp := fun _ => True) rfl (fun _ hk => hk) trivial (of_decide_eq_true (by first | (with_reducible assumption) | assumption)) (Nat.le_trans (Nat.mul_le_mul_right _ (of_decide_eq_true (by first | (with_reducible assumption) | assumption) : t285.toNat ≤ 281474976710656)) (by omega)) (Below.refl _ _) (Nat.le_refl _) ?_; intro v287 w44 ho45 hb hg_ hnew_; clear hg_ hnew_; (first | rw [← Ny286.out] at ho45 | (simp only [Int.reduceToNat] at ho45; rw [← Ny286.out] at ho45)); have n0_ := Q9a.mk (Kd.R_below (rI HO_7.out) hb); have n1_ := Q9a.mk (Kd.R_below (rI HO_8.out) hb); have n2_ := Q9a.mk (Kd.rL ho45 (bZ (bJ HB.out GE269.out))); have n3_ := Q9a.mk (kB (g := gb269) (o := .cells #[.int .i64 a0_0, .int .i64 a0_1, .slice A0_2 l0_2.length c0_2] 24 (0, 0)) (kI BK269.out) hb); have n4_ := Q9a.mk (bP (bJ HB.out GE269.out) hb); clear HO_7; clear HO_8; clear BK269; clear HB; have HO_7 := n0_; have HO_8 := n1_; have HO288 := n2_; have BK269 := n3_; have HB := n4_; clear n0_ n1_ n2_ n3_ n4_; clear hb ho45))
       go_loopg [14] k2 (fun kq v14 w' => ∃ (x13_3 : List Bool) (x14_3 : Int), v14 = .int .i64 x14_3 ∧ Q9a (r7IsBasis.l3 kq x8_2 x13_3 x14_3 = some r) ∧ Q9a (kq ≤ k2) ∧ Q9a (Kd.R (Kd.int .i64) 3 w' w.heap.size (fun _ => True) u8 x8_2) ∧ Q9a (Kd.R Kd.bool 4 w' w.heap.size (fun _ => True) v287 x13_3) ∧ Q9a (w'.heap[gb269]? = some (.cells #[.int .i64 a0_0, .int .i64 a0_1, (.slice A0_2 l0_2.length c0_2)] 24 (0, 0))) ∧ Q9a (Below w.heap.size w w'))
       case atStart => exact ⟨(y286), (0), (by first | rfl | (simp; done) | (simp [*]; done)), H', ⟨Nat.le_refl _⟩, ⟨by (with_reducible repeat (first | apply Kd.rA | apply Kd.rN | apply Kd.rD)); exact Kd.R_mono HO_8.out (fun _ hk => trivial)⟩, ⟨rI HO288.out⟩, ⟨kI BK269.out⟩, ⟨bJ HB.out GE269.out⟩⟩
       case round =>
        clear H';try clear c1
        try clear c2
        try clear p2
        try clear q2
        try clear hx2
        try clear c3
        try clear c4
        try clear p6
        try clear c7
        try clear c8
        try clear c8b0
        try clear c8b1
        try clear c13
        try clear c14
        try clear c16
        try clear c20
        try clear c20b0
        try clear c21
        try clear c21b0
        try clear c23
        try clear c23b0
        try clear c24
        try clear c24b0
        try clear c25
        try clear c25b0
        try clear c26
        try clear c26b0
        try clear c27
        try clear c27b0
        try clear p27
        try clear q27
        try clear hx27
        try clear c28
        try clear c28b0
        try clear c29
        try clear c31
        try clear c40
        try clear c40b0
        try clear c40b1
        try clear c41
        try clear c41b0
        try clear c41b1
        try clear c42
        try clear hcz11_0
        try clear hcz11_1
        try clear hcz11_2
        try clear hcz12_0
        try clear hcz12_1
        try clear hcz12_2
        try clear hcz16_0
        try clear hcz16_1
        try clear hcz16_2
        try clear hcz42_0
        try clear hcz42_1
        try clear hcz42_2
        try clear hcz9_0
        try clear hcz9_1
        try clear hcz9_2
        try clear hfz11_0
        try clear hfz11_1
        try clear hfz11_2
        try clear hfz12_0
        try clear hfz12_1
        try clear hfz12_2
        try clear hfz16_0
        try clear hfz16_1
        try clear hfz16_2
        try clear hfz42_0
        try clear hfz42_1
        try clear hfz42_2
        try clear hfz9_0
        try clear hfz9_1
        try clear hfz9_2
        try clear hx277_0
        try clear hx278_0
        try clear hx279_0
        try clear p2
        try clear p277
        try clear p278
        try clear p279
        try clear p6
        try clear q277
        try clear q278
        try clear q279
        obtain ⟨x13_3, x14_3, rfl, HA, HK3, HO_8, HO_13, BK269, HB⟩ := hrel
        cases gk with
        | zero => exact absurd HA.out (by simp [r7IsBasis.l3])
        | succ k3 =>
         have H := HA.out;clear HA;simp only [r7IsBasis.l3] at H;by_cases c46 : x14_3 < (x8_2.length : Int)
         ·rw [if_pos c46] at H;have c46b0 : decide (x14_3 < (x8_2.length : Int)) = true := decide_eq_true c46;clear c46;by_cases c47 : 0 ≤ x14_3
          ·rw [if_pos c47] at H;have c47b0 : decide (0 ≤ x14_3) = true := decide_eq_true c47;clear c47;by_cases c48 : 0 ≤ (rd x8_2 x14_3)
           ·rw [if_pos c48] at H;have c48b0 : decide (0 ≤ (rd x8_2 x14_3)) = true := decide_eq_true c48;clear c48;by_cases c49 : (rd x8_2 x14_3) < (x13_3.length : Int)
            ·rw [if_pos c49] at H;have c49b0 : decide ((rd x8_2 x14_3) < (x13_3.length : Int)) = true := decide_eq_true c49;clear c49;obtain ⟨bq50, hbq50⟩ : ∃ b_ : Bool, b_ = (rdOf false x13_3 (rd x8_2 x14_3)) := ⟨_, rfl⟩;replace H : (if bq50 = true then (some false) else (r7IsBasis.l3 k3 x8_2 (x13_3.set ((rd x8_2 x14_3) : Int).toNat true) (wrap64 (x14_3 + 1)))) = some r := by rw [← hbq50] at H; exact H
             have Nbq50 := Q9a.mk hbq50;clear hbq50;by_cases c51 : bq50 = true
             ·subst c51;have H1 : (some false) = some r := by rw [if_pos rfl] at H; exact H
              clear H;have H := H1;clear H1;obtain rfl := Option.some.inj H;obtain ⟨Ao52, co52, eo52⟩ := Kd.R_slice HO_8.out;subst eo52;have p289 : 0 ≤ (x14_3 : Int) := of_decide_eq_true (by first | (with_reducible assumption) | assumption);have q289 : x14_3 < (x8_2.length : Int) := of_decide_eq_true (by first | (with_reducible assumption) | assumption);obtain ⟨ad289, e289, hx289_0⟩ := Kd.at_int (Kd.R_reads' HO_8.out).2.2 x14_3 p289 q289
              cases e289
              replace p289 := eq_true p289;replace q289 := eq_true q289;obtain ⟨Ao53, co53, eo53⟩ := Kd.R_slice HO_13.out;subst eo53;have p290 : 0 ≤ ((rd x8_2 x14_3) : Int) := of_decide_eq_true (by first | (with_reducible assumption) | assumption);have q290 : (rd x8_2 x14_3) < (x13_3.length : Int) := of_decide_eq_true (by first | (with_reducible assumption) | assumption);obtain ⟨ad290, e290, hx290_0⟩ := Kd.at_bool (Kd.R_reads' HO_13.out).2.2 (rd x8_2 x14_3) p290 q290;(try rw [← Nbq50.out] at hx290_0)
              cases e290
              replace p290 := eq_true p290;replace q290 := eq_true q290;go_wp2
              go_ret
              exact ⟨by first | rfl | (simp [*, eN, eS] <;> rfl), bJ HB.out GE269.out⟩
             replace c51 := Bool.eq_false_iff.mpr c51;subst c51;have H1 : (r7IsBasis.l3 k3 x8_2 (x13_3.set ((rd x8_2 x14_3) : Int).toNat true) (wrap64 (x14_3 + 1))) = some r := by rw [if_neg (show ¬ (false = true) by decide)] at H; exact H
             clear H;have H := H1;clear H1;obtain ⟨y292, hy292⟩ : ∃ y_ : List Bool, y_ = (x13_3.set ((rd x8_2 x14_3) : Int).toNat true) := ⟨_, rfl⟩;replace H : (r7IsBasis.l3 k3 x8_2 y292 (wrap64 (x14_3 + 1))) = some r := by first | (rw [hy292]; with_reducible exact H) | (have H2_ := (Option.bind_some _ _).symm.trans H; rw [hy292]; with_reducible exact H2_) | (have H2_ := (Option.bind_some _ _).symm.trans H; with_reducible exact H2_) | with_reducible exact H | (rw [hy292]; exact H) | exact H
             have Ny292 := Q9a.mk hy292;clear hy292;have H' := Q9a.mk H;clear H;obtain ⟨Ao55, co55, eo55⟩ := Kd.R_slice HO_8.out;subst eo55;have p289 : 0 ≤ (x14_3 : Int) := of_decide_eq_true (by first | (with_reducible assumption) | assumption);have q289 : x14_3 < (x8_2.length : Int) := of_decide_eq_true (by first | (with_reducible assumption) | assumption);obtain ⟨ad289, e289, hx289_0⟩ := Kd.at_int (Kd.R_reads' HO_8.out).2.2 x14_3 p289 q289
             cases e289
             replace p289 := eq_true p289;replace q289 := eq_true q289;obtain ⟨Ao56, co56, eo56⟩ := Kd.R_slice HO_13.out;subst eo56;have p290 : 0 ≤ ((rd x8_2 x14_3) : Int) := of_decide_eq_true (by first | (with_reducible assumption) | assumption);have q290 : (rd x8_2 x14_3) < (x13_3.length : Int) := of_decide_eq_true (by first | (with_reducible assumption) | assumption);obtain ⟨ad290, e290, hx290_0⟩ := Kd.at_bool (Kd.R_reads' HO_13.out).2.2 (rd x8_2 x14_3) p290 q290;(try rw [← Nbq50.out] at hx290_0)
             cases e290
             replace p290 := eq_true p290;replace q290 := eq_true q290;have p291 : 0 ≤ (x14_3 : Int) := of_decide_eq_true (by first | (with_reducible assumption) | assumption);have q291 : x14_3 < (x8_2.length : Int) := of_decide_eq_true (by first | (with_reducible assumption) | assumption);obtain ⟨ad291, e291, hx291_0⟩ := Kd.at_int (Kd.R_reads' HO_8.out).2.2 x14_3 p291 q291;obtain rfl : ad289 = ad291 := (by injection e291);replace p291 := eq_true p291;replace q291 := eq_true q291;have p54 : 0 ≤ ((rd x8_2 x14_3) : Int) := of_decide_eq_true (by first | (with_reducible assumption) | assumption);have q54 : ((rd x8_2 x14_3) : Int) < ((x13_3.length : Int) : Int) := of_decide_eq_true (by first | (with_reducible assumption) | assumption);obtain ⟨go54, co54, eo54, gb54, gl54, cl54, HG54⟩ := Kd.R_form HO_13.out (by omega);(first | cases eo54 | (injection eo54 with ea_ en_ ec_; (first | subst ea_ | (injection ea_ with ea_; subst ea_)); subst ec_; clear en_))
             have GB54 := Q9a.mk gb54;have GG54 := Q9a.mk HG54;clear gb54 gl54 HG54;(first | simp only [add_plain] at hx290_0 | skip)
             obtain ⟨hx54_0, hf54_0⟩ := Kd.R_celln false HO_13.out ((rd x8_2 x14_3) : Int) p54 q54;replace p54 := eq_true p54;replace q54 := eq_true q54;have HP57 := Kd.R_putg HO_13.out ((rd x8_2 x14_3) : Int) true;go_wp2_with (first | ((with_reducible refine gate_store (t := 4) (p := 91) rfl ?_); refine store_event (t := 4) (p := 91) (v := ?vo_w58) (w1 := (wr.setCell ⟨go54, ((rd x8_2 x14_3) : Int).toNat, none⟩ (.bool true))) ?hg ?ho ?hn ?hr ?_; (case ho => rfl); (case hg => rfl); (case hn => rfl); (case hr => first | (go_simp; done) | (go_simp; rfl)); intro w58 hw; have hg : wr.grownBy w58 (some go54) := (by rw [hw]; exact HP57.2); have hp_ : Kd.R Kd.bool 4 w58 w.heap.size (fun _ => True) (.slice (some ⟨go54, 0, none⟩) x13_3.length co56) y292 := (by rw [hw, Ny292.out]; exact HP57.1); clear HP57; have n0_ := Q9a.mk (Kd.R_over' (v := (.slice (some ⟨go54, 0, none⟩) x13_3.length co56)) (rI HO_8.out) (Kd.R_typed HO_13.out) (by decide) hg); have n1_ := Q9a.mk (hp_); have n2_ := Q9a.mk (blk_grown (g := gb269) (o := .cells #[.int .i64 a0_0, .int .i64 a0_1, .slice A0_2 l0_2.length c0_2] 24 (0, 0)) (kI BK269.out) hg (Kd.R_ne HO_13.out BK269.out (by decide))); have n3_ := Q9a.mk ((by rw [hw]; exact bS (HB.out) GB54.out : Below w.heap.size w w58)); clear HO_8; clear HO_13; clear BK269; clear HB; have HO_8 := n0_; have HO_13 := n1_; have BK269 := n2_; have HB := n3_; clear n0_ n1_ n2_ n3_; clear hg hw hp_))
             go_roundg k3
             case measure => have := HJ3.out; have := HK2.out; have := HK3.out; omega
             case rel => exact ⟨(y292), (wrap64 (x14_3 + 1)), (by first | rfl | (simp; done) | (simp [*]; done)), H', ⟨by have := HJ3.out; have := HK2.out; have := HK3.out; omega⟩, ⟨rI HO_8.out⟩, ⟨rI HO_13.out⟩, ⟨kI BK269.out⟩, ⟨bJ HB.out GE269.out⟩⟩
            rw [if_neg c49] at H;exact absurd H (by simp)
           rw [if_neg c48] at H;exact absurd H (by simp)
          rw [if_neg c47] at H;exact absurd H (by simp)
         rw [if_neg c46] at H;have c46b0 : decide (x14_3 < (x8_2.length : Int)) = false := decide_eq_false c46;clear c46;obtain rfl := Option.some.inj H;obtain ⟨Ao59, co59, eo59⟩ := Kd.R_slice HO_8.out;subst eo59;go_wp2
         go_ret
         exact ⟨by first | rfl | (simp [*, eN, eS] <;> rfl), bJ HB.out GE269.out⟩
      rw [if_neg c41] at H;exact absurd H (by simp)
     rw [if_neg c40] at H;exact absurd H (by simp)
end
end Go.Proofs.Ytlbddjojhcgpiaa.P
end
-- Pa9
section
namespace Go.Proofs.Ytlbddjojhcgpiaa.P
noncomputable section
open Go.RowKit Go.Proofs.Ytlbddjojhcgpiaa.Hand Go.Proofs.YtlbddjojhcgpiaaW.PrintWords Go.Proofs.YtlbddjojhcgpiaaW.PrintLast Go.Proofs.YtlbddjojhcgpiaaW.PrintMore
set_option linter.unusedVariables false
set_option linter.unusedSimpArgs false
def r7Trace.l0 : Nat → Int → Int → Int → Int → Int → Int → List Int → Option (Int)
 | 0, _, _, _, _, _, _, _ => none
 | k + 1, x1, x2, x7, x8, x294000, x294001, x294002 => if x2 = 0 then (none) else (if x8 < (wrap64 (Int.tdiv x294001 x2)) then ((r7Frobenius.f k x294000 x294001 x294002 x1 (wrap64 (x2 * x8))).bind fun t294 => ((r4Add.f k x294000 x294001 x294002 x7 t294).bind fun t295 => (r7Trace.l0 k x1 x2 t295 (wrap64 (x8 + 1)) x294000 x294001 x294002))) else (some x7))
def r7Trace.f (k : Nat) (a0_0 : Int) (a0_1 : Int) (l0_2 : List Int) (a1 : Int) (a2 : Int) : Option (Int) := r7Trace.l0 k a1 a2 0 0 a0_0 a0_1 l0_2
end
end Go.Proofs.Ytlbddjojhcgpiaa.P
end
-- Sv1
section
namespace Go.Proofs.Ytlbddjojhcgpiaa.Hand
open Go.RowKit Go.Proofs.YtlbddjojhcgpiaaW.PrintWords Go.Proofs.YtlbddjojhcgpiaaW.PrintLast Go.Proofs.YtlbddjojhcgpiaaW.PrintMore
def mrow (G : GFv) (n : Nat) (x : Nat → Cw.El G.F) : List Int := (List.range (n + 1)).map (fun j => G.num (x j))
theorem mrow_length (G : GFv) (n : Nat) (x : Nat → Cw.El G.F) : (mrow G n x).length = n + 1 := by simp [mrow]
theorem mrow_getD (G : GFv) (n : Nat) (x : Nat → Cw.El G.F) {j : Nat} (h : j < n + 1) : (mrow G n x).getD j 0 = G.num (x j) := by
 unfold mrow
 simp [List.getD, h]
theorem mrow_rd (G : GFv) (n : Nat) (x : Nat → Cw.El G.F) {j : Nat} (h : j < n + 1) : rd (mrow G n x) (j : Int) = G.num (x j) := by
 unfold rd
 rw [Int.toNat_natCast];exact mrow_getD G n x h
theorem mrow_congr (G : GFv) {n : Nat} {x y : Nat → Cw.El G.F} (h : ∀ j, j < n + 1 → x j = y j) : mrow G n x = mrow G n y := by
 unfold mrow
 refine List.map_congr_left (fun j hj => ?_);rw [h j (List.mem_range.1 hj)]
theorem mrow_set (G : GFv) (n : Nat) (x : Nat → Cw.El G.F) (j : Nat) (y : Cw.El G.F) : (mrow G n x).set j (G.num y) = mrow G n (fun t => if t = j then y else x t) := by
 apply List.ext_getElem?
 intro i;unfold mrow
 rw [List.getElem?_set];simp only [List.length_map, List.length_range, List.getElem?_map];by_cases hi : i < n + 1
 ·rw [List.getElem?_range hi];by_cases h : j = i
  ·subst h;simp [hi]
  rw [if_neg h];simp [show ¬ i = j from fun e => h e.symm]
 have hn : (List.range (n + 1))[i]? = none := List.getElem?_eq_none (by rw [List.length_range]; omega);rw [hn];by_cases h : j = i
 ·subst h;simp [hi]
 rw [if_neg h];rfl
structure MX (G : GFv) (w : World) (base R n : Nat) (rb cp : Nat → Nat) (A : Nat → Nat → Cw.El G.F) : Prop where
 hd : ∃ cells, w.heap[R]? = some (.cells cells 22 (0, 0)) ∧ ∀ i, i < n → cells[i]? = some (.slice (some ⟨rb i, 0, none⟩) (n + 1) (cp i))
 bs : base ≤ R
 row : ∀ i, i < n → Kd.R (Kd.int .i64) 3 w base (fun k => k = rb i) (.slice (some ⟨rb i, 0, none⟩) (n + 1) (cp i)) (mrow G n (A i))
 inj : ∀ i j, i < n → j < n → rb i = rb j → i = j
section
variable {G : GFv} {w w1 : World} {base R n : Nat} {rb cp : Nat → Nat} {A : Nat → Nat → Cw.El G.F}
theorem MX.hdr (h : MX G w base R n rb cp A) {i : Nat} (hi : i < n) : w.cell? ⟨R, i, none⟩ = some (.slice (some ⟨rb i, 0, none⟩) (n + 1) (cp i)) := by
 obtain ⟨cells, h1, h2⟩ := h.hd;exact (kC h1 i).trans (h2 i hi)
theorem MX.hfr (h : MX G w base R n rb cp A) (i : Nat) : w.frozen? ⟨R, i, none⟩ = false := by
 obtain ⟨cells, h1, h2⟩ := h.hd;exact kF h1 i
theorem MX.at (h : MX G w base R n rb cp A) {i j : Nat} (hi : i < n) (hj : j < n + 1) : w.cell? ⟨rb i, j, none⟩ = some (.int .i64 (G.num (A i j))) := by
 have h1 := (Kd.R_celln 0 (h.row i hi) (j : Int) (by omega) (by omega)).1;rw [Int.toNat_natCast] at h1;have h2 : rdOf 0 (mrow G n (A i)) (j : Int) = G.num (A i j) := mrow_rd G n (A i) hj;rw [h2] at h1;exact h1
theorem MX.fr (h : MX G w base R n rb cp A) {i j : Nat} (hi : i < n) (hj : j < n + 1) : w.frozen? ⟨rb i, j, none⟩ = false := by
 have h1 := (Kd.R_celln 0 (h.row i hi) (j : Int) (by omega) (by omega)).2;rw [Int.toNat_natCast] at h1;exact h1
theorem MX.rne (h : MX G w base R n rb cp A) {i : Nat} (hi : i < n) : rb i ≠ R := by
 obtain ⟨cells, h1, h2⟩ := h.hd;have := Kd.R_ne (h.row i hi) h1 (by decide);intro e;apply this
 rw [← e];rfl
theorem MX.rbase (h : MX G w base R n rb cp A) {i : Nat} (hi : i < n) : base ≤ rb i := Kd.R_base (h.row i hi) _ rfl
theorem MX.rlt (h : MX G w base R n rb cp A) {i : Nat} (hi : i < n) : rb i < w.heap.size := Kd.R_lt (h.row i hi) _ rfl
theorem MX.below (h : MX G w base R n rb cp A) (hb : Below w.heap.size w w1) : MX G w1 base R n rb cp A := by
 obtain ⟨cells, h1, h2⟩ := h.hd;exact ⟨⟨cells, kB h1 hb, h2⟩, h.bs, fun i hi => Kd.R_below (h.row i hi) hb, h.inj⟩
theorem MX.congr (h : MX G w base R n rb cp A) {B : Nat → Nat → Cw.El G.F} (he : ∀ i j, i < n → j < n + 1 → A i j = B i j) : MX G w base R n rb cp B :=
 ⟨h.hd, h.bs, fun i hi => by rw [← mrow_congr G (fun j hj => he i j hi hj)]; exact h.row i hi, h.inj⟩
theorem MX.hd_set (h : MX G w base R n rb cp A) {c p : Nat} (hc : c < n) (hp : p < n) : (w.setCell ⟨R, c, none⟩ (.slice (some ⟨rb p, 0, none⟩) (n + 1) (cp p))).cell? ⟨R, p, none⟩ = some (.slice (some ⟨rb p, 0, none⟩) (n + 1) (cp p)) := by
 obtain ⟨cells, h1, h2⟩ := h.hd;refine (kC (blk_set h1 c _) p).trans ?_;rw [Array.getElem?_setIfInBounds];by_cases e : c = p
 ·subst e;have hlt : c < cells.size := (Array.getElem?_eq_some_iff.1 (h2 c hc)).1;simp [hlt]
 rw [if_neg e];exact h2 p hp
theorem MX.hf_set (h : MX G w base R n rb cp A) (c p : Nat) (v : Value) : (w.setCell ⟨R, c, none⟩ v).frozen? ⟨R, p, none⟩ = false := by
 obtain ⟨cells, h1, h2⟩ := h.hd;exact kF (blk_set h1 c v) p
theorem MX.put (h : MX G w base R n rb cp A) {i j : Nat} (hi : i < n) (hj : j < n + 1) (y : Cw.El G.F) :
  MX G (w.setCell ⟨rb i, j, none⟩ (.int .i64 (G.num y))) base R n rb cp (fun i' t => if i' = i then (if t = j then y else A i t) else A i' t) := by
 obtain ⟨cells, h1, h2⟩ := h.hd;refine ⟨⟨cells, blk_far h1 (fun e => h.rne hi e.symm) _, h2⟩, h.bs, fun i' hi' => ?_, h.inj⟩;by_cases e : i' = i
 ·subst e;have h3 := (Kd.R_putg (h.row i' hi) (j : Int) (G.num y)).1;rw [Int.toNat_natCast, mrow_set] at h3;simp only [if_true];exact h3
 simp only [if_neg e];exact Kd.R_far (h.row i' hi') (fun k hk e2 => e (h.inj i' i hi' hi (hk.symm.trans e2))) _
theorem MX.far (h : MX G w base R n rb cp A) {g : Nat} (hR : g ≠ R) (hr : ∀ i, i < n → rb i ≠ g) (j : Nat) (v : Value) : MX G (w.setCell ⟨g, j, none⟩ v) base R n rb cp A := by
 obtain ⟨cells, h1, h2⟩ := h.hd;exact ⟨⟨cells, blk_far h1 (fun e => hR e.symm) _, h2⟩, h.bs, fun i hi => Kd.R_far (h.row i hi) (fun k hk e => hr i hi (hk.symm.trans e)) _, h.inj⟩
theorem MX.head (h : MX G w base R n rb cp A) {c : Nat} (hc : c < n) (g cg : Nat) (x : Nat → Cw.El G.F)
  (hrow : Kd.R (Kd.int .i64) 3 w base (fun k => k = g) (.slice (some ⟨g, 0, none⟩) (n + 1) cg) (mrow G n x)) (hg : ∀ i, i < n → i ≠ c → rb i ≠ g) :
  MX G (w.setCell ⟨R, c, none⟩ (.slice (some ⟨g, 0, none⟩) (n + 1) cg)) base R n (fun i => if i = c then g else rb i) (fun i => if i = c then cg else cp i) (fun i j => if i = c then x j else A i j) := by
 obtain ⟨cells, h1, h2⟩ := h.hd
 have hgR : g ≠ R := by
  have := Kd.R_ne hrow h1 (by decide);intro e;apply this
  rw [← e];rfl
 refine ⟨⟨_, blk_set h1 c _, fun i hi => ?_⟩, h.bs, fun i hi => ?_, fun i j hi hj e => ?_⟩
 ·rw [Array.getElem?_setIfInBounds];by_cases e : c = i
  ·subst e;have hlt : c < cells.size := (Array.getElem?_eq_some_iff.1 (h2 c hc)).1;simp [hlt]
  rw [if_neg e];simp only [if_neg (show ¬ i = c from fun e2 => e e2.symm)];exact h2 i hi
 ·by_cases e : i = c
  ·subst e;simp only [if_true];exact Kd.R_far hrow (fun k hk e2 => hgR (hk.symm.trans e2)) _
  simp only [if_neg e];exact Kd.R_far (h.row i hi) (fun k hk e2 => h.rne hi (hk.symm.trans e2)) _
 by_cases e1 : i = c
 ·by_cases e2 : j = c
  ·rw [e1, e2]
  simp only [if_pos e1, if_neg e2] at e;exact absurd e.symm (hg j hj e2)
 by_cases e2 : j = c
 ·simp only [if_neg e1, if_pos e2] at e;exact absurd e (hg i hi e1)
 simp only [if_neg e1, if_neg e2] at e;exact h.inj i j hi hj e
theorem MX.swap (h : MX G w base R n rb cp A) {c p : Nat} (hc : c < n) (hp : p < n) :
  ∃ rb' cp', MX G ((w.setCell ⟨R, c, none⟩ (.slice (some ⟨rb p, 0, none⟩) (n + 1) (cp p))).setCell ⟨R, p, none⟩ (.slice (some ⟨rb c, 0, none⟩) (n + 1) (cp c))) base R n rb' cp' (Cw.swp A c p) := by
 obtain ⟨cells, h1, h2⟩ := h.hd;refine ⟨fun i => if i = p then rb c else if i = c then rb p else rb i, fun i => if i = p then cp c else if i = c then cp p else cp i, ⟨⟨_, blk_set (blk_set h1 c _) p _, fun i hi => ?_⟩, h.bs, fun i hi => ?_, fun i j hi hj e => ?_⟩⟩
 ·have hlc : c < cells.size := (Array.getElem?_eq_some_iff.1 (h2 c hc)).1;have hlp : p < cells.size := (Array.getElem?_eq_some_iff.1 (h2 p hp)).1;rw [Array.getElem?_setIfInBounds, Array.getElem?_setIfInBounds];by_cases e : p = i
  ·subst e;simp [hlp]
  rw [if_neg e];simp only [if_neg (show ¬ i = p from fun e2 => e e2.symm)];by_cases e1 : c = i
  ·subst e1;simp [hlc]
  rw [if_neg e1];simp only [if_neg (show ¬ i = c from fun e2 => e1 e2.symm)];exact h2 i hi
 ·have far : ∀ i, i < n → ∀ (x : Nat → Cw.El G.F), Kd.R (Kd.int .i64) 3 w base (fun k => k = rb i) (.slice (some ⟨rb i, 0, none⟩) (n + 1) (cp i)) (mrow G n x) → Kd.R (Kd.int .i64) 3 ((w.setCell ⟨R, c, none⟩ (.slice (some ⟨rb p, 0, none⟩) (n + 1) (cp p))).setCell ⟨R, p, none⟩ (.slice (some ⟨rb c, 0, none⟩) (n + 1) (cp c))) base (fun k => k = rb i) (.slice (some ⟨rb i, 0, none⟩) (n + 1) (cp i)) (mrow G n x) := by
   intro i hi x hx;exact Kd.R_far (Kd.R_far hx (fun k hk e2 => h.rne hi (hk.symm.trans e2)) _) (fun k hk e2 => h.rne hi (hk.symm.trans e2)) _
  rw [Cw.swp_row];by_cases e : i = p
  ·subst e;simp only [if_true];by_cases e1 : i = c
   ·subst e1;rw [if_pos rfl];exact far i hi _ (h.row i hi)
   rw [if_neg e1];exact far c hc _ (h.row c hc)
  simp only [if_neg e];by_cases e1 : i = c
  ·subst e1;rw [if_pos rfl];simp only [if_true];exact far p hp _ (h.row p hp)
  simp only [if_neg e1];exact far i hi _ (h.row i hi)
 have hh : ∀ i, i < n → (if i = p then rb c else if i = c then rb p else rb i) = rb (if i = p then c else if i = c then p else i) := by
  intro i _;by_cases e1 : i = p
  ·rw [if_pos e1, if_pos e1]
  rw [if_neg e1, if_neg e1];by_cases e2 : i = c
  ·rw [if_pos e2, if_pos e2]
  rw [if_neg e2, if_neg e2]
 try simp only [] at e
 rw [hh i hi, hh j hj] at e
 have hb : ∀ i, i < n → (if i = p then c else if i = c then p else i) < n := by
  intro i hi;by_cases e1 : i = p
  ·rw [if_pos e1]; exact hc
  rw [if_neg e1];by_cases e2 : i = c
  ·rw [if_pos e2]; exact hp
  rw [if_neg e2]; exact hi
 have e3 := h.inj _ _ (hb i hi) (hb j hj) e;by_cases e1 : i = p
 ·rw [if_pos e1] at e3;by_cases e4 : j = p
  ·rw [e1, e4]
  rw [if_neg e4] at e3;by_cases e5 : j = c
  ·rw [if_pos e5] at e3; omega
  rw [if_neg e5] at e3; omega
 rw [if_neg e1] at e3;by_cases e4 : j = p
 ·rw [if_pos e4] at e3;by_cases e5 : i = c
  ·rw [if_pos e5] at e3; omega
  rw [if_neg e5] at e3; omega
 rw [if_neg e4] at e3;by_cases e5 : i = c
 ·rw [if_pos e5] at e3;by_cases e6 : j = c
  ·rw [e5, e6]
  rw [if_neg e6] at e3; omega
 rw [if_neg e5] at e3;by_cases e6 : j = c
 ·rw [if_pos e6] at e3; omega
 rw [if_neg e6] at e3; exact e3
end
theorem MX.of_S {G : GFv} {w : World} {base n : Nat} {v : Value} {rows : List (List Int)} {A : Nat → Nat → Cw.El G.F} (hn : 0 < n)
  (h : Kd.S (Kd.slice 3 (Kd.int .i64)) 22 w base (fun _ => True) v rows) (hr : rows = (List.range n).map (fun i => mrow G n (A i))) :
  ∃ R cR rb cp, v = .slice (some ⟨R, 0, none⟩) n cR ∧ MX G w base R n rb cp A := by
 have hlen : rows.length = n := by rw [hr]; simp
 have hat : ∀ i, i < n → rows[i]? = some (mrow G n (A i)) := by
  intro i hi;rw [hr];simp [hi]
 obtain ⟨f, h0, inner, ho, hreps⟩ := h;rw [List.length_zipIdx, hlen] at ho
 have hM : ∀ i, i < n → ∃ g cap, (inner.drop (i * 1)).take 1 = [.slice (some ⟨g, 0, none⟩) (n + 1) cap] ∧ f g = i ∧ Kd.R (Kd.int .i64) 3 w base (fun k => k = g) (.slice (some ⟨g, 0, none⟩) (n + 1) cap) (mrow G n (A i)) := by
  intro i hi;have h1 := hreps.2 i (mrow G n (A i), i) (Kd.zip_at (hat i hi));obtain ⟨v', hv, hR⟩ := h1;obtain ⟨g, cap, hf, -⟩ := Kd.R_form hR (by rw [mrow_length]; omega);subst hf;have hok := hR.1 g rfl;refine ⟨g, cap, by rw [← mrow_length G n (A i)]; exact hv, hok.2, ?_⟩;rw [mrow_length] at hR;refine Kd.R_mono (Kd.R_tight rfl hR) (fun k hk => ?_);injection hk
 rcases ho.2 with ⟨-, h2⟩ | ⟨R, cR, cells, rfl, hb, hh, hc⟩
 ·omega
 have hrb : ∃ rb cp : Nat → Nat, ∀ i, i < n → (inner.drop (i * 1)).take 1 = [.slice (some ⟨rb i, 0, none⟩) (n + 1) (cp i)] ∧ f (rb i) = i ∧ Kd.R (Kd.int .i64) 3 w base (fun k => k = rb i) (.slice (some ⟨rb i, 0, none⟩) (n + 1) (cp i)) (mrow G n (A i)) := by
  classical
  refine ⟨fun i => if hi : i < n then Classical.choose (hM i hi) else 0, fun i => if hi : i < n then Classical.choose (Classical.choose_spec (hM i hi)) else 0, fun i hi => ?_⟩;simp only [dif_pos hi];exact Classical.choose_spec (Classical.choose_spec (hM i hi))
 obtain ⟨rb, cp, hrb⟩ := hrb;have hsz : ((Kd.slice 3 (Kd.int .i64)).tag f |>.sz) = 1 := rfl;refine ⟨R, cR, rb, cp, rfl, ⟨⟨cells, hh, fun i hi => ?_⟩, hb, fun i hi => (hrb i hi).2.2, fun i j hi hj e => by rw [← (hrb i hi).2.1, e, (hrb j hj).2.1]⟩⟩;have h1 := (hrb i hi).1
 have h2 : inner[i]? = some (.slice (some ⟨rb i, 0, none⟩) (n + 1) (cp i)) := by
  have h3 : ((inner.drop (i * 1)).take 1)[0]? = some (.slice (some ⟨rb i, 0, none⟩) (n + 1) (cp i)) := by rw [h1]; rfl
  rw [List.getElem?_take, if_pos (by decide), List.getElem?_drop] at h3;rw [Nat.mul_one, Nat.add_zero] at h3;exact h3
 rw [← hc.2.2.2, List.getElem?_take, if_pos (by show i < n * 1; omega)] at h2;rw [← Array.getElem?_toList];exact h2
end Go.Proofs.Ytlbddjojhcgpiaa.Hand
end
-- GmInv
section
namespace Go.Proofs.Ytlbddjojhcgpiaa.Hand
noncomputable section
open Go.RowKit Go.Proofs.YtlbddjojhcgpiaaW.PrintWords
theorem gs_inv (G : GFv) (x : Int) : GS.field_GF_Inv.f (G.F.p : Int) (G.F.m : Int) G.mod (G.q : Int) G.exp G.log x = some ((G.inv x).1, (G.inv x).2, (G.F.p : Int), (G.F.m : Int), (G.q : Int)) := by
 have hq := G.q_le;have hq2 := G.q_ge;unfold GS.field_GF_Inv.f
 rw [gs_in]; simp only [Option.bind_some];unfold Cw.GFv.inv
 by_cases hx : G.inn x = 0
 ·rw [if_pos hx, if_pos (G.el_eq_zero.2 hx)]
 have hxe : G.el x ≠ 0 := fun h => hx (G.el_eq_zero.1 h)
 have ix := G.inn_is x;have lx := G.lg_spec hxe;have hlog := log_len G;have hexp := exp_len G
 rw [if_neg hx, if_neg hxe, rd_log G ix, G.el_inn, w64 (n := (G.q : Int) - 1) (by omega) (by omega), show (G.q : Int) - 1 = ((G.q - 1 : Nat) : Int) from by omega,
  show (((G.q - 1 : Nat) : Int) - (G.lg (G.el x) : Int)) = ((G.q - 1 - G.lg (G.el x) : Nat) : Int) from by omega, w64n _ (by omega), Cw.tmod_nat]
 have hlt := Nat.mod_lt (G.q - 1 - G.lg (G.el x)) (show 0 < G.q - 1 by omega);rw [if_pos ix.1, if_pos (by rw [hlog]; exact ix.2), if_neg (by omega), if_pos (by omega), if_pos (by omega), rd_exp G hlt, G.pw_mod]
 have e : Cw.pw G.gen (G.q - 1 - G.lg (G.el x)) = Cw.pw (G.el x) (G.q - 2) := by
  refine Cw.mul_cancel hxe ?_
  have h1 : G.el x * Cw.pw (G.el x) (G.q - 2) = 1 := by
   rw [Cw.mul_comm, ← Cw.pw_succ, show G.q - 2 + 1 = G.q - 1 from by omega];exact Cw.pw_card hxe
  have h2 : G.el x * Cw.pw G.gen (G.q - 1 - G.lg (G.el x)) = 1 := by
   conv => lhs; lhs; rw [← lx.2]
   rw [← Cw.pw_add, show G.lg (G.el x) + (G.q - 1 - G.lg (G.el x)) = G.q - 1 from by omega];exact G.prim.pow_one
  rw [h1, h2]
 rw [e]
def field_GF_Inv.f (a0 : GFv) (a1 : Int) : Option (Int × Int) := some (a0.inv a1)
theorem field_GF_Inv.calls (b_a0 : Nat) (a0 : GFv) (a1 : Int) (r1 : Int) (r2 : Int) (w : World) (hg0 : GFok w b_a0 a0) (h : field_GF_Inv.f a0 a1 = some (r1, r2)) :
  Calls Try.prog 68 #[.pointer (some ⟨b_a0, 0, none⟩), .int .i64 a1] w fun e w' => e = .returned (.tuple #[.int .i64 r1, .int .i64 r2]) ∧ Below w.heap.size w w' := by
 have h' := Option.some.inj h;obtain ⟨rfl, rfl⟩ : (a0.inv a1).1 = r1 ∧ (a0.inv a1).2 = r2 := by rw [h']; exact ⟨rfl, rfl⟩
 exact (GS.field_GF_Inv.calls b_a0 _ _ _ _ _ _ a1 _ _ _ _ _ w w hg0.isS (Below.refl _ _) (gs_inv a0 a1)).mono fun e w' h => ⟨h.1, h.2.2.1⟩
end
end Go.Proofs.Ytlbddjojhcgpiaa.Hand
end
-- Pa16
section
namespace Go.Proofs.Ytlbddjojhcgpiaa.P
noncomputable section
open Go.RowKit Go.Proofs.Ytlbddjojhcgpiaa.Hand Go.Proofs.YtlbddjojhcgpiaaW.PrintWords Go.Proofs.YtlbddjojhcgpiaaW.PrintLast Go.Proofs.YtlbddjojhcgpiaaW.PrintMore
set_option linter.unusedVariables false
set_option linter.unusedSimpArgs false
mutual
def r4Dot.l0 : Nat → List Int → List Int → Int → Int → Int → Int → List Int → Option (Int)
 | 0, _, _, _, _, _, _, _ => none
 | k + 1, x1, x2, x7, x8, x496000, x496001, x496002 => if x8 < (x1.length : Int) then (r4Dot.j1 k x1 x2 x7 x8 (decide (x8 < (x2.length : Int))) x496000 x496001 x496002) else (r4Dot.j1 k x1 x2 x7 x8 false x496000 x496001 x496002)
def r4Dot.j1 : Nat → List Int → List Int → Int → Int → Bool → Int → Int → List Int → Option (Int)
 | 0, _, _, _, _, _, _, _, _ => none
 | k + 1, x1, x2, x7, x8, x18, x496000, x496001, x496002 => if x18 = true then (if 0 ≤ x8 then (if x8 < (x1.length : Int) then (if x8 < (x2.length : Int) then ((r4Mul.f k x496000 x496001 x496002 (rd x1 x8) (rd x2 x8)).bind fun t498 => ((r4Add.f k x496000 x496001 x496002 x7 t498).bind fun t499 => (r4Dot.l0 k x1 x2 t499 (wrap64 (x8 + 1)) x496000 x496001 x496002))) else (none)) else (none)) else (none)) else (some x7)
end
def r4Dot.f (k : Nat) (a0_0 : Int) (a0_1 : Int) (l0_2 : List Int) (l1 : List Int) (l2 : List Int) : Option (Int) := r4Dot.l0 k l1 l2 0 0 a0_0 a0_1 l0_2
def r4Dot.T5 : Bool × List (List Nat × List Nat) := (true, [([], []), ([], []), ([], []), ([], []), ([], []), ([3, 4], [3, 4]), ([5], [5]), ([], []), ([], []), ([7, 8], [7, 8]), ([9], [9]), ([2, 6, 10], [2, 6, 10]), ([0, 1, 11, 11], [0, 1, 11]), ([12, 12, 0, 1, 2, 3, 4, 5, 6, 7, 8, 9, 10, 11, 12], [1, 12])])
def r4Dot.B5 : List Nat := [0, 0, 0, 0, 0, 24, 56, 0, 0, 384, 896, 2044, 4095, 8191]
theorem r4Dot.tab5 : rtab .any (opsOf Try.f34 5) = r4Dot.T5 := by kernel_rfl
theorem r4Dot.bits5 : waitsOk r4Dot.T5.2 r4Dot.B5 = true := by kernel_rfl
theorem r4Dot.calls (k : Nat) (a0_0 : Int) (a0_1 : Int) (A0_2 : Option Addr) (c0_2 : Nat) (l0_2 : List Int) (A1 : Option Addr) (c1 : Nat) (l1 : List Int) (A2 : Option Addr) (c2 : Nat) (l2 : List Int) (r : Int) (w : World) (hr0_2 : Kd.C (Kd.int .i64) w A0_2 l0_2.length l0_2) (hc0_2 : l0_2.length ≤ c0_2) (hr1 : Kd.C (Kd.int .i64) w A1 l1.length l1) (hc1 : l1.length ≤ c1) (hr2 : Kd.C (Kd.int .i64) w A2 l2.length l2) (hc2 : l2.length ≤ c2) (h : r4Dot.f k a0_0 a0_1 l0_2 l1 l2 = some r) :
  Calls Try.prog 34 #[.agg #[.int .i64 a0_0, .int .i64 a0_1, .slice A0_2 l0_2.length c0_2], .slice A1 l1.length c1, .slice A2 l2.length c2] w fun e w' => e = .returned (.int .i64 r) ∧ Below w.heap.size w w' := by
 have hu24 := Try.underlying24;have HR0_2 := Q9a.mk hr0_2;have HC0_2 := Q9a.mk hc0_2;clear hr0_2 hc0_2;have HR1 := Q9a.mk hr1;have HC1 := Q9a.mk hc1;clear hr1 hc1;have HR2 := Q9a.mk hr2;have HC2 := Q9a.mk hc2;clear hr2 hc2;have HB := Q9a.mk (Below.refl w.heap.size w);have H : (r4Dot.l0 k l1 l2 0 0 a0_0 a0_1 l0_2) = some r := h;clear h;have H' := Q9a.mk H;clear H;go_enter Try.func34, Try.ntmps34
 go_wp2_with (first | ((with_reducible refine gD (N := 3) rfl ?_); (try (refine gG (by rfl) ?_; dsimp only)); refine bE ?hg (N := 3) ?hd (cs := #[.int .i64 a0_0, .int .i64 a0_1, .slice A0_2 l0_2.length c0_2]) (t := 24) ?hr ?_; (case hd => rfl); (case hg => rfl); (case hr => first | (go_simp; done) | (go_simp; rfl)); intro gb495 hg w4 hbox hb; have n0_ := Q9a.mk (bP (bI HB.out) hb); have n1_ := Q9a.mk (hbox); have n2_ := Q9a.mk ((by rw [hg]; exact (bZ (bI HB.out)) : w.heap.size ≤ gb495)); have n3_ := n2_; clear HB; have HB := n0_; have BK495 := n1_; have GW495 := n2_; have GE495 := n3_; clear n0_ n1_ n2_ n3_; clear hb hbox hg))
 go_loopg [7, 8] k (fun kq v7 v8 w' => ∃ (x7_1 : Int) (x8_1 : Int), v7 = .int .i64 x7_1 ∧ v8 = .int .i64 x8_1 ∧ Q9a (r4Dot.l0 kq l1 l2 x7_1 x8_1 a0_0 a0_1 l0_2 = some r) ∧ Q9a (kq ≤ k) ∧ Q9a (w'.heap[gb495]? = some (.cells #[.int .i64 a0_0, .int .i64 a0_1, (.slice A0_2 l0_2.length c0_2)] 24 (0, 0))) ∧ Q9a (Below w.heap.size w w'))
 case atStart => exact ⟨(0), (0), (by first | rfl | (simp; done) | (simp [*]; done)), (by first | rfl | (simp; done) | (simp [*]; done)), H', ⟨Nat.le_refl _⟩, ⟨kI BK495.out⟩, ⟨bJ HB.out GE495.out⟩⟩
 case round =>
  clear H';try clear c1
  try clear c2
  try clear p2
  try clear c3
  obtain ⟨x7_1, x8_1, rfl, rfl, HA, HK1, BK495, HB⟩ := hrel
  cases gk with
  | zero => exact absurd HA.out (by simp [r4Dot.l0])
  | succ k1 =>
   have H := HA.out;clear HA;simp only [r4Dot.l0] at H;have HC5 := Q9a.mk H;clear H;go_upto_region 3 with (fail)
   go_cut [18] (fun v18 wc => ∃ (kq : Nat) (x18_4 : Bool), v18 = .bool x18_4 ∧ Q9a (r4Dot.j1 kq l1 l2 x7_1 x8_1 x18_4 a0_0 a0_1 l0_2 = some r) ∧ Q9a (kq ≤ k1) ∧ Q9a (wc.heap[gb495]? = some (.cells #[.int .i64 a0_0, .int .i64 a0_1, (.slice A0_2 l0_2.length c0_2)] 24 (0, 0))) ∧ Q9a (Below w.heap.size w wc))
   case first =>
    have H := HC5.out;clear HC5;by_cases c6 : x8_1 < (l1.length : Int)
    ·rw [if_pos c6] at H;have c6b0 : decide (x8_1 < (l1.length : Int)) = true := decide_eq_true c6;clear c6;(first | rw [c6b0] | (simp only [i64_w, i32_w]; rw [c6b0]) | skip)
     have H' := Q9a.mk H;clear H;go_wp2
     go_meet
     case rel => exact ⟨_, (decide (x8_1 < (l2.length : Int))), (by first | rfl | (simp; done) | (simp [*]; done)), H', ⟨by have := HK1.out; first | omega | exact Nat.le_refl _⟩, ⟨kI BK495.out⟩, ⟨bJ HB.out GE495.out⟩⟩
    rw [if_neg c6] at H;have c6b0 : decide (x8_1 < (l1.length : Int)) = false := decide_eq_false c6;clear c6;(first | rw [c6b0] | (simp only [i64_w, i32_w]; rw [c6b0]) | skip)
    have H' := Q9a.mk H;clear H;go_wp2
    go_meet
    case rel => exact ⟨_, (false), (by first | rfl | (simp; done) | (simp [*]; done)), H', ⟨by have := HK1.out; first | omega | exact Nat.le_refl _⟩, ⟨kI BK495.out⟩, ⟨bJ HB.out GE495.out⟩⟩
   case rest =>
    clear HC5;try clear c1
    try clear c2
    try clear p2
    try clear c3
    try clear c6
    try clear c6b0
    try clear p2
    obtain ⟨kq, x18_4, rfl, HA, HJ4, BK495, HB⟩ := hcut
    cases kq with
    | zero => exact absurd HA.out (by simp [r4Dot.j1])
    | succ kj4 =>
     have H := HA.out;clear HA;simp only [r4Dot.j1] at H;by_cases c7 : x18_4 = true
     ·subst c7;have H1 : (if 0 ≤ x8_1 then (if x8_1 < (l1.length : Int) then (if x8_1 < (l2.length : Int) then ((r4Mul.f kj4 a0_0 a0_1 l0_2 (rd l1 x8_1) (rd l2 x8_1)).bind fun t498 => ((r4Add.f kj4 a0_0 a0_1 l0_2 x7_1 t498).bind fun t499 => (r4Dot.l0 kj4 l1 l2 t499 (wrap64 (x8_1 + 1)) a0_0 a0_1 l0_2))) else (none)) else (none)) else (none)) = some r := by rw [if_pos rfl] at H; exact H
      clear H;have H := H1;clear H1;by_cases c8 : 0 ≤ x8_1
      ·rw [if_pos c8] at H;have c8b0 : decide (0 ≤ x8_1) = true := decide_eq_true c8;clear c8;by_cases c9 : x8_1 < (l1.length : Int)
       ·rw [if_pos c9] at H;have c9b0 : decide (x8_1 < (l1.length : Int)) = true := decide_eq_true c9;clear c9;by_cases c10 : x8_1 < (l2.length : Int)
        ·rw [if_pos c10] at H;have c10b0 : decide (x8_1 < (l2.length : Int)) = true := decide_eq_true c10;clear c10;replace H := Option.bind_eq_some_iff.mp H;obtain ⟨t498, A110, H⟩ := H;replace H : ((r4Add.f kj4 a0_0 a0_1 l0_2 x7_1 t498).bind fun t499 => (r4Dot.l0 kj4 l1 l2 t499 (wrap64 (x8_1 + 1)) a0_0 a0_1 l0_2)) = some r := H;have A11 := Q9a.mk A110;clear A110;replace H := Option.bind_eq_some_iff.mp H;obtain ⟨t499, A120, H⟩ := H;replace H : (r4Dot.l0 kj4 l1 l2 t499 (wrap64 (x8_1 + 1)) a0_0 a0_1 l0_2) = some r := H;have A12 := Q9a.mk A120;clear A120;have H' := Q9a.mk H;clear H;try go_wp2
         have n0_ := Q9a.mk (kD BK495.out);have n1_ := Q9a.mk (bD HB.out);clear BK495;clear HB;have BK495 := n0_;have HB := n1_;clear n0_ n1_;have p496 : 0 ≤ (x8_1 : Int) := of_decide_eq_true (by first | (with_reducible assumption) | assumption);have q496 : x8_1 < (l1.length : Int) := of_decide_eq_true (by first | (with_reducible assumption) | assumption);obtain ⟨ad496, e496, hx496_0⟩ := Kd.at_int HR1.out x8_1 p496 q496;have hw496_0 := hx496_0
         cases e496
         replace hx496_0 := (HB.out.cell (World.block_lt_of_cell? w _ hx496_0)).trans hx496_0;replace p496 := eq_true p496;replace q496 := eq_true q496;have p497 : 0 ≤ (x8_1 : Int) := of_decide_eq_true (by first | (with_reducible assumption) | assumption);have q497 : x8_1 < (l2.length : Int) := of_decide_eq_true (by first | (with_reducible assumption) | assumption);obtain ⟨ad497, e497, hx497_0⟩ := Kd.at_int HR2.out x8_1 p497 q497;have hw497_0 := hx497_0
         cases e497
         replace hx497_0 := (HB.out.cell (World.block_lt_of_cell? w _ hx497_0)).trans hx497_0;replace p497 := eq_true p497;replace q497 := eq_true q497;refine start_ (n := 14) (S := fun w' => w'.cell? ⟨gb495, 0, none⟩ = some (.int .i64 a0_0) ∧ w'.cell? ⟨gb495, 1, none⟩ = some (.int .i64 a0_1) ∧ w'.cell? ⟨gb495, 2, none⟩ = some (.slice A0_2 l0_2.length c0_2) ∧ w'.cell? (ad496.add (x8_1).toNat) = some (.int .i64 (rd l1 x8_1)) ∧ w'.cell? (ad497.add (x8_1).toNat) = some (.int .i64 (rd l2 x8_1))) (ds := []) #[fB,fB,fB,fB,fB,fB,fB,fB,fB,fB,fB,fB,fB,fB] (by kernel_rfl) rfl rfl ⟨(kC BK495.out 0).trans rfl, (kC BK495.out 1).trans rfl, (kC BK495.out 2).trans rfl, ((HB.out.cell (World.block_lt_of_cell? w _ hw496_0)).trans hw496_0), ((HB.out.cell (World.block_lt_of_cell? w _ hw497_0)).trans hw497_0)⟩ (fun hHeld => ?_); refine with_tabW r4Dot.tab5 r4Dot.bits5 (fun HT_ HW_ => ?_);generalize wc.drew = w13 at BK495 HB hx496_0 hx497_0 hHeld ⊢;refine pT 1 22 rfl HT_.out ?_;refine pT 3 24 rfl HT_.out ?_;refine pT 4 25 rfl HT_.out ?_;refine pT 5 26 rfl HT_.out ?_;refine pT 7 28 rfl HT_.out ?_;refine pT 8 29 rfl HT_.out ?_;refine pT 9 30 rfl HT_.out ?_;refine tT 0 21 rfl HT_.out HW_.out hHeld ?_;refine tT 2 23 rfl HT_.out HW_.out hHeld ?_;refine tT 6 27 rfl HT_.out HW_.out hHeld ?_;refine tT 10 31 rfl HT_.out HW_.out hHeld ?_;refine oT 11 32 rfl HT_.out (fun K hK => ?_);refine goes_ Try.func16 (by kernel_rfl) rfl #[.agg #[.int .i64 a0_0, .int .i64 a0_1, .slice A0_2 l0_2.length c0_2], .int .i64 (rd l1 x8_1), .int .i64 (rd l2 x8_1)] (by rfl) rfl rfl (by (try simp only [sm1, sm2, sm3]); first | done | rfl | (simp only [sm4, sm5]; rfl)) ?_;with_reducible refine (r4Mul.calls kj4 a0_0 a0_1 _ _ l0_2 (rd l1 x8_1) (rd l2 x8_1) t498 _ ?side1 ?side2 A11.out).mono ?_
         (case side1 => exact cI HR0_2.out HB.out)
         (case side2 => exact HC0_2.out)
         rintro e w14 ⟨rfl, hb⟩;refine ⟨_, rfl, ?_⟩;have n0_ := Q9a.mk (kB (g := gb495) (o := .cells #[.int .i64 a0_0, .int .i64 a0_1, .slice A0_2 l0_2.length c0_2] 24 (0, 0)) (kI BK495.out) hb);have n1_ := Q9a.mk (bP (bJ HB.out GE495.out) hb);clear BK495;clear HB;have BK495 := n0_;have HB := n1_;clear n0_ n1_;refine hK.out _ _ ⟨(kC BK495.out 0).trans rfl, (kC BK495.out 1).trans rfl, (kC BK495.out 2).trans rfl, ((HB.out.cell (World.block_lt_of_cell? w _ hw496_0)).trans hw496_0), ((HB.out.cell (World.block_lt_of_cell? w _ hw497_0)).trans hw497_0)⟩ (fun hHeld => ?_);clear hK K;refine norm_ (a' := ?_) ?_ ?_;rotate_left
         ·show Act.put _ (some 32) _ = _
          simp only [Act.put, sz1, sz2, sz3, i64_w, i32_w];rfl
         refine oT 12 33 rfl HT_.out (fun K hK => ?_);refine goes_ Try.func31 (by kernel_rfl) rfl #[.agg #[.int .i64 a0_0, .int .i64 a0_1, .slice A0_2 l0_2.length c0_2], .int .i64 x7_1, .int .i64 t498] (by rfl) rfl rfl (by (try simp only [sm1, sm2, sm3]); first | done | rfl | (simp only [sm4, sm5]; rfl)) ?_;with_reducible refine (r4Add.calls kj4 a0_0 a0_1 _ _ l0_2 x7_1 t498 t499 _ ?side1 ?side2 A12.out).mono ?_
         (case side1 => exact cI HR0_2.out HB.out)
         (case side2 => exact HC0_2.out)
         rintro e w15 ⟨rfl, hb⟩;refine ⟨_, rfl, ?_⟩;have n0_ := Q9a.mk (kB (g := gb495) (o := .cells #[.int .i64 a0_0, .int .i64 a0_1, .slice A0_2 l0_2.length c0_2] 24 (0, 0)) (kI BK495.out) hb);have n1_ := Q9a.mk (bP (bJ HB.out GE495.out) hb);clear BK495;clear HB;have BK495 := n0_;have HB := n1_;clear n0_ n1_;refine hK.out _ _ ⟨(kC BK495.out 0).trans rfl, (kC BK495.out 1).trans rfl, (kC BK495.out 2).trans rfl, ((HB.out.cell (World.block_lt_of_cell? w _ hw496_0)).trans hw496_0), ((HB.out.cell (World.block_lt_of_cell? w _ hw497_0)).trans hw497_0)⟩ (fun hHeld => ?_);clear hK K;refine norm_ (a' := ?_) ?_ ?_;rotate_left
         ·show Act.put _ (some 33) _ = _
          simp only [Act.put, sz1, sz2, sz3, i64_w, i32_w];rfl
         refine pT 13 7 rfl HT_.out ?_;refine done_ (done_of HT_.out (by kernel_rfl)) ?_;try go_wp2
         go_roundg kj4
         case measure => have := HK1.out; have := HJ4.out; omega
         case rel => exact ⟨(t499), (wrap64 (x8_1 + 1)), (by first | rfl | (simp; done) | (simp [*]; done)), (by first | rfl | (simp; done) | (simp [*]; done)), H', ⟨by have := HK1.out; have := HJ4.out; omega⟩, ⟨kI BK495.out⟩, ⟨bJ HB.out GE495.out⟩⟩
        rw [if_neg c10] at H;exact absurd H (by simp)
       rw [if_neg c9] at H;exact absurd H (by simp)
      rw [if_neg c8] at H;exact absurd H (by simp)
     replace c7 := Bool.eq_false_iff.mpr c7;subst c7;have H1 : (some x7_1) = some r := by rw [if_neg (show ¬ (false = true) by decide)] at H; exact H
     clear H;have H := H1;clear H1;obtain rfl := Option.some.inj H;go_wp2
     go_ret
     exact ⟨by first | rfl | (simp [*, eN, eS] <;> rfl), bJ HB.out GE495.out⟩
end
end Go.Proofs.Ytlbddjojhcgpiaa.P
end
