/- What dlogReaches_holds needs: texts Hv, put together. -/
import Derived.Test.YtbohbfggmnjpdaaKLR12
import Derived.Laws.StructEq
set_option linter.unusedVariables false
set_option linter.unusedSimpArgs false
-- Hv
section
namespace Go.Proofs.Ytbohbfggmnjpdaa.Hand
noncomputable section
open Go.RowKit Go.Maps Go.Proofs.Ytbohbfggmnjpdaa.P Go.Proofs.YtbohbfggmnjpdaaW.PrintWords
theorem lawI : Keyed Try.prog 3 := int_keyed Try.underlying3
theorem zeroI (w : World) : (zeroValue 3).run Try.prog w = .ok (.int .i64 0) w := by kernel_rfl
theorem wf_num (G : GFv) (z : Cw.El G.F) : (Lit.int .i64 (G.num z)).wf = true := by
 have h := G.num_is z
 have hq := G.q_le
 obtain ⟨h1, h2⟩ := h
 have h3 : IntKind.max .i64 = 9223372036854775807 := by decide
 have h4 : IntKind.min .i64 = -9223372036854775808 := by decide
 simp only [Lit.wf, Bool.and_eq_true]
 exact ⟨decide_eq_true (by omega), decide_eq_true (by omega)⟩
open Classical in
def solveV (G : GFv) (b x : Int) : Int × Int := if h : ∃ t, Cw.pw (G.el b) t = G.el x then (((Classical.choose (Cw.least_ex h) : Nat) : Int), 0) else (0, 11)
theorem solveV_found {G : GFv} {b x : Int} {N : Nat} (he : Cw.pw (G.el b) N = G.el x) (hmin : ∀ s, s < N → Cw.pw (G.el b) s ≠ G.el x) : solveV G b x = ((N : Int), 0) := by
 have h : ∃ t, Cw.pw (G.el b) t = G.el x := ⟨N, he⟩
 unfold solveV
 rw [dif_pos h]
 have hs := Classical.choose_spec (Cw.least_ex h)
 have e : Classical.choose (Cw.least_ex h) = N := by
  rcases Nat.lt_trichotomy (Classical.choose (Cw.least_ex h)) N with h1 | h1 | h1
  ·exact absurd hs.1 (hmin _ h1)
  ·exact h1
  ·exact absurd he (hs.2 N h1)
 rw [e]
theorem solveV_none {G : GFv} {b x : Int} (h : ∀ s, Cw.pw (G.el b) s ≠ G.el x) : solveV G b x = (0, 11) := by
 unfold solveV
 rw [dif_neg (fun ⟨t, ht⟩ => h t ht)]
theorem grown_of_below {W W' : World} (h : Below W.heap.size W W') : W.grownBy W' none := ⟨h.os, h.tape, h.output, h.size, fun k hk _ => h.block k hk⟩
theorem wf_small (j : Nat) (h : j ≤ 1000000) : (Lit.int .i64 (j : Int)).wf = true := by
 have h3 : IntKind.max .i64 = 9223372036854775807 := by decide
 have h4 : IntKind.min .i64 = -9223372036854775808 := by decide
 simp only [Lit.wf, Bool.and_eq_true]
 exact ⟨decide_eq_true (by omega), decide_eq_true (by omega)⟩
theorem Maps_heap_alloc (w : World) (o : Obj) : (w.alloc o).heap[w.heap.size]? = some o := by
 show (w.heap.push o)[w.heap.size]? = some o
 simp
theorem run_makeMap_hint (n : Int) (w : World) : (Instr.makeMap 72 (some (.int .i64 n))).run Try.prog w = .ok (.map (some w.heap.size)) (w.alloc (.map #[] 0)) := by
 have hu : Try.prog.underlying 72 = some (.map 3 3) := by kernel_rfl
 simp [Instr.makeMap, run_underlying hu, asInt, asIntOf, Result.andThen]
set_option maxRecDepth 100000 in
set_option maxHeartbeats 2000000 in
theorem solve_zero (gb : Nat) (G : GFv) (b x : Int) (h : ¬ G.is b ∨ b = 0) (w : World) (hg0 : GFok w gb G) :
  Calls Try.prog 24 #[.pointer (some ⟨gb, 0, none⟩), .int .i64 b, .int .i64 x] w fun e w' => e = .returned (.tuple #[.int .i64 0, .int .i64 7]) ∧ Below w.heap.size w w' := by
 by_cases hb : G.is b
 ·have h0 : b = 0 := h.resolve_left (fun h => h hb)
  subst h0
  have hi := field_GF_Is.calls gb G 0 true w hg0 (congrArg some (decide_eq_true hb))
  go_enter Try.func24, Try.ntmps24
  go_wp2_with (first | (go_at_call 40; refine hi.mono ?_; clear hi; rintro e w2 ⟨rfl, hb2⟩))
  go_ret2
  exact ⟨rfl, hb2⟩
 ·have hi := field_GF_Is.calls gb G b false w hg0 (congrArg some (decide_eq_false hb))
  go_enter Try.func24, Try.ntmps24
  go_wp2_with (first | (go_at_call 40; refine hi.mono ?_; clear hi; rintro e w2 ⟨rfl, hb2⟩))
  go_ret2
  exact ⟨rfl, hb2⟩
set_option maxRecDepth 100000 in
set_option maxHeartbeats 4000000 in
theorem solve_go (gb : Nat) (G : GFv) (b x : Int) (hb : G.is b) (hb0 : b ≠ 0) (hx : G.is x) (hx0 : x ≠ 0) (ko : Nat) (o : Nat) (pl : List Int) (ho : dlog_Order.f ko G b = some ((o : Int), pl, 0)) (hor : Cw.IsOrd (G.el b) o) (ho255 : o ≤ 255) (w : World) (hg0 : GFok w gb G) :
  Calls Try.prog 24 #[.pointer (some ⟨gb, 0, none⟩), .int .i64 b, .int .i64 x] w fun e w' => e = .returned (.tuple #[.int .i64 (solveV G b x).1, .int .i64 (solveV G b x).2]) ∧ Below w.heap.size w w' := by
 have cb : (b == 0) = false := beq_eq_false_iff_ne.2 hb0
 have cx : (x == 0) = false := beq_eq_false_iff_ne.2 hx0
 have hmm := run_makeMap_hint
 have hi := field_GF_Is.calls gb G b true w hg0 (congrArg some (decide_eq_true hb))
 go_enter Try.func24, Try.ntmps24
 go_wp2_with (first | (go_at_call 40; refine hi.mono ?_; clear hi; rintro e w2 ⟨rfl, hb2⟩; have hi2 := field_GF_Is.calls gb G x true w2 (hg0.below hb2) (congrArg some (decide_eq_true hx))) | (go_at_call 40; refine hi2.mono ?_; clear hi2; rintro e w3 ⟨rfl, hb3⟩; have hord := dlog_Order.calls ko gb G b (o : Int) pl 0 w3 ((hg0.below hb2).below hb3) ho) | (go_at_call 21; refine hord.mono ?_; clear hord; rintro e w4 ⟨vp, rfl, hR4, hb4⟩; obtain ⟨inner4, hown4⟩ := Kd.R_own hR4; obtain ⟨Ap, cp, rfl⟩ := own_slice hown4))
 obtain ⟨w5, hw5⟩ : ∃ w5, w5 = w4.alloc (Obj.cells #[Value.int IntKind.i64 (o : Int), Value.slice Ap pl.length cp] 26) := ⟨_, rfl⟩
 have hB4 : Below w.heap.size w w4 := (hb2.trans (hb3.mono hb2.size)).trans (hb4.mono (Nat.le_trans hb2.size hb3.size))
 have hB5 : Below w.heap.size w w5 := by rw [hw5]; exact hB4.alloc hB4.size _
 have hc0 : w5.cell? ⟨w4.heap.size, 0, none⟩ = some (.int .i64 (o : Int)) := by rw [hw5]; exact (kC (Maps_heap_alloc w4 _) 0).trans rfl
 have hk5 : w5.heap[w4.heap.size]? = some (.cells #[.int .i64 (o : Int), .slice Ap pl.length cp] 26 (0, 0)) := by rw [hw5]; exact Maps_heap_alloc w4 _
 rw [← hw5]
 clear hw5
 go_loopw [10] (fun s wr => wr = w5 ∧ ∃ n : Nat, s = .int .i64 (n : Int) ∧ 1 ≤ n ∧ n ≤ 300) (fun s _ => 400 - (intOf s).toNat)
 case atStart => exact ⟨rfl, 1, rfl, by omega, by omega⟩
 case round =>
  obtain ⟨hwr, n, rfl, h1, h2⟩ := hrel
  have hwr' := hwr.symm
  clear hwr
  subst hwr'
  have hnn : n * n ≤ 300 * 300 := Nat.mul_le_mul h2 h2
  have hw : wrap64 ((n : Int) * (n : Int)) = ((n * n : Nat) : Int) := by rw [← Int.natCast_mul]; exact Pl.w64n _ (by omega)
  by_cases hlt : ((n * n : Nat) : Int) < (o : Int)
  ·have hn16 : n ≤ 299 := by
    refine Nat.le_of_not_lt (fun h => ?_)
    have := Nat.mul_le_mul (show 16 ≤ n by omega) (show 16 ≤ n by omega)
    omega
   go_wp2
   refine ⟨⟨trivial, n + 1, by simp, by omega, by omega⟩, ?_⟩
   simp [intOf]
   omega
  ·go_wp2
   have hown0 := World.ownsMap_made w5 Try.prog 3 (plainElem (H := Unit) Try.prog 3)
   have hB6 : Below w.heap.size w (w5.alloc (.map #[] 0)) := hB5.alloc hB5.size _
   have hl4 : w4.heap.size < w5.heap.size := (Array.getElem?_eq_some_iff.1 hk5).1
   have hk6 : (w5.alloc (.map #[] 0)).heap[w4.heap.size]? = some (.cells #[.int .i64 (o : Int), .slice Ap pl.length cp] 26 (0, 0)) := (Below.heap_alloc w5 _ _ hl4).trans hk5
   have hBw : w.heap.size ≤ w5.heap.size := hB5.size
   obtain ⟨w6, hw6⟩ : ∃ w6, w6 = w5.alloc (.map #[] 0) := ⟨_, rfl⟩
   rw [← hw6] at hB6 hk6 hown0 ⊢
   go_loopw [12, 56] (fun y s wr => ∃ j : Nat, s = .int .i64 (j : Int) ∧ j ≤ n ∧ y = .int .i64 (G.num (Cw.pw (G.el b) j)) ∧ wr.ownsMap Try.prog 3 (plainElem Try.prog 3) w5.heap.size j (babyD G b j) ∧ wr.heap[w4.heap.size]? = some (.cells #[.int .i64 (o : Int), .slice Ap pl.length cp] 26 (0, 0)) ∧ Below w.heap.size w wr) (fun _ s _ => 400 - (intOf s).toNat)
   case atStart => exact ⟨0, rfl, Nat.zero_le _, by rw [Cw.pw_zero, G.num_one], hown0, hk6, hB6⟩
   case round =>
    obtain ⟨j, rfl, hj, rfl, hown, hkq, hBq⟩ := hrel
    have hgq : GFok wr gb G := hg0.below hBq
    have wfn : (Lit.int .i64 (G.num (Cw.pw (G.el b) j))).wf = true := wf_num G _
    have hkey : keyOf Try.prog 3 (.int .i64 (G.num (Cw.pw (G.el b) j))) = some (.int .i64 (G.num (Cw.pw (G.el b) j))) := keyOf_int_mk Try.underlying3 wfn
    by_cases hjn : (j : Int) < (n : Int)
    ·have hmulf : field_GF_Mul.f G (G.num (Cw.pw (G.el b) j)) b = some (G.num (Cw.pw (G.el b) (j + 1))) := congrArg some (by unfold Cw.GFv.mul; rw [G.el_num, Cw.pw_succ])
     by_cases hh : has (babyD G b j) (.int .i64 (G.num (Cw.pw (G.el b) j))) = true
     ·have hmul := field_GF_Mul.calls gb G (G.num (Cw.pw (G.el b) j)) b _ wr hgq hmulf
      go_wp2_with (first
       | (at_lookup; refine wpList_lookup_own_ok_int _ rfl _ _ 72 rfl 3 3 .i64 lawI Try.underlying72 Try.underlying3 (zeroI _) w5.heap.size j _ rfl hown _ _ rfl hkey ?_; intro c hat hwc)
       | (go_at_call 48; refine hmul.mono ?_; clear hmul; rintro e wz ⟨rfl, hbz⟩))
      have e1 : babyD G b (j + 1) = babyD G b j := if_pos hh
      refine ⟨⟨j + 1, by simp, by omega, rfl, ?_, (hbz.block _ (Array.getElem?_eq_some_iff.1 hkq).1).trans hkq, hBq.trans (hbz.mono hBq.size)⟩, by simp [intOf]; omega⟩
      rw [e1]
      exact ((hown.mono (Nat.le_succ j)).kept (grown_of_below hbz) (by simp))
     ·have hh' : has (babyD G b j) (.int .i64 (G.num (Cw.pw (G.el b) j))) = false := Bool.eq_false_iff.mpr hh
      go_wp2_with (first
       | (at_lookup; refine wpList_lookup_own_ok_int _ rfl _ _ 72 rfl 3 3 .i64 lawI Try.underlying72 Try.underlying3 (zeroI _) w5.heap.size j _ rfl hown _ _ rfl hkey ?_; intro c hat hwc)
       | (at_mapUpdate; refine wpList_mapUpdate_own _ rfl _ _ _ 72 rfl 3 3 lawI Try.underlying72 _ w5.heap.size j _ rfl hown (by unfold maxLen; omega) _ _ _ rfl rfl hkey _ [] (plainElem_int Try.underlying3 (wf_small j (by omega))) ?_; intro w1 hown1 hgrow1; have hB1 := hBq.grown hgrow1 hBq.size (fun k e => by cases e; exact hBw); have hmul := field_GF_Mul.calls gb G (G.num (Cw.pw (G.el b) j)) b _ w1 (hg0.below hB1) hmulf)
       | (go_at_call 48; refine hmul.mono ?_; clear hmul; rintro e wz ⟨rfl, hbz⟩))
      have e1 : babyD G b (j + 1) = (babyD G b j).put (bkey G b j) (.lit (.int .i64 (j : Int))) := if_neg hh
      have hk1 := (hgrow1.block _ (Array.getElem?_eq_some_iff.1 hkq).1 (by simp; omega)).trans hkq
      refine ⟨⟨j + 1, by simp, by omega, rfl, ?_, (hbz.block _ (Array.getElem?_eq_some_iff.1 hk1).1).trans hk1, hB1.trans (hbz.mono hB1.size)⟩, by simp [intOf]; omega⟩
      rw [e1]
      exact hown1.kept (grown_of_below hbz) (by simp)
    ·obtain ⟨gv, ev, hgvf⟩ : ∃ gv ev, field_GF_Inv.f G (G.num (Cw.pw (G.el b) j)) = some (gv, ev) := ⟨_, _, rfl⟩
     have hinv := field_GF_Inv.calls gb G (G.num (Cw.pw (G.el b) j)) gv ev wr hgq hgvf
     go_wp2_with (go_at_call 49; refine hinv.mono ?_; clear hinv; rintro e wz ⟨rfl, hbz⟩)
     obtain rfl : j = n := by omega
     have hBz : Below w.heap.size w wz := hBq.trans (hbz.mono hBq.size)
     have hkz := (hbz.block _ (Array.getElem?_eq_some_iff.1 hkq).1).trans hkq
     have hownz := hown.kept (grown_of_below hbz) (by simp)
     have hgv : gv = (G.inv (G.num (Cw.pw (G.el b) j))).1 := by
      have h9 := Option.some.inj hgvf
      rw [h9]
     obtain ⟨γ, hγ⟩ : ∃ γ : Cw.El G.F, G.el gv = γ := ⟨_, rfl⟩
     have hgi : Cw.pw (G.el b) j * γ = 1 := by
      have hne : Cw.pw (G.el b) j ≠ 0 := Cw.pw_ne hor.ne j
      rw [← hγ, hgv]
      unfold Cw.GFv.inv
      rw [G.el_num, if_neg hne, G.el_num, Cw.mul_comm, ← Cw.pw_succ, show G.q - 2 + 1 = G.q - 1 by have := G.q_ge; omega]
      exact Cw.pw_card hne
     clear hgv hgvf
     go_loopw [2, 18] (fun xv s wr => ∃ (i : Nat) (xx : Int), s = .int .i64 (i : Int) ∧ i ≤ 300 ∧ xv = .int .i64 xx ∧ G.is xx ∧ G.el xx = G.el x * Cw.pw γ i ∧ (∀ t, t < i * j → Cw.pw (G.el b) t ≠ G.el x) ∧ wr.ownsMap Try.prog 3 (plainElem Try.prog 3) w5.heap.size j (babyD G b j) ∧ wr.heap[w4.heap.size]? = some (.cells #[.int .i64 (o : Int), .slice Ap pl.length cp] 26 (0, 0)) ∧ Below w.heap.size w wr) (fun _ s _ => 400 - (intOf s).toNat)
     case atStart => exact ⟨0, x, rfl, by omega, rfl, hx, by rw [Cw.pw_zero, Cw.mul_one], fun t ht => by omega, hownz, hkz, hBz⟩
     case round =>
      obtain ⟨i, xx, rfl, hi, rfl, hxx, hel, hno, hown, hkq, hBq⟩ := hrel
      have hgq : GFok wr gb G := hg0.below hBq
      have hcell : wr.cell? ⟨w4.heap.size, 0, none⟩ = some (.int .i64 (o : Int)) := (kC hkq 0).trans rfl
      have wfx : (Lit.int .i64 xx).wf = true := by rw [← G.inn_of hxx, ← G.num_el]; exact wf_num G _
      have hkey : keyOf Try.prog 3 (.int .i64 xx) = some (.int .i64 xx) := keyOf_int_mk Try.underlying3 wfx
      have hin : i * j ≤ 300 * 300 := Nat.mul_le_mul hi h2
      have hw : wrap64 ((i : Int) * (j : Int)) = ((i * j : Nat) : Int) := by rw [← Int.natCast_mul]; exact Pl.w64n _ (by omega)
      have hshift : ∀ u, Cw.pw (G.el b) (i * j + u) = G.el x ↔ Cw.pw (G.el b) u = G.el xx := by
       intro u
       have hb1 : Cw.pw (Cw.pw (G.el b) j) i * Cw.pw γ i = 1 := by rw [← Cw.mul_pw, hgi, Cw.one_pw]
       rw [Cw.pw_add, Nat.mul_comm i j, Cw.pw_mul, hel]
       constructor
       ·intro h
        rw [← h, Cw.mul_comm (Cw.pw (Cw.pw (G.el b) j) i), Cw.mul_assoc, hb1, Cw.mul_one]
       ·intro h
        rw [h, Cw.mul_comm, Cw.mul_assoc, Cw.mul_comm (Cw.pw γ i), hb1, Cw.mul_one]
      have hnx : ∀ z, z = G.el xx → G.num z = xx := fun z hz => by rw [hz, G.num_el, G.inn_of hxx]
      have hnj : ∀ z, G.num z = xx → z = G.el xx := fun z hz => G.num_inj (by rw [hz, G.num_el, G.inn_of hxx])
      have hγ2 := hγ
      clear hγ
      by_cases hlt : ((i * j : Nat) : Int) < (o : Int)
      ·by_cases hh : has (babyD G b j) (.int .i64 xx) = true
       ·obtain ⟨u, hu, hue⟩ := (baby_has G b xx j).1 hh
        obtain ⟨t, ht, hmin⟩ := Cw.least_ex (P := fun t => G.num (Cw.pw (G.el b) t) = xx) ⟨u, hue⟩
        have htj : t < j := Nat.lt_of_not_le (fun h => hmin u (Nat.lt_of_lt_of_le hu h) hue)
        have hat0 := baby_at G b xx (.lit (.int .i64 0)) j t htj ht (fun s hs => hmin s hs)
        have hcv : ∀ c : Int, (babyD G b j).atKey (.int .i64 xx) (.lit (.int .i64 0)) = .lit (.int .i64 c) → c = (t : Int) := by
         intro c hc
         rw [hat0] at hc
         injection hc with h1
         injection h1 with _ h2
         exact h2.symm
        have hsol : solveV G b x = (((i * j + t : Nat) : Int), 0) := by
         refine solveV_found ((hshift t).2 (hnj _ ht)) (fun s hs he => ?_)
         by_cases hsi : s < i * j
         ·exact hno s hsi he
         ·obtain ⟨v, rfl⟩ : ∃ v, s = i * j + v := ⟨s - i * j, (Nat.add_sub_of_le (Nat.le_of_not_lt hsi)).symm⟩
          exact hmin v (Nat.lt_of_add_lt_add_left hs) (hnx _ ((hshift v).1 he))
        have hw2 : wrap64 (((i * j : Nat) : Int) + (t : Int)) = ((i * j + t : Nat) : Int) := by rw [← Int.natCast_add]; exact Pl.w64n _ (Nat.lt_of_le_of_lt (Nat.add_le_add hin (Nat.le_trans (Nat.le_of_lt htj) h2)) (by decide))
        have A1 := Q9a.mk hsol
        have A2 := Q9a.mk hw2
        have A3 := Q9a.mk hcv
        clear hsol hw2 hcv hat0 hmin ht hue hu hshift hnx hnj
        go_wp2_with (at_lookup; refine wpList_lookup_own_ok_int _ rfl _ _ 72 rfl 3 3 .i64 lawI Try.underlying72 Try.underlying3 (zeroI _) w5.heap.size j _ rfl hown _ _ rfl hkey ?_; intro c hat hwc; have hc := Q9a.mk (A3.out c hat); clear hat)
        obtain ⟨hc⟩ := hc
        subst hc
        go_ret2
        refine ⟨?_, hBq⟩
        rw [A1.out]
        have hw2 := A2.out
        have hv : wrap64 ((i : Int) * (j : Int) + (t : Int)) = ((i * j + t : Nat) : Int) := by rw [← Int.natCast_mul]; exact hw2
        show Ending.returned (.tuple #[.int .i64 (wrap64 ((i : Int) * (j : Int) + (t : Int))), .int .i64 0]) = Ending.returned (.tuple #[.int .i64 ((i * j + t : Nat) : Int), .int .i64 0])
        rw [hv]
       ·have hh' : has (babyD G b j) (.int .i64 xx) = false := Bool.eq_false_iff.mpr hh
        have hmul := field_GF_Mul.calls gb G xx gv (G.mul xx gv) wr hgq rfl
        have hno2 : ∀ t, t < (i + 1) * j → Cw.pw (G.el b) t ≠ G.el x := by
         intro t ht he
         by_cases hti : t < i * j
         ·exact hno t hti he
         ·obtain ⟨v, rfl⟩ : ∃ v, t = i * j + v := ⟨t - i * j, (Nat.add_sub_of_le (Nat.le_of_not_lt hti)).symm⟩
          rw [Nat.succ_mul] at ht
          exact hh ((baby_has G b xx j).2 ⟨v, Nat.lt_of_add_lt_add_left ht, hnx _ ((hshift v).1 he)⟩)
        have hi255 : i ≤ 255 := Nat.le_trans (Nat.le_mul_of_pos_right i (show 0 < j by omega)) (by omega)
        have hel2 : G.el (G.mul xx gv) = G.el x * Cw.pw γ (i + 1) := by
         have e1 : G.el (G.mul xx gv) = G.el xx * G.el gv := G.el_num _
         rw [e1, hel, hγ2, Cw.mul_assoc, Cw.pw_succ]
        go_wp2_with (first
         | (at_lookup; refine wpList_lookup_own_ok_int _ rfl _ _ 72 rfl 3 3 .i64 lawI Try.underlying72 Try.underlying3 (zeroI _) w5.heap.size j _ rfl hown _ _ rfl hkey ?_; intro c hat hwc)
         | (go_at_call 48; refine hmul.mono ?_; clear hmul; rintro e wy ⟨rfl, hby⟩))
        refine ⟨⟨i + 1, G.mul xx gv, by simp, by omega, rfl, G.num_is _, hel2, hno2, hown.kept (grown_of_below hby) (by simp), (hby.block _ (Array.getElem?_eq_some_iff.1 hkq).1).trans hkq, hBq.trans (hby.mono hBq.size)⟩, by simp [intOf]; omega⟩
      ·have hsol : solveV G b x = (0, 11) := by
        refine solveV_none (fun s hs => ?_)
        have hm := Nat.mod_lt s hor.1
        refine hno (s % o) (by omega) ?_
        rw [← hs]
        have e1 : Cw.pw (G.el b) s = Cw.pw (G.el b) (o * (s / o) + s % o) := by rw [Nat.div_add_mod]
        rw [e1, Cw.pw_add, Cw.pw_mul, hor.pow_one, Cw.one_pw, Cw.one_mul]
       go_wp2
       go_ret2
       exact ⟨rfl, hBq⟩
set_option maxRecDepth 100000 in
set_option maxHeartbeats 2000000 in
theorem solve_zerox (gb : Nat) (G : GFv) (b x : Int) (hb : G.is b) (hb0 : b ≠ 0) (h : ¬ G.is x ∨ x = 0) (w : World) (hg0 : GFok w gb G) :
  Calls Try.prog 24 #[.pointer (some ⟨gb, 0, none⟩), .int .i64 b, .int .i64 x] w fun e w' => e = .returned (.tuple #[.int .i64 0, .int .i64 7]) ∧ Below w.heap.size w w' := by
 have cb : (b == 0) = false := beq_eq_false_iff_ne.2 hb0
 by_cases hx : G.is x
 ·have h0 : x = 0 := h.resolve_left (fun h => h hx)
  subst h0
  have hi := field_GF_Is.calls gb G b true w hg0 (congrArg some (decide_eq_true hb))
  go_enter Try.func24, Try.ntmps24
  go_wp2_with (first | (go_at_call 40; refine hi.mono ?_; clear hi; rintro e w2 ⟨rfl, hb2⟩; have hi2 := field_GF_Is.calls gb G 0 true w2 (hg0.below hb2) (congrArg some (decide_eq_true hx))) | (go_at_call 40; refine hi2.mono ?_; clear hi2; rintro e w3 ⟨rfl, hb3⟩))
  go_ret2
  exact ⟨rfl, hb2.trans (hb3.mono hb2.size)⟩
 ·have hi := field_GF_Is.calls gb G b true w hg0 (congrArg some (decide_eq_true hb))
  go_enter Try.func24, Try.ntmps24
  go_wp2_with (first | (go_at_call 40; refine hi.mono ?_; clear hi; rintro e w2 ⟨rfl, hb2⟩; have hi2 := field_GF_Is.calls gb G x false w2 (hg0.below hb2) (congrArg some (decide_eq_false hx))) | (go_at_call 40; refine hi2.mono ?_; clear hi2; rintro e w3 ⟨rfl, hb3⟩))
  go_ret2
  exact ⟨rfl, hb2.trans (hb3.mono hb2.size)⟩
open Classical in
def dlog_Solve.f (G : GFv) (b x : Int) : Option (Int × Int) :=
 if ¬ G.is b ∨ b = 0 then some (0, 7) else if ¬ G.is x ∨ x = 0 then some (0, 7)
 else if ∃ o : Nat, Cw.IsOrd (G.el b) o ∧ o ≤ 255 ∧ ∃ ko pl, dlog_Order.f ko G b = some ((o : Int), pl, 0) then some (solveV G b x) else none
theorem dlog_Solve.calls (b_a0 : Nat) (a0 : GFv) (a1 : Int) (a2 : Int) (r1 : Int) (r2 : Int) (w : World) (hg0 : GFok w b_a0 a0) (h : dlog_Solve.f a0 a1 a2 = some (r1, r2)) :
  Calls Try.prog 24 #[.pointer (some ⟨b_a0, 0, none⟩), .int .i64 a1, .int .i64 a2] w fun e w' => e = .returned (.tuple #[.int .i64 r1, .int .i64 r2]) ∧ Below w.heap.size w w' := by
 unfold dlog_Solve.f at h
 split at h
 ·rename_i h1
  obtain ⟨rfl, rfl⟩ : (0 : Int) = r1 ∧ (7 : Int) = r2 := by simpa using h
  exact solve_zero b_a0 a0 a1 a2 h1 w hg0
 split at h
 ·rename_i h1 h2
  obtain ⟨rfl, rfl⟩ : (0 : Int) = r1 ∧ (7 : Int) = r2 := by simpa using h
  exact solve_zerox b_a0 a0 a1 a2 (Classical.byContradiction fun hb => h1 (Or.inl hb)) (fun hb => h1 (Or.inr hb)) h2 w hg0
 split at h
 ·rename_i h1 h2 h3
  obtain ⟨o, ho, ho2, ko, pl, hk⟩ := h3
  have h' := Option.some.inj h
  obtain ⟨rfl, rfl⟩ : (solveV a0 a1 a2).1 = r1 ∧ (solveV a0 a1 a2).2 = r2 := by rw [h']; exact ⟨rfl, rfl⟩
  exact solve_go b_a0 a0 a1 a2 (Classical.byContradiction fun hb => h1 (Or.inl hb)) (fun hb => h1 (Or.inr hb)) (Classical.byContradiction fun hb => h2 (Or.inl hb)) (fun hb => h2 (Or.inr hb)) ko o pl hk ho ho2 w hg0
 ·cases h
end
end Go.Proofs.Ytbohbfggmnjpdaa.Hand
end
