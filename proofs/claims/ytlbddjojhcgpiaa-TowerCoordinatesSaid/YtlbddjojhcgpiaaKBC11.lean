/- What towerCoordinates_holds needs: texts Sv2, put together. -/
import Derived.Test.YtlbddjojhcgpiaaKBC10
import Derived.Deep.RegionWith
set_option linter.unusedVariables false
set_option linter.unusedSimpArgs false
set_option linter.unusedSectionVars false
set_option maxHeartbeats 8000000
set_option maxRecDepth 100000
-- Sv2
section
namespace Go.Proofs.Ytlbddjojhcgpiaa.Hand
noncomputable section
open Go.RowKit Go.Proofs.Ytlbddjojhcgpiaa.P Go.Proofs.YtlbddjojhcgpiaaW.PrintWords Go.Proofs.YtlbddjojhcgpiaaW.PrintLast Go.Proofs.YtlbddjojhcgpiaaW.PrintMore
theorem sub_f (G : GFv) (x y : Int) : field_GF_Sub.f G x y = some (G.sub x y) := by
 have e : G.add x (G.neg y) = G.sub x y := by unfold Cw.GFv.add Cw.GFv.neg Cw.GFv.sub; rw [G.el_num]
 rw [← e];rfl
theorem scale_loop (G : GFv) (a : Int) (l : List Int) (hl : l.length ≤ 65536) : ∀ e i, i + e = l.length → Ev (fun k => field_GF_Scale.l0 k G a ((l.take i).map (G.mul a) ++ List.replicate e 0) l (l.length : Int) (i : Int)) (l.map (G.mul a)) := by
 intro e;induction e with
 | zero =>
  intro i hi;refine Ev.step (f := fun _ => some _) (fun k => ?_) (Ev.now _);simp only [field_GF_Scale.l0];rw [if_neg (by omega), List.take_of_length_le (by omega), List.replicate_zero, List.append_nil]
 | succ e ih =>
  intro i hi;have hlt : i < l.length := by omega
  have c1 : (i : Int) < (l.length : Int) := by omega
  have hlen : (((l.take i).map (G.mul a) ++ List.replicate (e + 1) 0).length : Int) = (l.length : Int) := by simp; omega
  have hi1 : wrap64 ((i : Int) + 1) = ((i + 1 : Nat) : Int) := by rw [Pl.w64 (by omega) (by omega)]; rfl
  have hrd : rd l (i : Int) = l[i] := by
   unfold rd
   rw [Int.toNat_natCast, List.getD_eq_getElem?_getD, List.getElem?_eq_getElem hlt];rfl
  have hset : ((l.take i).map (G.mul a) ++ List.replicate (e + 1) 0).set i (G.mul a (rd l (i : Int))) = (l.take (i + 1)).map (G.mul a) ++ List.replicate e 0 := by
   rw [List.set_append_right _ _ (by rw [List.length_map, List.length_take]; omega), List.length_map, List.length_take, Nat.min_eq_left (by omega), Nat.sub_self, List.replicate_succ, List.set_cons_zero, hrd];rw [← List.take_append_getElem hlt, List.map_append, List.append_assoc];rfl
  have hi2 : i + 1 + e = l.length := by omega
  refine Ev.step (fun k => ?_) (ih (i + 1) hi2);simp only [field_GF_Scale.l0];rw [if_pos c1, if_pos (by omega), if_pos c1, hi1];show (if (i : Int) < _ then _ else none) = _
  rw [if_pos (by rw [hlen]; exact c1), Int.toNat_natCast, hset]
theorem scale_ev (G : GFv) (a : Int) (l : List Int) (hl : l.length ≤ 65536) : Ev (fun k => field_GF_Scale.f k G a l) (l.map (G.mul a)) := by
 have h := scale_loop G a l hl l.length 0 (by omega);refine Ev.congr (fun k => ?_) h;unfold field_GF_Scale.f
 rw [if_pos (by omega), if_pos (by omega), Int.toNat_natCast];rfl
theorem MX.scale_call {gb : Nat} {G : GFv} {w : World} {base R n : Nat} {rb cp : Nat → Nat} {A : Nat → Nat → Cw.El G.F} (hM : MX G w base R n rb cp A) {c : Nat} (hc : c < n) (hn8 : n ≤ 8) (hg : GFok w gb G) (iv : Int) :
  Calls Try.prog 69 #[.pointer (some ⟨gb, 0, none⟩), .int .i64 iv, .slice (some ⟨rb c, 0, none⟩) (n + 1) (cp c)] w fun e w' => ∃ g cg, e = .returned (.slice (some ⟨g, 0, none⟩) (n + 1) cg) ∧ w.heap.size ≤ g ∧ Kd.R (Kd.int .i64) 3 w' w.heap.size (fun k => k = g) (.slice (some ⟨g, 0, none⟩) (n + 1) cg) (mrow G n (fun j => G.el iv * A c j)) ∧ Below w.heap.size w w' := by
 obtain ⟨ks, hks⟩ := (scale_ev G iv (mrow G n (A c)) (by rw [mrow_length]; omega)).rounds;have hrr := Kd.R_reads' (hM.row c hc);have hcap : (mrow G n (A c)).length ≤ cp c := by rw [← hrr.1]; exact hrr.2.1
 have hmap : (mrow G n (A c)).map (G.mul iv) = mrow G n (fun j => G.el iv * A c j) := by
  unfold mrow
  rw [List.map_map];refine List.map_congr_left (fun j _ => ?_);show G.num (G.el iv * G.el (G.num (A c j))) = _
  rw [G.el_num]
 have hsc := field_GF_Scale.calls ks gb G iv _ _ _ _ w hg hrr.2.2 hcap hks;rw [hmap, mrow_length] at hsc;refine hsc.mono ?_;rintro e w' ⟨v, he, hR, hb⟩;obtain ⟨g, cg, hf, hge, -⟩ := Kd.R_form hR (by rw [mrow_length]; omega);rw [mrow_length] at hf;subst hf;refine ⟨g, cg, he, hge, Kd.R_mono (Kd.R_tight rfl hR) (fun k hk => ?_), hb⟩;injection hk
theorem Pl.getD_at {l : List Int} {i : Nat} (h : i < l.length) : l.getD i 0 = l[i] := by
 rw [List.getD_eq_getElem?_getD, List.getElem?_eq_getElem h]; rfl
def tower_solve.T10 : Bool × List (List Nat × List Nat) := (true, [([], []), ([], []), ([], []), ([], []), ([], []), ([], []), ([4, 5], [4, 5]), ([6], [6]), ([], []), ([], []), ([8, 9], [8, 9]), ([10], [10]), ([0, 1, 0, 1, 4, 5, 6, 7, 11], [0, 1]), ([12, 7, 0, 1, 4, 5, 6, 7, 11], [7, 12]), ([2, 3, 0, 1, 2, 3, 4, 5, 6, 7, 8, 9, 10, 11, 12, 13], [2, 3]), ([14, 11, 13, 0, 1, 2, 3, 4, 5, 6, 7, 8, 9, 10, 11, 12, 13], [11, 14])])
def tower_solve.B10 : List Nat := [0, 0, 0, 0, 0, 0, 48, 112, 0, 0, 768, 1792, 4083, 8179, 16383, 32767]
theorem tower_solve.tab10 : rtab .any (opsOf Try.f40 10) = tower_solve.T10 := by kernel_rfl
theorem tower_solve.bits10 : waitsOk tower_solve.T10.2 tower_solve.B10 = true := by kernel_rfl
def tower_solve.T21 : Bool × List (List Nat × List Nat) := (true, [([], []), ([], []), ([0, 1], [0, 1]), ([2], [2]), ([], []), ([], []), ([], []), ([], []), ([6, 7], [6, 7]), ([8], [8]), ([], []), ([9, 10], [9, 10]), ([11], [11]), ([], []), ([], []), ([], []), ([13, 14, 15], [13, 14, 15]), ([5, 12, 16, 16], [5, 12, 16]), ([3, 4, 0, 1, 2, 3, 4, 5, 6, 7, 8, 9, 10, 11, 12, 13, 14, 15, 16, 17], [3, 4]), ([18, 17, 17, 0, 1, 2, 3, 4, 5, 6, 7, 8, 9, 10, 11, 12, 13, 14, 15, 16, 17], [17, 18])])
def tower_solve.B21 : List Nat := [0, 0, 3, 7, 0, 0, 0, 0, 192, 448, 0, 1984, 4032, 0, 0, 0, 57344, 131040, 262143, 524287]
theorem tower_solve.tab21 : rtab .any (opsOf Try.f40 21) = tower_solve.T21 := by kernel_rfl
theorem tower_solve.bits21 : waitsOk tower_solve.T21.2 tower_solve.B21 = true := by kernel_rfl
set_option maxHeartbeats 16000000 in
theorem solve_walk (gb n R cR : Nat) (G : GFv) (rb0 cp0 : Nat → Nat) (A0 : Nat → Nat → Cw.El G.F) (hn : 1 ≤ n) (hn8 : n ≤ 8) (w0 w : World) (hg0 : GFok w0 gb G) (hB0 : Below w0.heap.size w0 w) (hM0 : MX G w w0.heap.size R n rb0 cp0 A0) :
  Calls Try.prog 40 #[.pointer (some ⟨gb, 0, none⟩), .slice (some ⟨R, 0, none⟩) n cR] w fun e w' => Below w0.heap.size w0 w' ∧ ((e = .returned (.tuple #[.slice none 0 0, .bool false]) ∧ Cw.Bad n A0) ∨ (∃ v x, e = .returned (.tuple #[v, .bool true]) ∧ Kd.R (Kd.int .i64) 3 w' w0.heap.size (fun _ => True) v ((List.range n).map (fun i => G.num (x i))) ∧ Cw.Good n A0 x)) := by
 have HGW := Q9a.mk hg0;have HB0 := Q9a.mk hB0;have HM0 := Q9a.mk hM0;clear hg0 hB0 hM0;go_enter Try.func40, Try.ntmps40
 go_wp2
 go_loopw [20] (fun s wr => ∃ (c : Nat) (rb cp : Nat → Nat) (A : Nat → Nat → Cw.El G.F), s = .int .i64 (c : Int) ∧ c ≤ n ∧ Q9a (MX G wr w0.heap.size R n rb cp A) ∧ Q9a (∀ v, Cw.Sol n A v ↔ Cw.Sol n A0 v) ∧ Q9a (Cw.Unt n c A) ∧ Q9a (Below w0.heap.size w0 wr)) (fun s _ => 100 - (intOf s).toNat)
 case atStart => exact ⟨0, rb0, cp0, A0, rfl, Nat.zero_le _, HM0, ⟨fun _ => Iff.rfl⟩, ⟨fun i j hi hj => by omega⟩, HB0⟩
 case round =>
  obtain ⟨c, rb, cp, A, rfl, hc, HM, HS, HU, HB⟩ := hrel;rename World => wb
  by_cases hcn : c < n
  ·have hlt : (c : Int) < (n : Int) := by omega
   go_wp2
   go_loopw [8] (fun s wr => wr = wb ∧ ∃ p : Nat, s = .int .i64 (p : Int) ∧ c ≤ p ∧ p ≤ n ∧ Q9a (∀ i, c ≤ i → i < p → A i c = 0)) (fun s _ => 100 - (intOf s).toNat)
   case atStart => exact ⟨rfl, c, rfl, Nat.le_refl _, hc, ⟨fun i h1 h2 => by omega⟩⟩
   case round =>
    obtain ⟨hwr, p, rfl, hcp, hpn, HZ0⟩ := hrel;have hwr' := hwr.symm;clear hwr;subst hwr';by_cases hp : p < n
    ·have hplt : (p : Int) < (n : Int) := by omega
     have hhp := HM.out.hdr hp;have hap := HM.out.at hp (show c < n + 1 by omega);have hc1 : (c : Int) < ((n + 1 : Nat) : Int) := by omega
     by_cases ha : A p c = 0
     ·have hz : G.num (A p c) = 0 := G.num_eq_zero.2 ha;rw [hz] at hap;go_wp2
      refine ⟨⟨trivial, p + 1, by simp, by omega, by omega, ⟨fun i h1 h2 => ?_⟩⟩, by simp [intOf]; omega⟩;by_cases e : i = p
      ·rw [e]; exact ha
      exact HZ0.out i h1 (by omega)
     have hz : (G.num (A p c) == 0) = false := beq_eq_false_iff_ne.2 (fun e => ha (G.num_eq_zero.1 e));have hz2 : ¬ G.num (A p c) = 0 := fun e => ha (G.num_eq_zero.1 e)
     have hpn2 : ¬ p = n := by omega
     go_wp2
     have HMD := Q9a.mk (HM.out.below (bD (Below.refl _ _)));go_upto_region 10 with (fail)
     have HBD := Q9a.mk (bD HB.out);refine start_ (n := 16) (S := fun w' => w'.cell? ⟨R, p, none⟩ = some (.slice (some ⟨rb p, 0, none⟩) (n + 1) (cp p)) ∧ w'.cell? ⟨R, c, none⟩ = some (.slice (some ⟨rb c, 0, none⟩) (n + 1) (cp c))) (ds := [13, 15]) #[fB,fB,fB,fB,fB,fB,fB,fB,fB,fB,fB,fB,fB,fB,fB,fB] (by kernel_rfl) rfl rfl ⟨HMD.out.hdr hp, HMD.out.hdr hcn⟩ (fun hHeld => ?_); refine with_tabW tower_solve.tab10 tower_solve.bits10 (fun HT_ HW_ => ?_);generalize wb.drew = w5 at HMD HBD hHeld ⊢;refine pT 0 42 rfl HT_.out ?_;refine pT 1 43 rfl HT_.out ?_;refine pT 2 44 rfl HT_.out ?_;refine pT 3 45 rfl HT_.out ?_;refine pT 4 46 rfl HT_.out ?_;refine pT 5 47 rfl HT_.out ?_;refine pT 6 48 rfl HT_.out ?_;refine pT 8 50 rfl HT_.out ?_;refine pT 9 51 rfl HT_.out ?_;refine pT 10 52 rfl HT_.out ?_;refine tT 7 49 rfl HT_.out HW_.out hHeld ?_;refine tT 11 53 rfl HT_.out HW_.out hHeld ?_;refine pT 12 54 rfl HT_.out ?_;refine last_ (i := 13) (N := none) #[tB,tB,tB,tB,tB,tB,tB,tB,tB,tB,tB,tB,tB,tB,fB,fB] rfl rfl (one_of HT_.out (by kernel_rfl)) (by decide) (fun K hK => ?_);have hs1_ := HMD.out.hdr hcn;have hs2_ := HMD.out.hfr c;refine skip_ (w1 := ?_) (by rfl) rfl ?_ ?_;rotate_left
     ·go_simp;rfl
     refine hK.out _ _ ?_;clear hK K;obtain ⟨wA, hwA⟩ : ∃ wA, wA = w5.setCell ⟨R, c, none⟩ (.slice (some ⟨rb p, 0, none⟩) (n + 1) (cp p)) := ⟨_, rfl⟩;rw [← hwA];have hs3_ : wA.cell? ⟨R, p, none⟩ = some (.slice (some ⟨rb p, 0, none⟩) (n + 1) (cp p)) := by rw [hwA]; exact HMD.out.hd_set hcn hp
     have hs4_ : wA.frozen? ⟨R, p, none⟩ = false := by rw [hwA]; exact HMD.out.hf_set c p _
     have HWA := Q9a.mk hwA;clear hs1_ hs2_ hwA;refine pT 14 55 rfl HT_.out ?_;refine last_ (i := 15) (N := none) #[tB,tB,tB,tB,tB,tB,tB,tB,tB,tB,tB,tB,tB,tB,tB,tB] rfl rfl (one_of HT_.out (by kernel_rfl)) (by decide) (fun K hK => ?_);refine skip_ (w1 := ?_) (by rfl) rfl ?_ ?_;rotate_left
     ·go_simp;rfl
     refine hK.out _ _ ?_;clear hK K;refine done_ (done_of HT_.out (by kernel_rfl)) ?_;obtain ⟨hwA⟩ := HWA;obtain ⟨w6, hw6⟩ : ∃ w6, w6 = wA.setCell ⟨R, p, none⟩ (.slice (some ⟨rb c, 0, none⟩) (n + 1) (cp c)) := ⟨_, rfl⟩;rw [← hw6];obtain ⟨rb1, cp1, hM1⟩ := HMD.out.swap hcn hp;rw [← hwA, ← hw6] at hM1;have HM1 := Q9a.mk hM1;have HB1 := Q9a.mk (show Below w0.heap.size w0 w6 by rw [hw6, hwA]; exact bS (bS HBD.out HMD.out.bs) HMD.out.bs);clear hM1 hw6 hwA hs3_ hs4_ HMD HBD HM HB;obtain ⟨A1, hA1⟩ : ∃ A1, A1 = Cw.swp A c p := ⟨_, rfl⟩;rw [← hA1] at HM1;have HS1 := Q9a.mk (show ∀ v, Cw.Sol n A1 v ↔ Cw.Sol n A0 v from fun v => by rw [hA1]; exact (Cw.sol_swp hcn hp).trans (HS.out v));have HU1 := Q9a.mk (show Cw.Unt n c A1 by rw [hA1]; exact Cw.unt_swp HU.out hcn hp hcp);have hne : A1 c c ≠ 0 := by rw [hA1, Cw.swp_row, if_pos rfl]; exact ha
     have HNE := Q9a.mk hne;clear hA1 HS HU ha hz hz2 hne HZ0 hhp hap;have hh1 := HM1.out.hdr hcn;have ha1 := HM1.out.at hcn (show c < n + 1 by omega);obtain ⟨iv, hiv⟩ : ∃ iv, iv = G.num (Cw.pw (A1 c c) (G.q - 2)) := ⟨_, rfl⟩
     have hinvf : field_GF_Inv.f G (G.num (A1 c c)) = some (iv, 0) := by
      rw [hiv];refine congrArg some ?_;unfold Cw.GFv.inv
      rw [G.el_num, if_neg HNE.out]
     have hinv := field_GF_Inv.calls gb G (G.num (A1 c c)) iv 0 w6 (HGW.out.below HB1.out) hinvf;have HIV := Q9a.mk hiv;clear hinvf hiv;go_wp2_with (first | (go_at_call 68; refine hinv.mono ?_; clear hinv; rintro e w7 ⟨rfl, hb7⟩; have HM2 := Q9a.mk (HM1.out.below hb7); have HB2 := Q9a.mk (bP HB1.out hb7); clear HM1 HB1; have hh2 := HM2.out.hdr hcn; have hsc := HM2.out.scale_call hcn hn8 (HGW.out.below HB2.out) iv) | (go_at_call 69; refine hsc.mono ?_; clear hsc; rintro e w8 ⟨g8, cg8, rfl, hg8, hR8, hb8⟩; have HR8 := Q9a.mk (Kd.rL hR8 (bZ HB2.out)); have HM3 := Q9a.mk (HM2.out.below hb8); have HLT := Q9a.mk (show ∀ i, i < n → i ≠ c → rb1 i ≠ g8 from fun i hi _ e => by have := HM2.out.rlt hi; omega); have HB3 := Q9a.mk (bP HB2.out hb8); have hh3 := HM3.out.hdr hcn; have hf3 := HM3.out.hfr c; clear HM2 HB2 hR8 hb8 hh2 hg8))
     obtain ⟨w9, hw9⟩ : ∃ w9, w9 = w8.setCell ⟨R, c, none⟩ (.slice (some ⟨g8, 0, none⟩) (n + 1) cg8) := ⟨_, rfl⟩;rw [← hw9];have hM9 := HM3.out.head hcn g8 cg8 _ HR8.out HLT.out;rw [← hw9] at hM9;obtain ⟨A2, hA2⟩ : ∃ A2, A2 = Cw.scl A1 c (G.el iv) := ⟨_, rfl⟩;obtain ⟨rb2, cp2, HM9⟩ : ∃ rb2 cp2, Q9a (MX G w9 w0.heap.size R n rb2 cp2 A2) := ⟨_, _, ⟨by rw [hA2]; exact hM9⟩⟩;have HB9 := Q9a.mk (show Below w0.heap.size w0 w9 by rw [hw9]; exact bS HB3.out HM3.out.bs)
     have hie : G.el iv * A1 c c = 1 := by
      rw [HIV.out, G.el_num, ← Cw.pw_succ, show G.q - 2 + 1 = G.q - 1 by have := G.q_ge; omega];exact Cw.pw_card HNE.out
     have hi0 : G.el iv ≠ 0 := fun e => by
      rw [e, Cw.zero_mul] at hie;exact Cw.GF.one_ne hie.symm
     have HS2 := Q9a.mk (show ∀ v, Cw.Sol n A2 v ↔ Cw.Sol n A0 v from fun v => by rw [hA2]; exact (Cw.sol_scl hi0).trans (HS1.out v));have HU2 := Q9a.mk (show Cw.Unt n c A2 by rw [hA2]; exact Cw.unt_scl HU1.out hcn);have HO2 := Q9a.mk (show A2 c c = 1 by rw [hA2, Cw.scl_row, if_pos rfl]; exact hie);clear hM9 hw9 hA2 hie hi0 HM3 HB3 HR8 HLT hh3 hf3 HS1 HU1 HNE HIV hh1 ha1 hb7;go_loopw [80] (fun s wr => ∃ (i : Nat) (rb cp : Nat → Nat) (A : Nat → Nat → Cw.El G.F), s = .int .i64 (i : Int) ∧ i ≤ n ∧ Q9a (MX G wr w0.heap.size R n rb cp A) ∧ Q9a (∀ v, Cw.Sol n A v ↔ Cw.Sol n A0 v) ∧ Q9a (Cw.Unt n c A) ∧ Q9a (A c c = 1) ∧ Q9a (∀ i', i' < i → i' ≠ c → A i' c = 0) ∧ Q9a (Below w0.heap.size w0 wr)) (fun s _ => 100 - (intOf s).toNat)
     case atStart => exact ⟨0, rb2, cp2, A2, rfl, Nat.zero_le _, HM9, HS2, HU2, HO2, ⟨fun i' h => by omega⟩, HB9⟩
     case round =>
      obtain ⟨i, rb, cp, A, rfl, hi, HM, HS, HU, HO, HZ, HB⟩ := hrel;rename World => wi
      by_cases hin : i < n
      ·have hilt : (i : Int) < (n : Int) := by omega
       have hhi := HM.out.hdr hin;have hai := HM.out.at hin (show c < n + 1 by omega);by_cases hic : i = c
       ·subst hic;go_wp2
        refine ⟨⟨i + 1, rb, cp, A, by simp, by omega, HM, HS, HU, HO, ⟨fun i' h1 h2 => HZ.out i' (by omega) h2⟩, HB⟩, by simp [intOf]; omega⟩
       by_cases haz : A i c = 0
       ·rw [show G.num (A i c) = 0 from G.num_eq_zero.2 haz] at hai;go_wp2
        refine ⟨⟨i + 1, rb, cp, A, by simp, by omega, HM, HS, HU, HO, ⟨fun i' h1 h2 => ?_⟩, HB⟩, by simp [intOf]; omega⟩;by_cases e : i' = i
        ·rw [e]; exact haz
        exact HZ.out i' (by omega) h2
       have hz1 : (G.num (A i c) == 0) = false := beq_eq_false_iff_ne.2 (fun e => haz (G.num_eq_zero.1 e));have hz2 : ¬ G.num (A i c) = 0 := fun e => haz (G.num_eq_zero.1 e)
       have hhc := HM.out.hdr hcn;have cic : ((i : Int) != (c : Int)) = true := bne_iff_ne.2 (by omega);have ciz : (G.num (A i c) != 0) = true := bne_iff_ne.2 hz2;go_wp2
       go_loopw [102] (fun s wr => ∃ j : Nat, s = .int .i64 (j : Int) ∧ j ≤ n + 1 ∧ Q9a (MX G wr w0.heap.size R n rb cp (fun i' t => if i' = i then (if t < j then A i t + -(A i c * A c t) else A i t) else A i' t)) ∧ Q9a (Below w0.heap.size w0 wr)) (fun s _ => 100 - (intOf s).toNat)
       case atStart =>
        refine ⟨0, rfl, Nat.zero_le _, ⟨HM.out.congr (fun i' t hi' ht => ?_)⟩, HB⟩;by_cases e : i' = i
        ·rw [if_pos e, if_neg (by omega), e]
        rw [if_neg e]
       case round =>
        obtain ⟨j, rfl, hj, HM4, HB4⟩ := hrel;rename World => wj
        clear HM hhi hai hhc;by_cases hjn : j < n + 1
        ·have hjlt : (j : Int) < (n : Int) + 1 := by omega
         have hcj := HM4.out.at hcn hjn;rw [if_neg (fun e => hic e.symm)] at hcj;go_wp2
         have hxj : (if i = i then (if j < j then A i j + -(A i c * A c j) else A i j) else A i j) = A i j := by rw [if_pos rfl, if_neg (Nat.lt_irrefl j)]
         obtain ⟨x, hx⟩ : ∃ x, x = G.num (A i j) := ⟨_, rfl⟩;obtain ⟨y, hy⟩ : ∃ y, y = G.num (A c j) := ⟨_, rfl⟩;obtain ⟨a, ha⟩ : ∃ a, a = G.num (A i c) := ⟨_, rfl⟩;obtain ⟨ay, hay⟩ : ∃ ay, ay = G.mul a y := ⟨_, rfl⟩;obtain ⟨z, hz⟩ : ∃ z, z = G.sub x ay := ⟨_, rfl⟩;rw [← hy, ← ha];have HAY := Q9a.mk (show field_GF_Mul.f G a y = some ay by rw [hay]; rfl);have HZZ := Q9a.mk (show field_GF_Sub.f G x ay = some z by rw [hz]; exact sub_f G x ay);have HZE := Q9a.mk (show z = G.num (A i j + -(A i c * A c j)) by rw [hz, hay, hx, hy, ha]; unfold Cw.GFv.sub Cw.GFv.mul; simp only [G.el_num]);have H1 := Q9a.mk (show wj.drew.cell? ⟨R, i, none⟩ = some (.slice (some ⟨rb i, 0, none⟩) (n + 1) (cp i)) from HM4.out.hdr hin)
         have H2 := Q9a.mk (show wj.drew.cell? ⟨rb i, j, none⟩ = some (.int .i64 x) from by
          have h9 := HM4.out.at hin hjn;rw [hxj, ← hx] at h9;exact h9)
         have HMX := Q9a.mk (HM4.out.below (bD (Below.refl _ _)));have HBD := Q9a.mk (bD HB4.out);have HG5 := Q9a.mk (HGW.out.below HBD.out);have HB2 := Q9a.mk (Below.refl wj.drew.heap.size wj.drew);have HIJ := Q9a.mk (show i < n ∧ j < n + 1 from ⟨hin, hjn⟩);have HA := Q9a.mk ha;clear hxj hx hy ha hay hz hcj HB4 HM4 hz1 hz2 cic ciz;go_upto_region 21 with (fail)
         refine start_ (n := 20) (S := fun w' => w'.cell? ⟨R, i, none⟩ = some (.slice (some ⟨rb i, 0, none⟩) (n + 1) (cp i)) ∧ w'.cell? ⟨rb i, j, none⟩ = some (.int .i64 x)) (ds := [19]) #[fB,fB,fB,fB,fB,fB,fB,fB,fB,fB,fB,fB,fB,fB,fB,fB,fB,fB,fB,fB] (by kernel_rfl) rfl rfl ⟨H1.out, H2.out⟩ (fun hHeld => ?_); refine with_tabW tower_solve.tab21 tower_solve.bits21 (fun HT_ HW_ => ?_);generalize wj.drew = w5 at HMX HBD HG5 HB2 H1 H2 hHeld ⊢;refine pT 0 107 rfl HT_.out ?_;refine pT 1 108 rfl HT_.out ?_;refine pT 2 109 rfl HT_.out ?_;refine pT 4 111 rfl HT_.out ?_;refine pT 5 112 rfl HT_.out ?_;refine pT 6 113 rfl HT_.out ?_;refine pT 7 114 rfl HT_.out ?_;refine pT 8 115 rfl HT_.out ?_;refine pT 10 117 rfl HT_.out ?_;refine pT 13 120 rfl HT_.out ?_;refine pT 14 121 rfl HT_.out ?_;refine pT 15 122 rfl HT_.out ?_;refine tT 3 110 rfl HT_.out HW_.out hHeld ?_;refine tT 9 116 rfl HT_.out HW_.out hHeld ?_;refine pT 11 118 rfl HT_.out ?_;refine tT 12 119 rfl HT_.out HW_.out hHeld ?_;refine oT 16 123 rfl HT_.out (fun K hK => ?_);refine goes_ Try.func56 (by kernel_rfl) rfl #[.pointer (some ⟨gb, 0, none⟩), .int .i64 a, .int .i64 y] (by rfl) rfl rfl (by (try simp only [sm1, sm2, sm3]); first | done | rfl | (simp only [sm4, sm5]; rfl)) ?_;with_reducible refine (field_GF_Mul.calls gb G a y ay _ (HG5.out.below HB2.out) HAY.out).mono ?_
         rintro e w2 ⟨rfl, hb_⟩;refine ⟨_, rfl, ?_⟩;have nb_ := Q9a.mk (bP HB2.out hb_);clear HB2;have HB2 := nb_;clear nb_ hb_;refine hK.out _ _ ⟨pw_cell_below HB2.out H1.out, pw_cell_below HB2.out H2.out⟩ (fun hHeld => ?_);clear hK K;refine norm_ (a' := ?_) ?_ ?_;rotate_left
         ·show Act.put _ (some 123) _ = _
          simp only [Act.put, sz1, sz2, sz3, i64_w, i32_w];rfl
         refine oT 17 124 rfl HT_.out (fun K hK => ?_);refine goes_ Try.func70 (by kernel_rfl) rfl #[.pointer (some ⟨gb, 0, none⟩), .int .i64 x, .int .i64 ay] (by rfl) rfl rfl (by (try simp only [sm1, sm2, sm3]); first | done | rfl | (simp only [sm4, sm5]; rfl)) ?_;with_reducible refine (field_GF_Sub.calls gb G x ay z _ (HG5.out.below HB2.out) HZZ.out).mono ?_
         rintro e w3 ⟨rfl, hb_⟩;refine ⟨_, rfl, ?_⟩;have nb_ := Q9a.mk (bP HB2.out hb_);clear HB2;have HB2 := nb_;clear nb_ hb_;refine hK.out _ _ ⟨pw_cell_below HB2.out H1.out, pw_cell_below HB2.out H2.out⟩ (fun hHeld => ?_);clear hK K;refine norm_ (a' := ?_) ?_ ?_;rotate_left
         ·show Act.put _ (some 124) _ = _
          simp only [Act.put, sz1, sz2, sz3, i64_w, i32_w];rfl
         refine pT 18 125 rfl HT_.out ?_;refine last_ (i := 19) (N := none) #[tB,tB,tB,tB,tB,tB,tB,tB,tB,tB,tB,tB,tB,tB,tB,tB,tB,tB,tB,tB] rfl rfl (one_of HT_.out (by kernel_rfl)) (by decide) (fun K hK => ?_);have hc1_ := pw_cell_below HB2.out H1.out;have hc2_ := pw_cell_below HB2.out H2.out;have hf2_ := (HMX.out.below HB2.out).fr HIJ.out.1 HIJ.out.2;refine skip_ (w1 := ?_) (by rfl) rfl ?_ ?_;rotate_left
         ·go_simp;rfl
         refine hK.out _ _ ?_;clear hK K;refine done_ (done_of HT_.out (by kernel_rfl)) ?_;rw [HA.out];go_wp2
         refine ⟨⟨j + 1, by simp, by omega, ⟨?_⟩, ⟨?_⟩⟩, by simp [intOf]; omega⟩
         ·have hp := (HMX.out.below HB2.out).put hin hjn (A i j + -(A i c * A c j));rw [← HZE.out] at hp;refine hp.congr (fun i' t hi' ht => ?_);by_cases e : i' = i
          ·rw [if_pos e, if_pos e, if_pos rfl];by_cases e2 : t = j
           ·rw [if_pos e2, if_pos (by omega), e2]
           rw [if_neg e2];by_cases e3 : t < j
           ·rw [if_pos e3, if_pos (by omega)]
           rw [if_neg e3, if_neg (by omega)]
          rw [if_neg e, if_neg e, if_neg e]
         exact bS (bP HBD.out HB2.out) (HMX.out.rbase hin)
        go_wp2
        refine ⟨⟨i + 1, rb, cp, Cw.elm A c i, by simp, by omega, ⟨HM4.out.congr (fun i' t hi' ht => ?_)⟩, ⟨fun v => (Cw.sol_elm hcn hic).trans (HS.out v)⟩, ⟨Cw.unt_elm HU.out hcn hin⟩, ⟨?_⟩, ⟨fun i' h1 h2 => ?_⟩, HB4⟩, by simp [intOf]; omega⟩
        ·rw [Cw.elm_row];by_cases e : i' = i
         ·rw [if_pos e, if_pos e, if_pos (by omega)]
         rw [if_neg e, if_neg e]
        ·rw [Cw.elm_row, if_neg (fun e => hic e.symm)];exact HO.out
        rw [Cw.elm_row];by_cases e : i' = i
        ·rw [if_pos e, HO.out, Cw.mul_one, Cw.add_neg]
        rw [if_neg e];exact HZ.out i' (by omega) h2
      have hin2 : ¬ (i : Int) < (n : Int) := by omega
      go_wp2
      refine ⟨⟨c + 1, rb, cp, A, by simp, by omega, HM, HS, ⟨Cw.unt_succ HU.out HO.out (fun i' h1 h2 => HZ.out i' (by omega) h2)⟩, HB⟩, by simp [intOf]; omega⟩
    have hpn3 : p = n := by omega
    have hplt : ¬ (p : Int) < (n : Int) := by omega
    have hbad := Q9a.mk ((Cw.bad_unt HU.out hcn (fun i h1 h2 => HZ0.out i h1 (by omega))).congr HS.out);go_wp2
    go_ret2
    exact ⟨HB.out, Or.inl ⟨rfl, hbad.out⟩⟩
  have hUn := Q9a.mk (show Cw.Unt n n A from (show c = n by omega) ▸ HU.out);have hcn2 : ¬ (c : Int) < (n : Int) := by omega
  go_wp2_with (first | ((with_reducible refine gD (N := 130) rfl ?_); refine Kd.R_make (Kd.int .i64) _ 3 rfl (N := 130) rfl 22 _ _ rfl (n : Int) rfl rfl Try.underlying22 (.int .i64 0) 8 info3 rfl (by decide) (by omega) 0 (ok := fun _ => True) (okp := fun _ => True) rfl (fun _ hk => hk) trivial (by omega) (by omega) (Below.refl _ _) (Nat.le_refl _) ?_; intro vo wo ho hb hg hnew; clear hg hnew; rw [Int.toNat_natCast] at ho; obtain ⟨go, co, hfo, hgo, -⟩ := Kd.R_form ho (by rw [List.length_replicate]; omega); rw [List.length_replicate] at hfo; subst hfo; have HE := Q9a.mk (Kd.R_mono (ok' := fun k => k = go) (Kd.R_tight rfl (Kd.rL ho (bZ HB.out))) (fun k hk => by injection hk)); have HM5 := Q9a.mk (HM.out.below hb); have HNE := Q9a.mk (show go ≠ R ∧ ∀ i, i < n → rb i ≠ go from ⟨fun e => by obtain ⟨cells, h1, -⟩ := HM.out.hd; have := blk_lt h1; omega, fun i hi e => by have := HM.out.rlt hi; omega⟩); have HB5 := Q9a.mk (bP HB.out hb); clear HM HB ho hb hgo))
  go_loopw [133] (fun s wr => ∃ (i : Nat) (E : List Int), s = .int .i64 (i : Int) ∧ i ≤ n ∧ Q9a (MX G wr w0.heap.size R n rb cp A) ∧ Q9a (Kd.R (Kd.int .i64) 3 wr w0.heap.size (fun k => k = go) (.slice (some ⟨go, 0, none⟩) n co) E) ∧ Q9a (E.length = n ∧ ∀ t, t < i → E.getD t 0 = G.num (A t n)) ∧ Q9a (Below w0.heap.size w0 wr)) (fun s _ => 100 - (intOf s).toNat)
  case atStart => exact ⟨0, List.replicate n 0, rfl, Nat.zero_le _, HM5, HE, ⟨List.length_replicate, fun t ht => by omega⟩, HB5⟩
  case round =>
   obtain ⟨i, E, rfl, hi, HM, HE, HL, HB⟩ := hrel;by_cases hin : i < n
   ·have hilt : (i : Int) < (n : Int) := by omega
    have hhi := HM.out.hdr hin;have hai := HM.out.at hin (show n < n + 1 by omega);obtain ⟨x, hx⟩ : ∃ x, x = G.num (A i n) := ⟨_, rfl⟩;rw [← hx] at hai;have hce := Kd.R_celln 0 HE.out (i : Int) (by omega) hilt;rw [Int.toNat_natCast] at hce;obtain ⟨hce1, hce2⟩ := hce;have HX := Q9a.mk hx;clear hx;go_wp2
    have hP := Kd.R_putg HE.out (i : Int) x;rw [Int.toNat_natCast] at hP;have hL := HL.out;refine ⟨⟨i + 1, E.set i x, by simp, by omega, ⟨HM.out.far HNE.out.1 HNE.out.2 _ _⟩, ⟨hP.1⟩, ⟨by rw [List.length_set]; exact hL.1, fun t ht => ?_⟩, ⟨bS HB.out (Kd.R_base HE.out go rfl)⟩⟩, by simp [intOf]; omega⟩;by_cases e : t = i
    ·rw [e, Pl.getD_at (by rw [List.length_set, hL.1]; omega), List.getElem_set_self, HX.out]
    rw [Pl.getD_at (by rw [List.length_set, hL.1]; omega), List.getElem_set_ne (fun h => e h.symm), ← Pl.getD_at (by rw [hL.1]; omega)];exact hL.2 t (by omega)
   have hin2 : ¬ (i : Int) < (n : Int) := by omega
   have hL := Q9a.mk HL.out;clear HL;go_wp2
   go_ret2
   refine ⟨HB.out, Or.inr ⟨_, rfl, fun i => A i n, ?_, (Cw.good_unt hUn.out).congr HS.out⟩⟩
   have hEe : E = (List.range n).map (fun i => G.num (A i n)) := by
    apply List.ext_getElem (by rw [hL.out.1]; simp)
    intro t h1 h2;have h3 := hL.out.2 t (by rw [hL.out.1] at h1; omega);rw [Pl.getD_at h1] at h3;rw [h3];simp
   rw [← hEe];exact Kd.R_mono HE.out (fun _ _ => trivial)
end
end Go.Proofs.Ytlbddjojhcgpiaa.Hand
end
