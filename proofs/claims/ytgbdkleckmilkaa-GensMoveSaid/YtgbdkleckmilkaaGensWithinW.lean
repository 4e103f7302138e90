/- The walk of GensWithin: it answers true. -/
import Derived.Test.YtgbdkleckmilkaaGenF
import Derived.Test.YtgbdkleckmilkaaFlOf
namespace Go.Proofs.Ytgbdkleckmilkaa
open Go.RowKit
set_option linter.unusedVariables false
set_option linter.unusedSimpArgs false

set_option maxRecDepth 100000 in
set_option maxHeartbeats 2000000 in
theorem GensWithin_x (bk : Int) (hbk : 0 ≤ bk ∧ bk ≤ 255) (key other : List Int) (hk : okKey key) (ho : okKey other) (steps : Int) (hst : 0 ≤ steps ∧ steps ≤ 255) (f : Fl) (hf : okFl f) (w : World) :
    Calls Try.prog 12 #[.int .u8 bk, .agg (bys key).toArray, .agg (bys other).toArray, .int .u8 steps, .agg (flC f).toArray] w fun e w' => e = .returned (.bool true) ∧ Below w.heap.size w w' := by
  have hO1 := ((Obj1.new w (bys key).toArray 22).alloc (.cells (bys other).toArray 22)).alloc (.cells (flC f).toArray 34)
  have hO2 := (Obj1.new (w.alloc (.cells (bys key).toArray 22)) (bys other).toArray 22).alloc (.cells (flC f).toArray 34)
  have hO3 := Obj1.new ((w.alloc (.cells (bys key).toArray 22)).alloc (.cells (bys other).toArray 22)) (flC f).toArray 34
  have e1 : (w.alloc (.cells (bys key).toArray 22)).heap.size = w.heap.size + 1 := by simp
  have e2 : ((w.alloc (.cells (bys key).toArray 22)).alloc (.cells (bys other).toArray 22)).heap.size = w.heap.size + 1 + 1 := by simp
  rw [e1] at hO2
  rw [e2] at hO3
  have HO1 := Lib.hid hO1
  have HO2 := Lib.hid hO2
  have HO3 := Lib.hid hO3
  have HB := Lib.hid (bl_alloc (bl_alloc (bl_alloc (Below.refl w.heap.size w) (.cells (bys key).toArray 22)) (.cells (bys other).toArray 22)) (.cells (flC f).toArray 34))
  have HKS := Lib.hid (key_size hk.1)
  have HOS := Lib.hid (key_size ho.1)
  have HFS := Lib.hid (fl_size hf)
  obtain ⟨b, rfl⟩ := Int.eq_ofNat_of_zero_le hbk.1
  obtain ⟨st, rfl⟩ := Int.eq_ofNat_of_zero_le hst.1
  obtain ⟨r, hr⟩ : ∃ r, r = b % 64 := ⟨_, rfl⟩
  obtain ⟨n, hn⟩ : ∃ n, n = 1 + r := ⟨_, rfl⟩
  have hnb : 1 ≤ n ∧ n ≤ 64 := by omega
  have b1 : IntKind.i64.wrap (b : Int) = (b : Int) := IntWalk.i64_in _ (by omega)
  have b2 : (b : Int).tmod 64 = (r : Int) := by rw [Int.tmod_eq_emod_of_nonneg (by omega)]; omega
  have b2' : (b : Int) % 64 = (r : Int) := by omega
  have b3 : IntKind.i64.wrap (1 + (r : Int)) = (n : Int) := by rw [show 1 + (r : Int) = (n : Int) by omega]; exact IntWalk.i64_in _ (by omega)
  have b4 : IntKind.i64.wrap (st : Int) = (st : Int) := IntWalk.i64_in _ (by omega)
  have b5 : IntKind.i64.wrap ((st : Int) - 1) = (st : Int) - 1 := IntWalk.i64_in _ (by omega)
  have HN := Lib.hid (show n = 1 + b % 64 by omega)
  clear hO1 hO2 hO3 e1 e2 hr hn
  go_enter Try.func12, Try.ntmps12
  go_wp2_with fail
  refine (awake24_w _).mono ?_
  rintro e w1 ⟨rfl, hb1⟩
  have HP1 := Lib.hid (HO1.out.below hb1)
  have HP2 := Lib.hid (HO2.out.below hb1)
  have HP3 := Lib.hid (HO3.out.below hb1)
  have HB1 := Lib.hid (bl_next HB.out hb1)
  clear hb1
  go_wp2_with (refine load_obj rfl 22 (.tmp 6) rfl w.heap.size 22 (bys key).toArray _ rfl HP1.out Try.underlying22 rfl HKS.out ?_)
  refine (gnew_w n hnb key hk _).mono ?_
  rintro e w2 ⟨G, rfl, hG, hg0, hb2⟩
  have HG0 := Lib.hid hg0
  have HQ2 := Lib.hid (HP2.out.below hb2)
  have HQ3 := Lib.hid (HP3.out.below hb2)
  have HB2 := Lib.hid (bl_next HB1.out hb2)
  have hwG : w.heap.size ≤ G := Nat.le_trans HB1.out.size hG
  have hFG : w.heap.size + 1 + 1 < G := Nat.lt_of_lt_of_le HP3.out.lt hG
  have hfr := fresh_new hnb hk
  obtain ⟨g0, hg0d⟩ : ∃ g0 : Gn, g0 = ⟨n, key, List.replicate 16 0, 0, false, 0, 0⟩ := ⟨_, rfl⟩
  rw [← hg0d] at HG0 hfr
  have hbk0 : g0.bk = n := by rw [hg0d]
  have hmv0 : g0.mv = false := by rw [hg0d]
  have HF0 := Lib.hid hfr
  have HD0 := Lib.hid (show g0.bk = n ∧ g0.mv = false from ⟨hbk0, hmv0⟩)
  clear hg0 hb2 hfr hg0d hbk0 hmv0 hG
  by_cases hs0 : st = 0
  · subst hs0
    obtain ⟨g1, hg1⟩ : ∃ g1, g1 = g0 := ⟨_, rfl⟩
    have HG1 := Lib.hid (show Obj1 w2 G (gnC g1).toArray 75 by rw [hg1]; exact HG0.out)
    have HF1 := Lib.hid (show gnFresh g1 by rw [hg1]; exact HF0.out)
    have HD1 := Lib.hid (show g1.bk = n ∧ g1.mv = decide (0 < 0) by rw [hg1, HD0.out.1, HD0.out.2]; exact ⟨rfl, rfl⟩)
    have HR3 := Lib.hid HQ3.out
    have HB3 := Lib.hid HB2.out
    clear hg1
    have d1 : decide ((0 : Int) < 0) = false := rfl
    go_wp2_with fail
    go_loopw [38] (fun i wr => ∃ j : Nat, j ≤ 0 ∧ i = .int .i64 j ∧ Obj1 wr G (gnC (gnRun g1 j)).toArray 75 ∧ Obj1 wr (w.heap.size + 1 + 1) (flC f).toArray 34 ∧ Below w.heap.size w wr) (fun i _ => 0 - (intOf i).toNat)
    case atStart => exact ⟨0, Nat.zero_le _, rfl, HG1.out, HR3.out, HB3.out⟩
    case round =>
      obtain ⟨j, hj, rfl, hobj, hfl, hbel⟩ := hrel
      have HOB := Lib.hid hobj
      have HFL := Lib.hid hfl
      have HBL := Lib.hid hbel
      have HOK := Lib.hid (run_ok HF1.out j)
      clear hobj hfl hbel
      by_cases hlt : j < 0
      · have hj0 : (0 : Int) ≤ (j : Int) := Int.natCast_nonneg j
        have hj1 : (j : Int) < 0 := by omega
        go_wp2_with fail
        refine (stepAny_w G (gnRun g1 j) HOK.out.1 HOK.out.2.1 _ HOB.out).mono ?_
        rintro e w4 ⟨⟨x, bb, rfl⟩, hg4, hu4⟩
        have HG4 := Lib.hid (show Obj1 w4 G (gnC (gnRun g1 (j + 1))).toArray 75 from hg4)
        have HF4 := Lib.hid (HFL.out.of_grown hu4 (by simp; omega))
        have HB4 := Lib.hid (bl_upd HBL.out hu4 hwG)
        clear hg4 hu4
        go_wp2_with fail
        go_roundw
        case rel => exact ⟨j + 1, by omega, by go_num, HG4.out, HF4.out, HB4.out⟩
        case measure => simp [intOf]; omega
      · have hjM : j = 0 := by omega
        have hj1 : ¬ (j : Int) < 0 := by omega
        have HJM := Lib.hid hjM
        obtain ⟨gF, hgF⟩ : ∃ gF, gnRun g1 j = gF := ⟨_, rfl⟩
        have hok := HOK.out
        rw [hgF, hjM, HD1.out.1, HD1.out.2] at hok
        rw [hgF] at HOB
        obtain ⟨hok1, _, hok3, hok4⟩ := hok
        have HF := Lib.hid hok1
        have HF3 := Lib.hid hok3
        have HF4 := Lib.hid hok4
        clear hjM hgF hok1 hok3 hok4
        go_wp2_with (refine load_obj rfl 34 (.tmp 9) rfl (w.heap.size + 1 + 1) 34 (flC f).toArray _ rfl HFL.out Try.underlying34 rfl HFS.out ?_)
        refine (where_w G gF HF.out f hf _ HOB.out).mono ?_
        rintro e w5 ⟨rfl, hb5⟩
        obtain ⟨gen, hgen⟩ : ∃ gen, gnGen gF f = gen := ⟨_, rfl⟩
        have hgl := gen_le HF.out f
        rw [hgen] at hgl ⊢
        obtain ⟨C, hC⟩ : ∃ C, classV gF gen f = C := ⟨_, rfl⟩
        have hX := fallV_range (gnKey gF gen) f 0 gF.bk (by have := HF.out.1; omega)
        have hCX : C = (gen : Int) * (n : Int) + fallV (gnKey gF gen) f 0 gF.bk := by rw [← hC]; unfold classV; rw [HF3.out]
        rw [hC]
        rw [HF3.out] at hX hCX
        obtain ⟨X, hXd⟩ : ∃ X, fallV (gnKey gF gen) f 0 n = X := ⟨_, rfl⟩
        rw [hXd] at hX hCX
        obtain ⟨P, hP⟩ : ∃ P, P = gen * n := ⟨_, rfl⟩
        have hP2 : (gen : Int) * (n : Int) = (P : Int) := by rw [hP]; exact (Int.natCast_mul _ _).symm
        obtain ⟨P2, hPP⟩ : ∃ P2, P2 = P + n := ⟨_, rfl⟩
        have hP3 : ((gen : Int) + 1) * (n : Int) = (P2 : Int) := by rw [Int.add_mul, hP2, Int.one_mul, hPP]; omega
        have hP4 : P ≤ 64 := by
          obtain h0 | h0 : gen = 0 ∨ gen = 1 := by omega
          · rw [hP, h0]; omega
          · rw [hP, h0]; omega
        rw [hP2] at hCX
        have p1 : IntKind.i64.wrap ((gen : Int) * (n : Int)) = (P : Int) := by rw [hP2]; exact IntWalk.i64_in _ (by omega)
        have p2 : IntKind.i64.wrap ((gen : Int) + 1) = (gen : Int) + 1 := IntWalk.i64_in _ (by omega)
        have p3 : IntKind.i64.wrap (((gen : Int) + 1) * (n : Int)) = (P2 : Int) := by rw [hP3]; exact IntWalk.i64_in _ (by omega)
        have p4 : (P : Int) ≤ C := by omega
        have p5 : C < (P2 : Int) := by omega
        have p6 : (0 : Int) ≤ (gen : Int) := Int.natCast_nonneg gen
        have p7 : (gen : Int) ≤ 1 := by omega
        have p8 : gen ≤ 1 := hgl.1
        have HGL := Lib.hid hgl
        have HOB5 := Lib.hid (HOB.out.below hb5)
        have HFL5 := Lib.hid (HFL.out.below hb5)
        have HB5 := Lib.hid (bl_next HBL.out hb5)
        clear hb5 hgen hgl hC hX hCX hXd hP hP2 hPP hP3 hP4
        go_wp2_with (refine load_obj rfl 34 (.tmp 9) rfl (w.heap.size + 1 + 1) 34 (flC f).toArray _ rfl HFL5.out Try.underlying34 rfl HFS.out ?_)
        refine (gbins_w G gF HF.out gen HGL.out.1 HGL.out.2 f hf 2 9 (by omega) (by omega) (by omega) 2 (by decide) _ HOB5.out).mono ?_
        rintro e w6 ⟨A', c', rfl, hs, hb6⟩
        obtain ⟨ad, rfl, d0, _⟩ := hs.at 0 (by omega)
        rw [binsV_nth _ _ _ _ _ (by omega)] at d0
        have hY := fallV_range (gnKey gF gen) f (((0 : Nat) : Int) + 1) 9 (by omega)
        obtain ⟨Y, hYd⟩ : ∃ Y, fallV (gnKey gF gen) f (((0 : Nat) : Int) + 1) 9 = Y := ⟨_, rfl⟩
        rw [hYd] at d0 hY
        obtain ⟨y1, y2⟩ := hY
        have hadd : ad.add 0 = ad := by simp [Addr.add]
        have d0' := d0
        rw [hadd] at d0'
        have y3 : decide (0 ≤ Y) = true := by simp; omega
        have y4 : decide (Y < 9) = true := by simp; omega
        have HOB6 := Lib.hid (HOB5.out.below hb6)
        have HB6 := Lib.hid (bl_next HB5.out hb6)
        clear hs hb6 hYd
        go_wp2_with fail
        refine (gmoving_w G gF HF.out _ HOB6.out).mono ?_
        rintro e w' ⟨rfl, rfl⟩
        rw [show gF.mv = false by rw [HF4.out]; rfl]
        go_wp2
        go_ret
        exact ⟨rfl, HB6.out⟩
  · have hs1 : (0 : Int) < (st : Int) := by omega
    go_wp2_with (refine load_obj rfl 22 (.tmp 7) rfl (w.heap.size + 1) 22 (bys other).toArray _ rfl HQ2.out Try.underlying22 rfl HOS.out ?_)
    refine (rekey_w G g0 HF0.out.1 HD0.out.2 other ho _ HG0.out).mono ?_
    rintro e w3 ⟨rfl, hg1, hu3⟩
    have HG1 := Lib.hid hg1
    have HFR := Lib.hid (fresh_re HF0.out.1 HF0.out.2.2 ho)
    have HR3 := Lib.hid (HQ3.out.of_grown hu3 (by simp; omega))
    have HB3 := Lib.hid (bl_upd HB2.out hu3 hwG)
    obtain ⟨g1, hg1d⟩ : ∃ g1, gnRe g0 other = g1 := ⟨_, rfl⟩
    rw [hg1d] at HG1 HFR
    have HF1 := Lib.hid HFR.out.1
    have HD1 := Lib.hid (show g1.bk = n ∧ g1.mv = true from ⟨HFR.out.2.2.trans HD0.out.1, HFR.out.2.1⟩)
    clear hg1 hu3 hg1d
    obtain ⟨M, hM⟩ : ∃ M, M = st - 1 := ⟨_, rfl⟩
    have hMst : (st : Int) - 1 = (M : Int) := by omega
    rw [hMst] at b5
    have m0 : (0 : Int) ≤ (M : Int) := Int.natCast_nonneg M
    have HM := Lib.hid (show st = M + 1 by omega)
    clear hM hMst
    go_wp2_with fail
    go_loopw [38] (fun i wr => ∃ j : Nat, j ≤ (st - 1) ∧ i = .int .i64 j ∧ Obj1 wr G (gnC (gnRun g1 j)).toArray 75 ∧ Obj1 wr (w.heap.size + 1 + 1) (flC f).toArray 34 ∧ Below w.heap.size w wr) (fun i _ => (st - 1) - (intOf i).toNat)
    case atStart => exact ⟨0, Nat.zero_le _, rfl, HG1.out, HR3.out, HB3.out⟩
    case round =>
      obtain ⟨j, hj, rfl, hobj, hfl, hbel⟩ := hrel
      have HOB := Lib.hid hobj
      have HFL := Lib.hid hfl
      have HBL := Lib.hid hbel
      have HOK := Lib.hid (run_ok HF1.out j)
      clear hobj hfl hbel
      by_cases hlt : j < (st - 1)
      · have hj0 : (0 : Int) ≤ (j : Int) := Int.natCast_nonneg j
        have hj1 : (j : Int) < (st : Int) - 1 := by omega
        go_wp2_with fail
        refine (stepAny_w G (gnRun g1 j) HOK.out.1 HOK.out.2.1 _ HOB.out).mono ?_
        rintro e w4 ⟨⟨x, bb, rfl⟩, hg4, hu4⟩
        have HG4 := Lib.hid (show Obj1 w4 G (gnC (gnRun g1 (j + 1))).toArray 75 from hg4)
        have HF4 := Lib.hid (HFL.out.of_grown hu4 (by simp; omega))
        have HB4 := Lib.hid (bl_upd HBL.out hu4 hwG)
        clear hg4 hu4
        go_wp2_with fail
        go_roundw
        case rel => exact ⟨j + 1, by omega, by go_num, HG4.out, HF4.out, HB4.out⟩
        case measure => simp [intOf]; omega
      · have hjM : j = (st - 1) := by omega
        have hj1 : ¬ (j : Int) < (st : Int) - 1 := by omega
        have HJM := Lib.hid hjM
        obtain ⟨gF, hgF⟩ : ∃ gF, gnRun g1 j = gF := ⟨_, rfl⟩
        have hok := HOK.out
        rw [hgF, hjM, HD1.out.1, HD1.out.2] at hok
        rw [hgF] at HOB
        obtain ⟨hok1, _, hok3, hok4⟩ := hok
        have HF := Lib.hid hok1
        have HF3 := Lib.hid hok3
        have HF4 := Lib.hid hok4
        clear hjM hgF hok1 hok3 hok4
        go_wp2_with (refine load_obj rfl 34 (.tmp 9) rfl (w.heap.size + 1 + 1) 34 (flC f).toArray _ rfl HFL.out Try.underlying34 rfl HFS.out ?_)
        refine (where_w G gF HF.out f hf _ HOB.out).mono ?_
        rintro e w5 ⟨rfl, hb5⟩
        obtain ⟨gen, hgen⟩ : ∃ gen, gnGen gF f = gen := ⟨_, rfl⟩
        have hgl := gen_le HF.out f
        rw [hgen] at hgl ⊢
        obtain ⟨C, hC⟩ : ∃ C, classV gF gen f = C := ⟨_, rfl⟩
        have hX := fallV_range (gnKey gF gen) f 0 gF.bk (by have := HF.out.1; omega)
        have hCX : C = (gen : Int) * (n : Int) + fallV (gnKey gF gen) f 0 gF.bk := by rw [← hC]; unfold classV; rw [HF3.out]
        rw [hC]
        rw [HF3.out] at hX hCX
        obtain ⟨X, hXd⟩ : ∃ X, fallV (gnKey gF gen) f 0 n = X := ⟨_, rfl⟩
        rw [hXd] at hX hCX
        obtain ⟨P, hP⟩ : ∃ P, P = gen * n := ⟨_, rfl⟩
        have hP2 : (gen : Int) * (n : Int) = (P : Int) := by rw [hP]; exact (Int.natCast_mul _ _).symm
        obtain ⟨P2, hPP⟩ : ∃ P2, P2 = P + n := ⟨_, rfl⟩
        have hP3 : ((gen : Int) + 1) * (n : Int) = (P2 : Int) := by rw [Int.add_mul, hP2, Int.one_mul, hPP]; omega
        have hP4 : P ≤ 64 := by
          obtain h0 | h0 : gen = 0 ∨ gen = 1 := by omega
          · rw [hP, h0]; omega
          · rw [hP, h0]; omega
        rw [hP2] at hCX
        have p1 : IntKind.i64.wrap ((gen : Int) * (n : Int)) = (P : Int) := by rw [hP2]; exact IntWalk.i64_in _ (by omega)
        have p2 : IntKind.i64.wrap ((gen : Int) + 1) = (gen : Int) + 1 := IntWalk.i64_in _ (by omega)
        have p3 : IntKind.i64.wrap (((gen : Int) + 1) * (n : Int)) = (P2 : Int) := by rw [hP3]; exact IntWalk.i64_in _ (by omega)
        have p4 : (P : Int) ≤ C := by omega
        have p5 : C < (P2 : Int) := by omega
        have p6 : (0 : Int) ≤ (gen : Int) := Int.natCast_nonneg gen
        have p7 : (gen : Int) ≤ 1 := by omega
        have p8 : gen ≤ 1 := hgl.1
        have HGL := Lib.hid hgl
        have HOB5 := Lib.hid (HOB.out.below hb5)
        have HFL5 := Lib.hid (HFL.out.below hb5)
        have HB5 := Lib.hid (bl_next HBL.out hb5)
        clear hb5 hgen hgl hC hX hCX hXd hP hP2 hPP hP3 hP4
        go_wp2_with (refine load_obj rfl 34 (.tmp 9) rfl (w.heap.size + 1 + 1) 34 (flC f).toArray _ rfl HFL5.out Try.underlying34 rfl HFS.out ?_)
        refine (gbins_w G gF HF.out gen HGL.out.1 HGL.out.2 f hf 2 9 (by omega) (by omega) (by omega) 2 (by decide) _ HOB5.out).mono ?_
        rintro e w6 ⟨A', c', rfl, hs, hb6⟩
        obtain ⟨ad, rfl, d0, _⟩ := hs.at 0 (by omega)
        rw [binsV_nth _ _ _ _ _ (by omega)] at d0
        have hY := fallV_range (gnKey gF gen) f (((0 : Nat) : Int) + 1) 9 (by omega)
        obtain ⟨Y, hYd⟩ : ∃ Y, fallV (gnKey gF gen) f (((0 : Nat) : Int) + 1) 9 = Y := ⟨_, rfl⟩
        rw [hYd] at d0 hY
        obtain ⟨y1, y2⟩ := hY
        have hadd : ad.add 0 = ad := by simp [Addr.add]
        have d0' := d0
        rw [hadd] at d0'
        have y3 : decide (0 ≤ Y) = true := by simp; omega
        have y4 : decide (Y < 9) = true := by simp; omega
        have HOB6 := Lib.hid (HOB5.out.below hb6)
        have HB6 := Lib.hid (bl_next HB5.out hb6)
        clear hs hb6 hYd
        by_cases hsn : st ≤ n
        · have hs2 : (st : Int) ≤ (n : Int) := by omega
          have hs3 : decide ((st : Int) ≤ (n : Int)) = true := by simp; omega
          go_wp2_with fail
          refine (gmoving_w G gF HF.out _ HOB6.out).mono ?_
          rintro e w' ⟨rfl, rfl⟩
          rw [show gF.mv = true by rw [HF4.out]; have := HM.out; simp; omega]
          go_wp2
          go_ret
          exact ⟨rfl, HB6.out⟩
        · have hs2 : ¬ (st : Int) ≤ (n : Int) := by omega
          have hs3 : decide ((st : Int) ≤ (n : Int)) = false := by simp; omega
          go_wp2_with fail
          refine (gmoving_w G gF HF.out _ HOB6.out).mono ?_
          rintro e w' ⟨rfl, rfl⟩
          rw [show gF.mv = false by rw [HF4.out]; have := HM.out; simp; omega]
          go_wp2
          go_ret
          exact ⟨rfl, HB6.out⟩

theorem GensWithin_w (a0 : Int) (l1 l2 : Array Value) (a3 : Int) (l4 : Array Value) (W : World) (w0 : (Lit.int .u8 a0).wf = true) (w1 : okCells (List.replicate 16 (.i .u8)) l1.toList) (w2 : okCells (List.replicate 16 (.i .u8)) l2.toList) (w3 : (Lit.int .u8 a3).wf = true) (w4 : okCells flKs l4.toList) :
    Calls Try.prog 12 #[.int .u8 a0, .agg l1, .agg l2, .int .u8 a3, .agg l4] W fun e w' => e = .returned (.bool true) ∧ Below W.heap.size W w' := by
  obtain ⟨key, rfl, hk, hkb⟩ := arr_of w1
  obtain ⟨other, rfl, ho, hob⟩ := arr_of w2
  obtain ⟨f, hf, rfl⟩ := flow_of w4
  exact GensWithin_x a0 (u8_range w0) key other ⟨hk, hkb⟩ ⟨ho, hob⟩ a3 (u8_range w3) f hf W
end Go.Proofs.Ytgbdkleckmilkaa
