/- The walk of SketchSums: it answers true. -/
import Derived.Test.YtdmfmanmhlnleaaSkP
namespace Go.Proofs.Ytdmfmanmhlnleaa
open Go.RowKit
set_option linter.unusedVariables false
set_option linter.unusedSimpArgs false

set_option maxRecDepth 100000 in
set_option maxHeartbeats 8000000 in
theorem SketchSums_x (bk : Int) (hbk : 0 ≤ bk ∧ bk ≤ 255) (A : Option Addr) (n c : Nat) (L : List Sn) (hLn : L.length = n) (hn63 : n ≤ 9223372036854775807) (hok : ∀ s ∈ L, okSn s) (w : World) (hrd : SnRd w A L) :
    Calls Try.prog 4 #[.int .u8 bk, .slice A n c] w fun e w' => e = .returned (.bool true) ∧ Below w.heap.size w w' := by
  have HLN := Lib.hid hLn
  have HOK := Lib.hid hok
  have HRD := Lib.hid hrd
  obtain ⟨b0, rfl⟩ := Int.eq_ofNat_of_zero_le hbk.1
  obtain ⟨r0, hr0⟩ : ∃ r0, r0 = b0 % 64 := ⟨_, rfl⟩
  obtain ⟨R, hR⟩ : ∃ R, R = 1 + r0 := ⟨_, rfl⟩
  have hRb : 1 ≤ R ∧ R ≤ 64 := by omega
  have b1 : IntKind.i64.wrap (b0 : Int) = (b0 : Int) := IntWalk.i64_in _ (by omega)
  have b2 : (b0 : Int).tmod 64 = (r0 : Int) := by rw [Int.tmod_eq_emod_of_nonneg (by omega)]; omega
  have b2' : (b0 : Int) % 64 = (r0 : Int) := by omega
  have b3 : IntKind.i64.wrap (1 + (r0 : Int)) = (R : Int) := by rw [show 1 + (r0 : Int) = (R : Int) by omega]; exact IntWalk.i64_in _ (by omega)
  clear hr0 hR
  clear hLn hok hrd
  go_enter Try.func4, Try.ntmps4
  go_wp2_with fail
  refine (awake18_w _).mono ?_
  rintro e w1 ⟨rfl, hb1⟩
  have HB1 := Lib.hid (bl_next (Below.refl _ _) hb1)
  clear hb1
  by_cases hlim : 120 < n
  · have hlim' : (120 : Int) < (n : Int) := by omega
    go_wp2_with fail
    refine (awake18_w _).mono ?_
    rintro e w2 ⟨rfl, hb2⟩
    have HB2 := Lib.hid (bl_next HB1.out hb2)
    clear hb2
    go_wp2
    go_ret
    exact ⟨rfl, HB2.out⟩
  · have hlim' : ¬ (120 : Int) < (n : Int) := by omega
    go_wp2_with fail
    refine (skNew_w R (hRb) _).mono ?_
    rintro e w2 ⟨S, Lb, rfl, hwL0, hLS, hS2, hb2⟩
    have HSN := Lib.hid (show SkO w2 S Lb 0 (skRun (skNew R) (L.take 0)) from hS2)
    have HBN := Lib.hid (bl_next HB1.out hb2)
    have HON := Lib.hid (skNew_ok (n := R) (hRb))
    have hwL : w.heap.size ≤ Lb := Nat.le_trans HB1.out.size hwL0
    have hwS : w.heap.size ≤ S := by omega
    clear hS2 hb2
    go_wp2_with fail
    go_loopw [32] (fun i wr => ∃ k m : Nat, k ≤ n ∧ i = .int .i64 k ∧ (∀ s ∈ L.take k, okPx s.p ∧ 0 ≤ s.n ∧ s.n ≤ 4294967296) ∧ SkO wr S Lb m (skRun (skNew R) (L.take k)) ∧ Below w.heap.size w wr) (fun i _ => n - (intOf i).toNat)
    case atStart => exact ⟨0, 0, Nat.zero_le _, rfl, fun s hs => by simp at hs, HSN.out, HBN.out⟩
    case round =>
      obtain ⟨k, m, hk, rfl, hLk, hsk, hbel⟩ := hrel
      have HSK := Lib.hid hsk
      have HBL := Lib.hid hbel
      have HLK := Lib.hid hLk
      clear hsk hbel hLk
      by_cases hlt : k < n
      · have hk0 : (0 : Int) ≤ (k : Int) := Int.natCast_nonneg k
        have hk1 : (k : Int) < (n : Int) := by omega
        obtain ⟨x, hx⟩ : ∃ x, L[k]? = some x := ⟨_, List.getElem?_eq_getElem (by have := HLN.out; omega)⟩
        obtain ⟨b, off, rfl, hc⟩ := HRD.out k x hx
        have hxs : okSn x := HOK.out x (List.mem_of_getElem? hx)
        have hxp : okPx x.p := hxs.1
        have HCW := Lib.hid (show CellsAt w b (off + k * 9) (pxC x.p) ∧ w.cell? ⟨b, off + k * 9 + 8, none⟩ = some (.int .i64 x.n) from ⟨fun q v hq => hc q v (sn_px hq), by have := hc 8 _ (sn_n hxp); rwa [add_flat] at this⟩)
        have HXL := Lib.hid hx
        have HPS := Lib.hid (px_size hxp)
        clear hx hc
        have rN : wr.cell? ⟨b, off + k * 9 + 8, none⟩ = some (.int .i64 x.n) := bl_keeps HBL.out HCW.out.2
        by_cases hneg : x.n < 0
        · have dn : decide (x.n < 0) = true := by simp [hneg]
          go_wp2
          go_ret
          exact ⟨rfl, HBL.out⟩
        by_cases hbig : 4294967296 < x.n
        · have dn : decide (x.n < 0) = false := by simp; omega
          go_wp2
          go_ret
          exact ⟨rfl, HBL.out⟩
        have dn : decide (x.n < 0) = false := by simp; omega
        have dn1 : ¬ x.n < 0 := hneg
        have dn2 : ¬ 4294967296 < x.n := hbig
        have HSTEP := Lib.hid (skRun_step (skNew R) HXL.out)
        have hokk : okSk (skRun (skNew R) (L.take k)) := skRun_ok HON.out (fun s hs => (HOK.out s (List.mem_of_mem_take hs)).1)
        have HLK1 := Lib.hid (show ∀ s ∈ L.take (k + 1), okPx s.p ∧ 0 ≤ s.n ∧ s.n ≤ 4294967296 by
          intro s hs
          rw [take_snoc HXL.out] at hs
          rcases List.mem_append.1 hs with h | h
          · exact HLK.out s h
          · simp at h
            rw [h]
            exact ⟨hxp, by omega, by omega⟩)
        have hlen1 : (L.take (k + 1)).length ≤ 120 := by simp; omega
        have HLAW := Lib.hid (sums_law R hRb (L.take (k + 1)) HLK1.out hlen1)
        have HSR := Lib.hid (sentN_range (fun s hs => (HLK1.out s hs).2))
        go_wp2_with fail
        refine wp_region_held_drew (S := (fun w' => CellsAt w' b (off + k * 9) (pxC x.p) ∧ w'.cell? ⟨b, off + k * 9 + 8, none⟩ = some (.int .i64 x.n))) (by kernel_rfl) (⟨HCW.out.1.below (bl_drewN HBL.out 1), bl_keeps HBL.out HCW.out.2⟩) (fun hHeld => ?_)
        generalize hW0 : World.drew _ = W0 at hHeld ⊢
        have HS0 := Lib.hid (show SkO W0 S Lb m (skRun (skNew R) (L.take k)) by rw [← hW0]; exact HSK.out)
        have HB0 := Lib.hid (show Below w.heap.size w W0 by rw [← hW0]; exact bl_drewN HBL.out 1)
        have HX := Lib.hid hHeld
        clear hW0 hHeld
        refine wpAnyH_take (i := 0) (v := ?_) rfl (by kernel_rfl) (by kernel_rfl) (by kernel_rfl) (fun _ _ _ h => h) (Or.inl ⟨by rfl, ?_⟩) HX.out ?_
        rotate_left
        · intro w hSw; have hSw2 := hSw.2; go_simp
          try with_reducible rfl
        go_simp
        refine wpAnyH_take (i := 1) (v := ?_) rfl (by kernel_rfl) (by kernel_rfl) (by kernel_rfl) (fun _ _ _ h => h) (Or.inl ⟨by rfl, ?_⟩) HX.out ?_
        rotate_left
        · intro w hSw; have hSw2 := hSw.2; go_simp
          try with_reducible rfl
        go_simp
        refine wpAnyH_take (i := 2) (v := ?_) rfl (by kernel_rfl) (by kernel_rfl) (by kernel_rfl) (fun _ _ _ h => h) (Or.inl ⟨by rfl, ?_⟩) HX.out ?_
        rotate_left
        · intro w hSw; have hSw2 := hSw.2; go_simp
          try with_reducible rfl
        go_simp
        refine wpAnyH_take (i := 3) (v := ?_) rfl (by kernel_rfl) (by kernel_rfl) (by kernel_rfl) (fun _ _ _ h => h) (Or.inl ⟨by rfl, ?_⟩) HX.out ?_
        rotate_left
        · intro w hSw; have hSw2 := hSw.2; go_simp
          try with_reducible rfl
        go_simp
        refine wpAnyH_take (i := 4) (v := ?_) rfl (by kernel_rfl) (by kernel_rfl) (by kernel_rfl) (fun _ _ _ h => h) (Or.inl ⟨by rfl, ?_⟩) HX.out ?_
        rotate_left
        · intro w hSw; have hSw2 := hSw.2; go_simp
          try with_reducible rfl
        go_simp
        refine wpAnyH_take (i := 5) (v := .agg (pxC x.p).toArray) rfl (by kernel_rfl) (by kernel_rfl) (by kernel_rfl) (fun _ _ _ h => h) (Or.inl ⟨by rfl, ?_⟩) HX.out ?_
        · intro w' hSw
          have hld := run_loadVar_cells (P := Try.prog) w' ⟨b, off + k * 9, none⟩ 30 (pxC x.p) _ hSw.1 Try.underlying30 rfl HPS.out
          simp [execOp, Act.eval, Instr.loadAt, Instr.sureAddr, Sem.run_bind, hld, Result.andThen]
        go_simp
        refine wpAnyH_take (i := 6) (v := ?_) rfl (by kernel_rfl) (by kernel_rfl) (by kernel_rfl) (fun _ _ _ h => h) (Or.inl ⟨by rfl, ?_⟩) HX.out ?_
        rotate_left
        · intro w hSw; have hSw2 := hSw.2; go_simp
          try with_reducible rfl
        go_simp
        refine wpAnyH_take (i := 7) (v := ?_) rfl (by kernel_rfl) (by kernel_rfl) (by kernel_rfl) (fun _ _ _ h => h) (Or.inl ⟨by rfl, ?_⟩) HX.out ?_
        rotate_left
        · intro w hSw; have hSw2 := hSw.2; go_simp
          try with_reducible rfl
        go_simp
        refine wpAnyH_take (i := 8) (v := ?_) rfl (by kernel_rfl) (by kernel_rfl) (by kernel_rfl) (fun _ _ _ h => h) (Or.inl ⟨by rfl, ?_⟩) HX.out ?_
        rotate_left
        · intro w hSw; have hSw2 := hSw.2; go_simp
          try with_reducible rfl
        go_simp
        refine wpAnyH_take (i := 9) (v := ?_) rfl (by kernel_rfl) (by kernel_rfl) (by kernel_rfl) (fun _ _ _ h => h) (Or.inl ⟨by rfl, ?_⟩) HX.out ?_
        rotate_left
        · intro w hSw; have hSw2 := hSw.2; go_simp
          try with_reducible rfl
        go_simp
        refine wpAnyH_take (i := 10) (v := ?_) rfl (by kernel_rfl) (by kernel_rfl) (by kernel_rfl) (fun _ _ _ h => h) (Or.inl ⟨by rfl, ?_⟩) HX.out ?_
        rotate_left
        · intro w hSw; have hSw2 := hSw.2; go_simp
          try with_reducible rfl
        go_simp
        refine wpAnyH_ready (rs := [11]) (by kernel_rfl) (by simp) ?_
        refine AllReadyH.cons rfl (fun K hK => ?_) AllReadyH.nil
        go_simp
        refine (skAdd_w S Lb m (skRun (skNew R) (L.take k)) hokk x.p hxp x.n _ HS0.out).mono ?_
        rintro e w5 ⟨y5, m5, hy5, rfl, hS5, hu5⟩
        dsimp only
        have HS5 := Lib.hid hS5
        have HB5 := Lib.hid (bl_upd2 HB0.out hu5 hwS hwL)
        clear hS5 hu5 hy5
        refine hK.out _ _ ⟨HCW.out.1.below HB5.out, bl_keeps HB5.out HCW.out.2⟩ (fun hHeld => ?_)
        clear hK K hHeld
        refine wpAnyH_done (by kernel_rfl) ?_ _
        go_wp2_with fail
        obtain ⟨sF, hsF⟩ : ∃ sF, skRun (skNew R) (L.take (k + 1)) = sF := ⟨_, rfl⟩
        have HSF := Lib.hid (show SkO w5 S Lb m5 sF by rw [← hsF, HSTEP.out]; exact HS5.out)
        have HOF := Lib.hid (show okSk sF by rw [← hsF]; exact skRun_ok HON.out (fun s hs => (HLK1.out s hs).1))
        have hroomF : sF.room = R := by rw [← hsF, skRun_room]; rfl
        have HLW := Lib.hid (show sumC sF.l = sF.total ∧ 0 ≤ sF.total ∧ sF.total ≤ 515396075520 by
          have h1 := HLAW.out
          have h2 := HSR.out
          rw [hsF] at h1
          have h3 : ((L.take (k + 1)).length : Int) * 4294967296 ≤ 515396075520 := by omega
          exact ⟨by rw [h1.1, h1.2], by rw [h1.2]; omega, by rw [h1.2]; omega⟩)
        have HSFE := Lib.hid hsF
        clear hsF
        refine (skSlots_w S Lb m5 sF HOF.out _ HSF.out).mono ?_
        rintro e w3 ⟨v3, rfl, ho3, hb3⟩
        obtain ⟨A3, c3, rfl, hmc3, hlm, hrd3⟩ := own_read ho3 HOF.out.px
        have HR3 := Lib.hid hrd3
        have HLM := Lib.hid hlm
        have HS3 := Lib.hid (HSF.out.below hb3)
        have HB3 := Lib.hid (bl_next HB5.out hb3)
        have hm64 : m5 ≤ 64 := by have := HOF.out.2.1; have := HOF.out.1.2; omega
        clear ho3 hb3 hrd3 hlm
        go_wp2_with fail
        go_loopw [9, 10, 64] (fun su mn i wv => ∃ j : Nat, j ≤ m5 ∧ i = .int .i64 j ∧ su = .int .i64 (sumC (sF.l.take j)) ∧ mn = .int .i64 (minC (sF.l.take j)) ∧ Below w3.heap.size w3 wv) (fun _ _ i _ => m5 - (intOf i).toNat)
        case atStart => exact ⟨0, Nat.zero_le _, rfl, rfl, rfl, Below.refl _ _⟩
        case round =>
          obtain ⟨j, hj, rfl, rfl, rfl, hbel⟩ := hrel
          have HBJ := Lib.hid hbel
          clear hbel
          obtain ⟨su, hsu⟩ : ∃ su, sumC (sF.l.take j) = su := ⟨_, rfl⟩
          obtain ⟨mn, hmn⟩ : ∃ mn, minC (sF.l.take j) = mn := ⟨_, rfl⟩
          have HSU := Lib.hid hsu
          have HMN := Lib.hid hmn
          rw [hsu, hmn]
          clear hsu hmn
          by_cases hlt : j < m5
          · have hj0 : (0 : Int) ≤ (j : Int) := Int.natCast_nonneg j
            have hj1 : (j : Int) < (m5 : Int) := by omega
            obtain ⟨y, hy⟩ : ∃ y, sF.l[j]? = some y := ⟨_, List.getElem?_eq_getElem (by have := HLM.out; omega)⟩
            obtain ⟨g, hg, rfl, hc⟩ := HR3.out j y hy
            have hyo : okSlo y := HOF.out.2.2.1 y (List.mem_of_getElem? hy)
            have HCY := Lib.hid (show ∀ q u, (sloC y)[q]? = some u → wr.cell? ((⟨g, j * 10, none⟩ : Addr).add q) = some u from fun q u hq => bl_keeps HBJ.out (hc q u hq))
            have HY := Lib.hid hy
            have HYS := Lib.hid (slo_size hyo.1)
            have HYA := Lib.hid (slo_sizeA hyo.1)
            have HYP := Lib.hid (px_size hyo.1)
            have hlen := sloC_length hyo.1
            clear hy hc
            have hsr := sumC_take HOF.out.2.2.1 j
            have hsr1 := sumC_take HOF.out.2.2.1 (j + 1)
            have hst := sumC_step HY.out
            rw [HSU.out] at hsr hst
            have hlw := HLW.out
            have a1 : IntKind.i64.wrap (su + y.c) = su + y.c := IntWalk.i64_in _ (by have := hyo.2.1; omega)
            have HST := Lib.hid hst
            have HMS := Lib.hid (minC_step HY.out)
            clear hsr hsr1 hst hlw
            by_cases hle : mn ≤ y.c
            · go_wp2_with (first
                | (refine load_cells rfl 32 (.tmp 66) rfl ⟨g, j * 10, none⟩ (sloC y) _ rfl HCY.out Try.underlying32 rfl HYS.out ?_)
                | (refine store_obj rfl 32 (.tmp 12) (.tmp 67) rfl wr.heap.size 32 _ (sloC y).toArray rfl rfl (Obj1.new _ _ _) (by simp [hlen]) HYA.out (all_oneCell_toArray (sloC_one y)) ?_; intro w4 hob hup; have r8 : w4.cell? ⟨wr.heap.size, 8, none⟩ = some (.int .i64 y.c) := (by rw [hob.cell 8, List.getElem?_toArray]; exact (sloC_tail hyo.1).1); have HB4 := Lib.hid (bl_next HBJ.out (bl_upd (bl_alloc (Below.refl _ _) _) hup (Nat.le_refl _))); clear hob hup))
              have hmv : minC (sF.l.take (j + 1)) = mn := by rw [HMS.out, HMN.out, if_pos hle]
              go_roundw
              case rel => exact ⟨j + 1, by omega, by go_num, by rw [HST.out], by rw [hmv], HB4.out⟩
              case measure => simp [intOf]; omega
            · go_wp2_with (first
                | (refine load_cells rfl 32 (.tmp 66) rfl ⟨g, j * 10, none⟩ (sloC y) _ rfl HCY.out Try.underlying32 rfl HYS.out ?_)
                | (refine store_obj rfl 32 (.tmp 12) (.tmp 67) rfl wr.heap.size 32 _ (sloC y).toArray rfl rfl (Obj1.new _ _ _) (by simp [hlen]) HYA.out (all_oneCell_toArray (sloC_one y)) ?_; intro w4 hob hup; have r8 : w4.cell? ⟨wr.heap.size, 8, none⟩ = some (.int .i64 y.c) := (by rw [hob.cell 8, List.getElem?_toArray]; exact (sloC_tail hyo.1).1); have HB4 := Lib.hid (bl_next HBJ.out (bl_upd (bl_alloc (Below.refl _ _) _) hup (Nat.le_refl _))); clear hob hup))
              have hmv : minC (sF.l.take (j + 1)) = y.c := by rw [HMS.out, HMN.out, if_neg hle]
              go_roundw
              case rel => exact ⟨j + 1, by omega, by go_num, by rw [HST.out], by rw [hmv, if_pos (by omega)], HB4.out⟩
              case measure => simp [intOf]; omega
          · have hj1 : ¬ (j : Int) < (m5 : Int) := by omega
            have hjm : sF.l.take j = sF.l := List.take_of_length_le (by have := HLM.out; omega)
            have hsu2 : su = sF.total := by rw [← HSU.out, hjm]; exact HLW.out.1
            have hmn2 : minC sF.l = mn := by rw [← hjm]; exact HMN.out
            have hmle := minC_le sF.l
            rw [hmn2] at hmle
            have hmin := sumC_least hmle.2
            rw [HLM.out, HLW.out.1] at hmin
            rw [hsu2]
            have HS6 := Lib.hid (HS3.out.below HBJ.out)
            have HB6 := Lib.hid (bl_next HB3.out HBJ.out)
            have hm0 := HLW.out.2
            clear hjm hsu2
            go_wp2_with fail
            refine (skTotal_w S Lb m5 sF _ HS6.out).mono ?_
            rintro e w' ⟨rfl, rfl⟩
            go_wp2_with fail
            refine (skSlots_w S Lb m5 sF HOF.out _ HS6.out).mono ?_
            rintro e w8 ⟨v8, rfl, ho8, hb8⟩
            obtain ⟨A8, c8, rfl, hmc8, _, _⟩ := own_read ho8 HOF.out.px
            have HS8 := Lib.hid (HS6.out.below hb8)
            have HB8 := Lib.hid (bl_next HB6.out hb8)
            clear ho8 hb8
            by_cases hfull : m5 = R
            · have df : decide (m5 = R) = true := by simp [hfull]
              have df2 : ((m5 : Int) = (R : Int)) := by omega
              have df3 : decide ((m5 : Int) = (R : Int)) = true := decide_eq_true df2
              have a2 : IntKind.i64.wrap (mn * (R : Int)) = mn * (R : Int) := IntWalk.i64_in _ (by
                have h0 : 0 ≤ mn := by rw [← hmn2]; exact minC_pos HOF.out.2.2.1
                have h1 : 0 ≤ mn * (R : Int) := Int.mul_nonneg h0 (by omega)
                rw [← df2] at h1 ⊢
                omega)
              have a3 : ¬ sF.total < mn * (R : Int) := by rw [← df2]; omega
              go_wp2_with fail
              refine (skTotal_w S Lb m5 sF _ HS8.out).mono ?_
              rintro e w' ⟨rfl, rfl⟩
              go_wp2_with fail
              go_roundw
              case rel => exact ⟨k + 1, m5, by omega, by go_num, HLK1.out, by rw [HSFE.out]; exact HS8.out, HB8.out⟩
              case measure => simp [intOf]; omega
            · have df : decide (m5 = R) = false := by simp [hfull]
              have df2 : ¬ ((m5 : Int) = (R : Int)) := by omega
              have df3 : decide ((m5 : Int) = (R : Int)) = false := decide_eq_false df2
              go_wp2_with fail
              go_roundw
              case rel => exact ⟨k + 1, m5, by omega, by go_num, HLK1.out, by rw [HSFE.out]; exact HS8.out, HB8.out⟩
              case measure => simp [intOf]; omega
      · have hk1 : ¬ (k : Int) < (n : Int) := by omega
        go_wp2
        go_ret
        exact ⟨rfl, HBL.out⟩
theorem SketchSums_w (bk : Int) (A : Option Addr) (n c : Nat) (rows : List (List Value)) (w : World) (hb : (Lit.int .u8 bk).wf = true) (h : SlP snKs w A n c rows) :
    Calls Try.prog 4 #[.int .u8 bk, .slice A n c] w fun e w' => e = .returned (.bool true) ∧ Below w.heap.size w w' := by
  obtain ⟨L, h1, h2, h3, h4⟩ := h.seen
  exact SketchSums_x bk (u8_range hb) A n c L h1 h2 h3 w h4
end Go.Proofs.Ytdmfmanmhlnleaa
