/- The walk of SketchExact: it answers true. -/
import Derived.Test.YtdmfmanmhlnleaaSkP
namespace Go.Proofs.Ytdmfmanmhlnleaa
open Go.RowKit
set_option linter.unusedVariables false
set_option linter.unusedSimpArgs false

set_option maxRecDepth 100000 in
set_option maxHeartbeats 8000000 in
theorem SketchExact_x (A : Option Addr) (n c : Nat) (L : List Sn) (hLn : L.length = n) (hn63 : n ≤ 9223372036854775807) (hok : ∀ s ∈ L, okSn s) (w : World) (hrd : SnRd w A L) :
    Calls Try.prog 3 #[.slice A n c] w fun e w' => e = .returned (.bool true) ∧ Below w.heap.size w w' := by
  have HLN := Lib.hid hLn
  have HOK := Lib.hid hok
  have HRD := Lib.hid hrd
  clear hLn hok hrd
  go_enter Try.func3, Try.ntmps3
  go_wp2_with fail
  refine (awake18_w _).mono ?_
  rintro e w1 ⟨rfl, hb1⟩
  have HB1 := Lib.hid (bl_next (Below.refl _ _) hb1)
  clear hb1
  by_cases hlim : 60 < n
  · have hlim' : (60 : Int) < (n : Int) := by omega
    go_wp2_with fail
    refine (awake18_w _).mono ?_
    rintro e w2 ⟨rfl, hb2⟩
    have HB2 := Lib.hid (bl_next HB1.out hb2)
    clear hb2
    go_wp2
    go_ret
    exact ⟨rfl, HB2.out⟩
  · have hlim' : ¬ (60 : Int) < (n : Int) := by omega
    go_wp2_with fail
    refine (skNew_w 64 (by omega) _).mono ?_
    rintro e w2 ⟨S, Lb, rfl, hwL0, hLS, hS2, hb2⟩
    have HSN := Lib.hid (show SkO w2 S Lb 0 (skRun (skNew 64) (L.take 0)) from hS2)
    have HBN := Lib.hid (bl_next HB1.out hb2)
    have HON := Lib.hid (skNew_ok (n := 64) (by omega))
    have hwL : w.heap.size ≤ Lb := Nat.le_trans HB1.out.size hwL0
    have hwS : w.heap.size ≤ S := by omega
    clear hS2 hb2
    go_wp2_with fail
    go_loopw [24] (fun i wr => ∃ k m : Nat, k ≤ n ∧ i = .int .i64 k ∧ SkO wr S Lb m (skRun (skNew 64) (L.take k)) ∧ Below w.heap.size w wr) (fun i _ => n - (intOf i).toNat)
    case atStart => exact ⟨0, 0, Nat.zero_le _, rfl, HSN.out, HBN.out⟩
    case round =>
      obtain ⟨k, m, hk, rfl, hsk, hbel⟩ := hrel
      have HSK := Lib.hid hsk
      have HBL := Lib.hid hbel
      clear hsk hbel
      by_cases hlt : k < n
      · have hk0 : (0 : Int) ≤ (k : Int) := Int.natCast_nonneg k
        have hk1 : (k : Int) < (n : Int) := by omega
        obtain ⟨x, hx⟩ : ∃ x, L[k]? = some x := ⟨_, List.getElem?_eq_getElem (by have := HLN.out; omega)⟩
        obtain ⟨b, off, rfl, hc⟩ := HRD.out k x hx
        have hxs : okSn x := HOK.out x (List.mem_of_getElem? hx)
        have hxp : okPx x.p := hxs.1
        have HCW := Lib.hid (show CellsAt w b (off + k * 9) (pxC x.p) ∧ w.cell? ⟨b, off + k * 9 + 8, none⟩ = some (.int .i64 x.n) from ⟨fun q v hq => hc q v (sn_px hq), by have := hc 8 _ (sn_n hxp); rwa [add_flat] at this⟩)
        have HXL := Lib.hid hx
        have HPS := Lib.hid (px_size hxp)
        clear hx hc
        have HSTEP := Lib.hid (skRun_step (skNew 64) HXL.out)
        have hokk : okSk (skRun (skNew 64) (L.take k)) := skRun_ok HON.out (fun s hs => (HOK.out s (List.mem_of_mem_take hs)).1)
        go_wp2_with fail
        refine wp_region_held_drew (S := (fun w' => CellsAt w' b (off + k * 9) (pxC x.p) ∧ w'.cell? ⟨b, off + k * 9 + 8, none⟩ = some (.int .i64 x.n))) (by kernel_rfl) (⟨HCW.out.1.below (bl_drewN HBL.out 1), bl_keeps HBL.out HCW.out.2⟩) (fun hHeld => ?_)
        generalize hW0 : World.drew _ = W0 at hHeld ⊢
        have HS0 := Lib.hid (show SkO W0 S Lb m (skRun (skNew 64) (L.take k)) by rw [← hW0]; exact HSK.out)
        have HB0 := Lib.hid (show Below w.heap.size w W0 by rw [← hW0]; exact bl_drewN HBL.out 1)
        have HX := Lib.hid hHeld
        clear hW0 hHeld
        refine wpAnyH_take (i := 0) (v := ?_) rfl (by kernel_rfl) (by kernel_rfl) (by kernel_rfl) (fun _ _ _ h => h) (Or.inl ⟨by rfl, ?_⟩) HX.out ?_
        rotate_left
        · intro w hSw; have hSw2 := hSw.2; go_simp
          try with_reducible rfl
        go_simp
        refine wpAnyH_take (i := 1) (v := ?_) rfl (by kernel_rfl) (by kernel_rfl) (by kernel_rfl) (fun _ _ _ h => h) (Or.inl ⟨by rfl, ?_⟩) HX.out ?_
        rotate_left
        · intro w hSw; have hSw2 := hSw.2; go_simp
          try with_reducible rfl
        go_simp
        refine wpAnyH_take (i := 2) (v := ?_) rfl (by kernel_rfl) (by kernel_rfl) (by kernel_rfl) (fun _ _ _ h => h) (Or.inl ⟨by rfl, ?_⟩) HX.out ?_
        rotate_left
        · intro w hSw; have hSw2 := hSw.2; go_simp
          try with_reducible rfl
        go_simp
        refine wpAnyH_take (i := 3) (v := ?_) rfl (by kernel_rfl) (by kernel_rfl) (by kernel_rfl) (fun _ _ _ h => h) (Or.inl ⟨by rfl, ?_⟩) HX.out ?_
        rotate_left
        · intro w hSw; have hSw2 := hSw.2; go_simp
          try with_reducible rfl
        go_simp
        refine wpAnyH_take (i := 4) (v := ?_) rfl (by kernel_rfl) (by kernel_rfl) (by kernel_rfl) (fun _ _ _ h => h) (Or.inl ⟨by rfl, ?_⟩) HX.out ?_
        rotate_left
        · intro w hSw; have hSw2 := hSw.2; go_simp
          try with_reducible rfl
        go_simp
        refine wpAnyH_take (i := 5) (v := .agg (pxC x.p).toArray) rfl (by kernel_rfl) (by kernel_rfl) (by kernel_rfl) (fun _ _ _ h => h) (Or.inl ⟨by rfl, ?_⟩) HX.out ?_
        · intro w' hSw
          have hld := run_loadVar_cells (P := Try.prog) w' ⟨b, off + k * 9, none⟩ 30 (pxC x.p) _ hSw.1 Try.underlying30 rfl HPS.out
          simp [execOp, Act.eval, Instr.loadAt, Instr.sureAddr, Sem.run_bind, hld, Result.andThen]
        go_simp
        refine wpAnyH_take (i := 6) (v := ?_) rfl (by kernel_rfl) (by kernel_rfl) (by kernel_rfl) (fun _ _ _ h => h) (Or.inl ⟨by rfl, ?_⟩) HX.out ?_
        rotate_left
        · intro w hSw; have hSw2 := hSw.2; go_simp
          try with_reducible rfl
        go_simp
        refine wpAnyH_take (i := 7) (v := ?_) rfl (by kernel_rfl) (by kernel_rfl) (by kernel_rfl) (fun _ _ _ h => h) (Or.inl ⟨by rfl, ?_⟩) HX.out ?_
        rotate_left
        · intro w hSw; have hSw2 := hSw.2; go_simp
          try with_reducible rfl
        go_simp
        refine wpAnyH_take (i := 8) (v := ?_) rfl (by kernel_rfl) (by kernel_rfl) (by kernel_rfl) (fun _ _ _ h => h) (Or.inl ⟨by rfl, ?_⟩) HX.out ?_
        rotate_left
        · intro w hSw; have hSw2 := hSw.2; go_simp
          try with_reducible rfl
        go_simp
        refine wpAnyH_take (i := 9) (v := ?_) rfl (by kernel_rfl) (by kernel_rfl) (by kernel_rfl) (fun _ _ _ h => h) (Or.inl ⟨by rfl, ?_⟩) HX.out ?_
        rotate_left
        · intro w hSw; have hSw2 := hSw.2; go_simp
          try with_reducible rfl
        go_simp
        refine wpAnyH_take (i := 10) (v := ?_) rfl (by kernel_rfl) (by kernel_rfl) (by kernel_rfl) (fun _ _ _ h => h) (Or.inl ⟨by rfl, ?_⟩) HX.out ?_
        rotate_left
        · intro w hSw; have hSw2 := hSw.2; go_simp
          try with_reducible rfl
        go_simp
        refine wpAnyH_ready (rs := [11]) (by kernel_rfl) (by simp) ?_
        refine AllReadyH.cons rfl (fun K hK => ?_) AllReadyH.nil
        go_simp
        refine (skAdd_w S Lb m (skRun (skNew 64) (L.take k)) hokk x.p hxp x.n _ HS0.out).mono ?_
        rintro e w5 ⟨y5, m5, hy5, rfl, hS5, hu5⟩
        dsimp only
        have HS5 := Lib.hid hS5
        have HB5 := Lib.hid (bl_upd2 HB0.out hu5 hwS hwL)
        clear hS5 hu5 hy5
        refine hK.out _ _ ⟨HCW.out.1.below HB5.out, bl_keeps HB5.out HCW.out.2⟩ (fun hHeld => ?_)
        clear hK K hHeld
        refine wpAnyH_done (by kernel_rfl) ?_ _
        go_wp2_with fail
        go_roundw
        case rel => exact ⟨k + 1, m5, by omega, by go_num, by rw [HSTEP.out]; exact HS5.out, HB5.out⟩
        case measure => simp [intOf]; omega
      · have hk1 : ¬ (k : Int) < (n : Int) := by omega
        have hkn : k = n := by omega
        obtain ⟨sF, hsF⟩ : ∃ sF, skRun (skNew 64) L = sF := ⟨_, rfl⟩
        have HSF := Lib.hid (show SkO wr S Lb m sF by
          have := HSK.out
          rw [hkn, List.take_of_length_le (by have := HLN.out; omega), hsF] at this
          exact this)
        have HOF := Lib.hid (show okSk sF by rw [← hsF]; exact skRun_ok HON.out (fun s hs => (HOK.out s hs).1))
        have HSFE := Lib.hid hsF
        clear hkn hsF HSK
        go_wp2_with fail
        have HEXA := Lib.hid (show ∀ y ∈ sF.l, truthP L y.p = y.c ∧ y.e = 0 by rw [← HSFE.out]; exact (exact_law 64 L (by have := HLN.out; omega)).2.1)
        refine (skSlots_w S Lb m sF HOF.out _ HSF.out).mono ?_
        rintro e w3 ⟨v3, rfl, ho3, hb3⟩
        obtain ⟨A3, c3, rfl, hmc, hlm, hrd3⟩ := own_read ho3 HOF.out.px
        have HR3 := Lib.hid hrd3
        have HLM := Lib.hid hlm
        have HB3 := Lib.hid (bl_next HBL.out hb3)
        have hm64 : m ≤ 64 := by have := HOF.out.2.1; have := HOF.out.1.2; omega
        clear ho3 hb3 hrd3 hlm
        go_wp2_with fail
        go_loopw [43] (fun i wr3 => ∃ j : Nat, j ≤ m ∧ i = .int .i64 j ∧ Below w3.heap.size w3 wr3) (fun i _ => m - (intOf i).toNat)
        case atStart => exact ⟨0, Nat.zero_le _, rfl, Below.refl _ _⟩
        case round =>
          obtain ⟨j, hj, rfl, hbel⟩ := hrel
          have HBJ := Lib.hid hbel
          clear hbel
          by_cases hlt : j < m
          · have hj0 : (0 : Int) ≤ (j : Int) := Int.natCast_nonneg j
            have hj1 : (j : Int) < (m : Int) := by omega
            obtain ⟨y, hy⟩ : ∃ y, sF.l[j]? = some y := ⟨_, List.getElem?_eq_getElem (by have := HLM.out; omega)⟩
            obtain ⟨g, hg, rfl, hc⟩ := HR3.out j y hy
            have hyo : okSlo y := HOF.out.2.2.1 y (List.mem_of_getElem? hy)
            have HCY := Lib.hid (show ∀ q u, (sloC y)[q]? = some u → wr.cell? ((⟨g, j * 10, none⟩ : Addr).add q) = some u from fun q u hq => bl_keeps HBJ.out (hc q u hq))
            have HY := Lib.hid hy
            have HYS := Lib.hid (slo_size hyo.1)
            have HYA := Lib.hid (slo_sizeA hyo.1)
            have HYP := Lib.hid (px_size hyo.1)
            have hlen := sloC_length hyo.1
            clear hy hc
            have HEX := Lib.hid (HEXA.out y (List.mem_of_getElem? HY.out))
            go_wp2_with (first
              | (refine load_cells rfl 32 (.tmp 45) rfl ⟨g, j * 10, none⟩ (sloC y) _ rfl HCY.out Try.underlying32 rfl HYS.out ?_)
              | (refine store_obj rfl 32 (.tmp 7) (.tmp 46) rfl wr.heap.size 32 _ (sloC y).toArray rfl rfl (Obj1.new _ _ _) (by simp [hlen]) HYA.out (all_oneCell_toArray (sloC_one y)) ?_; intro w4 hob hup; have HOB := Lib.hid hob; have HB4 := Lib.hid (bl_next HBJ.out (bl_upd (bl_alloc (Below.refl _ _) _) hup (Nat.le_refl _))); clear hob hup))
            generalize hX : wr.heap.size = X at HOB ⊢
            clear hX
            go_loopw [8, 49] (fun v i wr4 => ∃ k : Nat, k ≤ n ∧ i = .int .i64 k ∧ v = .int .i64 (truthP (L.take k) y.p) ∧ Below w4.heap.size w4 wr4) (fun _ i _ => n - (intOf i).toNat)
            case atStart => exact ⟨0, Nat.zero_le _, rfl, rfl, Below.refl _ _⟩
            case round =>
              obtain ⟨k, hk, rfl, rfl, hbel⟩ := hrel
              have HBK := Lib.hid hbel
              have HBA := Lib.hid (bl_next (bl_next HB3.out HB4.out) hbel)
              have HOBK := Lib.hid (HOB.out.below hbel)
              clear hbel
              by_cases hlt : k < n
              · have hk0 : (0 : Int) ≤ (k : Int) := Int.natCast_nonneg k
                have hk1 : (k : Int) < (n : Int) := by omega
                obtain ⟨x, hx⟩ : ∃ x, L[k]? = some x := ⟨_, List.getElem?_eq_getElem (by have := HLN.out; omega)⟩
                obtain ⟨b, off, rfl, hc⟩ := HRD.out k x hx
                have hxs : okSn x := HOK.out x (List.mem_of_getElem? hx)
                have hxp : okPx x.p := hxs.1
                have HCW := Lib.hid (show CellsAt w b (off + k * 9) (pxC x.p) ∧ w.cell? ⟨b, off + k * 9 + 8, none⟩ = some (.int .i64 x.n) from ⟨fun q v hq => hc q v (sn_px hq), by have := hc 8 _ (sn_n hxp); rwa [add_flat] at this⟩)
                have HXL := Lib.hid hx
                have HPS := Lib.hid (px_size hxp)
                clear hx hc
                have HTS := Lib.hid (truthP_step HXL.out y.p)
                go_wp2_with fail
                refine wp_region_held_drew (S := (fun w' => CellsAt w' b (off + k * 9) (pxC x.p) ∧ w'.cell? ⟨b, off + k * 9 + 8, none⟩ = some (.int .i64 x.n) ∧ Obj1 w' X (sloC y).toArray 32)) (by kernel_rfl) (⟨HCW.out.1.below (bl_drewN HBA.out 1), bl_keeps HBA.out HCW.out.2, HOBK.out⟩) (fun hHeld => ?_)
                generalize hW0 : World.drew _ = W0 at hHeld ⊢
                have HB0 := Lib.hid (show Below w4.heap.size w4 W0 by rw [← hW0]; exact bl_drewN HBK.out 1)
                have HX := Lib.hid hHeld
                have r8 : W0.cell? ⟨b, off + k * 9 + 8, none⟩ = some (.int .i64 x.n) := hHeld.2.1
                clear hW0 hHeld
                refine wpAnyH_take (i := 0) (v := ?_) rfl (by kernel_rfl) (by kernel_rfl) (by kernel_rfl) (fun _ _ _ h => h) (Or.inl ⟨by rfl, ?_⟩) HX.out ?_
                rotate_left
                · intro w hSw; have hSw1 := hSw.1; have hSw2 := hSw.2.1; go_simp
                  try with_reducible rfl
                go_simp
                refine wpAnyH_take (i := 1) (v := ?_) rfl (by kernel_rfl) (by kernel_rfl) (by kernel_rfl) (fun _ _ _ h => h) (Or.inl ⟨by rfl, ?_⟩) HX.out ?_
                rotate_left
                · intro w hSw; have hSw1 := hSw.1; have hSw2 := hSw.2.1; go_simp
                  try with_reducible rfl
                go_simp
                refine wpAnyH_take (i := 2) (v := ?_) rfl (by kernel_rfl) (by kernel_rfl) (by kernel_rfl) (fun _ _ _ h => h) (Or.inl ⟨by rfl, ?_⟩) HX.out ?_
                rotate_left
                · intro w hSw; have hSw1 := hSw.1; have hSw2 := hSw.2.1; go_simp
                  try with_reducible rfl
                go_simp
                refine wpAnyH_take (i := 3) (v := ?_) rfl (by kernel_rfl) (by kernel_rfl) (by kernel_rfl) (fun _ _ _ h => h) (Or.inl ⟨by rfl, ?_⟩) HX.out ?_
                rotate_left
                · intro w hSw; have hSw1 := hSw.1; have hSw2 := hSw.2.1; go_simp
                  try with_reducible rfl
                go_simp
                refine wpAnyH_take (i := 4) (v := .agg (pxC x.p).toArray) rfl (by kernel_rfl) (by kernel_rfl) (by kernel_rfl) (fun _ _ _ h => h) (Or.inl ⟨by rfl, ?_⟩) HX.out ?_
                · intro w' hSw
                  have hld := run_loadVar_cells (P := Try.prog) w' ⟨b, off + k * 9, none⟩ 30 (pxC x.p) _ hSw.1 Try.underlying30 rfl HPS.out
                  simp [execOp, Act.eval, Instr.loadAt, Instr.sureAddr, Sem.run_bind, hld, Result.andThen]
                go_simp
                refine wpAnyH_take (i := 5) (v := ?_) rfl (by kernel_rfl) (by kernel_rfl) (by kernel_rfl) (fun _ _ _ h => h) (Or.inl ⟨by rfl, ?_⟩) HX.out ?_
                rotate_left
                · intro w hSw; have hSw1 := hSw.1; have hSw2 := hSw.2.1; go_simp
                  try with_reducible rfl
                go_simp
                refine wpAnyH_take (i := 6) (v := .agg (pxC y.p).toArray) rfl (by kernel_rfl) (by kernel_rfl) (by kernel_rfl) (fun _ _ _ h => h) (Or.inl ⟨by rfl, ?_⟩) HX.out ?_
                · intro w' hSw
                  have hld := run_loadVar_cells (P := Try.prog) w' ⟨X, 0, none⟩ 30 (pxC y.p) _ (obj_cells hSw.2.2 (fun j v => slo_px (s := y))) Try.underlying30 rfl HYP.out
                  simp [execOp, Act.eval, Instr.loadAt, Instr.sureAddr, Sem.run_bind, hld, Result.andThen]
                go_simp
                refine wpAnyH_take (i := 7) (v := .bool (decide (x.p = y.p))) rfl (by kernel_rfl) (by kernel_rfl) (by kernel_rfl) (fun _ _ _ h => h) (Or.inl ⟨by rfl, ?_⟩) HX.out ?_
                · intro w' hSw
                  exact exec_eql 30 30 (.tmp 56) (.tmp 58) rfl _ _ rfl rfl _ (by kernel_rfl) (eq_px w' hxp hyo.1)
                go_simp
                refine wpAnyH_done (by kernel_rfl) ?_ _
                by_cases he : x.p = y.p
                · have hd : decide (x.p = y.p) = true := by simp [he]
                  rw [if_pos he] at HTS
                  rw [hd]
                  clear hd he
                  go_wp2_with fail
                  refine (rAdd_w (truthP (L.take k) y.p) x.n _).mono ?_
                  rintro e w' ⟨rfl, rfl⟩
                  go_wp2_with fail
                  go_roundw
                  case rel => exact ⟨k + 1, by omega, by go_num, by rw [HTS.out], HB0.out⟩
                  case measure => simp [intOf]; omega
                · have hd : decide (x.p = y.p) = false := by simp [he]
                  rw [if_neg he] at HTS
                  rw [hd]
                  clear hd he
                  go_wp2_with fail
                  go_roundw
                  case rel => exact ⟨k + 1, by omega, by go_num, by rw [HTS.out], HB0.out⟩
                  case measure => simp [intOf]; omega
              · have hk1 : ¬ (k : Int) < (n : Int) := by omega
                have htk : truthP (L.take k) y.p = y.c := by
                  rw [List.take_of_length_le (by have := HLN.out; omega)]
                  exact HEX.out.1
                rw [htk]
                have r8 : wr.cell? ⟨X, 8, none⟩ = some (.int .i64 y.c) := by rw [HOBK.out.cell 8, List.getElem?_toArray]; exact (sloC_tail hyo.1).1
                have r9 : wr.cell? ⟨X, 9, none⟩ = some (.int .i64 0) := by rw [HOBK.out.cell 9, List.getElem?_toArray, (sloC_tail hyo.1).2, HEX.out.2]
                clear htk
                go_wp2_with fail
                go_roundw
                case rel => exact ⟨j + 1, by omega, by go_num, bl_next HB4.out HBK.out⟩
                case measure => simp [intOf]; omega
          · have hj1 : ¬ (j : Int) < (m : Int) := by omega
            go_wp2
            go_ret
            exact ⟨rfl, bl_next HB3.out HBJ.out⟩
theorem SketchExact_w (A : Option Addr) (n c : Nat) (rows : List (List Value)) (w : World) (h : SlP snKs w A n c rows) :
    Calls Try.prog 3 #[.slice A n c] w fun e w' => e = .returned (.bool true) ∧ Below w.heap.size w w' := by
  obtain ⟨L, h1, h2, h3, h4⟩ := h.seen
  exact SketchExact_x A n c L h1 h2 h3 w h4
end Go.Proofs.Ytdmfmanmhlnleaa
