/- The walk of SketchOwn: it answers true. -/
import Derived.Test.YtdmfmanmhlnleaaSkP
namespace Go.Proofs.Ytdmfmanmhlnleaa
open Go.RowKit
set_option linter.unusedVariables false
set_option linter.unusedSimpArgs false

set_option maxRecDepth 100000 in
set_option maxHeartbeats 8000000 in
theorem SketchOwn_x (A : Option Addr) (n c : Nat) (L : List Sn) (hLn : L.length = n) (hn63 : n ≤ 9223372036854775807) (hok : ∀ s ∈ L, okSn s) (w : World) (hrd : SnRd w A L) :
    Calls Try.prog 5 #[.slice A n c] w fun e w' => e = .returned (.bool true) ∧ Below w.heap.size w w' := by
  have HLN := Lib.hid hLn
  have HOK := Lib.hid hok
  have HRD := Lib.hid hrd
  clear hLn hok hrd
  go_enter Try.func5, Try.ntmps5
  go_wp2_with fail
  refine (awake18_w _).mono ?_
  rintro e w1 ⟨rfl, hb1⟩
  have HB1 := Lib.hid (bl_next (Below.refl _ _) hb1)
  clear hb1
  by_cases hlim : 60 < n
  · have hlim' : (60 : Int) < (n : Int) := by omega
    go_wp2_with fail
    refine (awake18_w _).mono ?_
    rintro e w2 ⟨rfl, hb2⟩
    have HB2 := Lib.hid (bl_next HB1.out hb2)
    clear hb2
    go_wp2
    go_ret
    exact ⟨rfl, HB2.out⟩
  · have hlim' : ¬ (60 : Int) < (n : Int) := by omega
    go_wp2_with fail
    refine (skNew_w 4 (by omega) _).mono ?_
    rintro e w2 ⟨S, Lb, rfl, hwL0, hLS, hS2, hb2⟩
    have HSN := Lib.hid (show SkO w2 S Lb 0 (skRun (skNew 4) (L.take 0)) from hS2)
    have HBN := Lib.hid (bl_next HB1.out hb2)
    have HON := Lib.hid (skNew_ok (n := 4) (by omega))
    have hwL : w.heap.size ≤ Lb := Nat.le_trans HB1.out.size hwL0
    have hwS : w.heap.size ≤ S := by omega
    clear hS2 hb2
    go_wp2_with fail
    go_loopw [25] (fun i wr => ∃ k m : Nat, k ≤ n ∧ i = .int .i64 k ∧ SkO wr S Lb m (skRun (skNew 4) (L.take k)) ∧ Below w.heap.size w wr) (fun i _ => n - (intOf i).toNat)
    case atStart => exact ⟨0, 0, Nat.zero_le _, rfl, HSN.out, HBN.out⟩
    case round =>
      obtain ⟨k, m, hk, rfl, hsk, hbel⟩ := hrel
      have HSK := Lib.hid hsk
      have HBL := Lib.hid hbel
      clear hsk hbel
      by_cases hlt : k < n
      · have hk0 : (0 : Int) ≤ (k : Int) := Int.natCast_nonneg k
        have hk1 : (k : Int) < (n : Int) := by omega
        obtain ⟨x, hx⟩ : ∃ x, L[k]? = some x := ⟨_, List.getElem?_eq_getElem (by have := HLN.out; omega)⟩
        obtain ⟨b, off, rfl, hc⟩ := HRD.out k x hx
        have hxs : okSn x := HOK.out x (List.mem_of_getElem? hx)
        have hxp : okPx x.p := hxs.1
        have HCW := Lib.hid (show CellsAt w b (off + k * 9) (pxC x.p) ∧ w.cell? ⟨b, off + k * 9 + 8, none⟩ = some (.int .i64 x.n) from ⟨fun q v hq => hc q v (sn_px hq), by have := hc 8 _ (sn_n hxp); rwa [add_flat] at this⟩)
        have HXL := Lib.hid hx
        have HPS := Lib.hid (px_size hxp)
        clear hx hc
        have HSTEP := Lib.hid (skRun_step (skNew 4) HXL.out)
        have hokk : okSk (skRun (skNew 4) (L.take k)) := skRun_ok HON.out (fun s hs => (HOK.out s (List.mem_of_mem_take hs)).1)
        go_wp2_with fail
        refine wp_region_held_drew (S := (fun w' => CellsAt w' b (off + k * 9) (pxC x.p) ∧ w'.cell? ⟨b, off + k * 9 + 8, none⟩ = some (.int .i64 x.n))) (by kernel_rfl) (⟨HCW.out.1.below (bl_drewN HBL.out 1), bl_keeps HBL.out HCW.out.2⟩) (fun hHeld => ?_)
        generalize hW0 : World.drew _ = W0 at hHeld ⊢
        have HS0 := Lib.hid (show SkO W0 S Lb m (skRun (skNew 4) (L.take k)) by rw [← hW0]; exact HSK.out)
        have HB0 := Lib.hid (show Below w.heap.size w W0 by rw [← hW0]; exact bl_drewN HBL.out 1)
        have HX := Lib.hid hHeld
        clear hW0 hHeld
        refine wpAnyH_take (i := 0) (v := ?_) rfl (by kernel_rfl) (by kernel_rfl) (by kernel_rfl) (fun _ _ _ h => h) (Or.inl ⟨by rfl, ?_⟩) HX.out ?_
        rotate_left
        · intro w hSw; have hSw2 := hSw.2; go_simp
          try with_reducible rfl
        go_simp
        refine wpAnyH_take (i := 1) (v := ?_) rfl (by kernel_rfl) (by kernel_rfl) (by kernel_rfl) (fun _ _ _ h => h) (Or.inl ⟨by rfl, ?_⟩) HX.out ?_
        rotate_left
        · intro w hSw; have hSw2 := hSw.2; go_simp
          try with_reducible rfl
        go_simp
        refine wpAnyH_take (i := 2) (v := ?_) rfl (by kernel_rfl) (by kernel_rfl) (by kernel_rfl) (fun _ _ _ h => h) (Or.inl ⟨by rfl, ?_⟩) HX.out ?_
        rotate_left
        · intro w hSw; have hSw2 := hSw.2; go_simp
          try with_reducible rfl
        go_simp
        refine wpAnyH_take (i := 3) (v := ?_) rfl (by kernel_rfl) (by kernel_rfl) (by kernel_rfl) (fun _ _ _ h => h) (Or.inl ⟨by rfl, ?_⟩) HX.out ?_
        rotate_left
        · intro w hSw; have hSw2 := hSw.2; go_simp
          try with_reducible rfl
        go_simp
        refine wpAnyH_take (i := 4) (v := ?_) rfl (by kernel_rfl) (by kernel_rfl) (by kernel_rfl) (fun _ _ _ h => h) (Or.inl ⟨by rfl, ?_⟩) HX.out ?_
        rotate_left
        · intro w hSw; have hSw2 := hSw.2; go_simp
          try with_reducible rfl
        go_simp
        refine wpAnyH_take (i := 5) (v := .agg (pxC x.p).toArray) rfl (by kernel_rfl) (by kernel_rfl) (by kernel_rfl) (fun _ _ _ h => h) (Or.inl ⟨by rfl, ?_⟩) HX.out ?_
        · intro w' hSw
          have hld := run_loadVar_cells (P := Try.prog) w' ⟨b, off + k * 9, none⟩ 30 (pxC x.p) _ hSw.1 Try.underlying30 rfl HPS.out
          simp [execOp, Act.eval, Instr.loadAt, Instr.sureAddr, Sem.run_bind, hld, Result.andThen]
        go_simp
        refine wpAnyH_take (i := 6) (v := ?_) rfl (by kernel_rfl) (by kernel_rfl) (by kernel_rfl) (fun _ _ _ h => h) (Or.inl ⟨by rfl, ?_⟩) HX.out ?_
        rotate_left
        · intro w hSw; have hSw2 := hSw.2; go_simp
          try with_reducible rfl
        go_simp
        refine wpAnyH_take (i := 7) (v := ?_) rfl (by kernel_rfl) (by kernel_rfl) (by kernel_rfl) (fun _ _ _ h => h) (Or.inl ⟨by rfl, ?_⟩) HX.out ?_
        rotate_left
        · intro w hSw; have hSw2 := hSw.2; go_simp
          try with_reducible rfl
        go_simp
        refine wpAnyH_take (i := 8) (v := ?_) rfl (by kernel_rfl) (by kernel_rfl) (by kernel_rfl) (fun _ _ _ h => h) (Or.inl ⟨by rfl, ?_⟩) HX.out ?_
        rotate_left
        · intro w hSw; have hSw2 := hSw.2; go_simp
          try with_reducible rfl
        go_simp
        refine wpAnyH_take (i := 9) (v := ?_) rfl (by kernel_rfl) (by kernel_rfl) (by kernel_rfl) (fun _ _ _ h => h) (Or.inl ⟨by rfl, ?_⟩) HX.out ?_
        rotate_left
        · intro w hSw; have hSw2 := hSw.2; go_simp
          try with_reducible rfl
        go_simp
        refine wpAnyH_take (i := 10) (v := ?_) rfl (by kernel_rfl) (by kernel_rfl) (by kernel_rfl) (fun _ _ _ h => h) (Or.inl ⟨by rfl, ?_⟩) HX.out ?_
        rotate_left
        · intro w hSw; have hSw2 := hSw.2; go_simp
          try with_reducible rfl
        go_simp
        refine wpAnyH_ready (rs := [11]) (by kernel_rfl) (by simp) ?_
        refine AllReadyH.cons rfl (fun K hK => ?_) AllReadyH.nil
        go_simp
        refine (skAdd_w S Lb m (skRun (skNew 4) (L.take k)) hokk x.p hxp x.n _ HS0.out).mono ?_
        rintro e w5 ⟨y5, m5, hy5, rfl, hS5, hu5⟩
        dsimp only
        have HS5 := Lib.hid hS5
        have HB5 := Lib.hid (bl_upd2 HB0.out hu5 hwS hwL)
        clear hS5 hu5 hy5
        refine hK.out _ _ ⟨HCW.out.1.below HB5.out, bl_keeps HB5.out HCW.out.2⟩ (fun hHeld => ?_)
        clear hK K hHeld
        refine wpAnyH_done (by kernel_rfl) ?_ _
        go_wp2_with fail
        go_roundw
        case rel => exact ⟨k + 1, m5, by omega, by go_num, by rw [HSTEP.out]; exact HS5.out, HB5.out⟩
        case measure => simp [intOf]; omega
      · have hk1 : ¬ (k : Int) < (n : Int) := by omega
        have hkn : k = n := by omega
        obtain ⟨sF, hsF⟩ : ∃ sF, skRun (skNew 4) L = sF := ⟨_, rfl⟩
        have HSF := Lib.hid (show SkO wr S Lb m sF by
          have := HSK.out
          rw [hkn, List.take_of_length_le (by have := HLN.out; omega), hsF] at this
          exact this)
        have HOF := Lib.hid (show okSk sF by rw [← hsF]; exact skRun_ok HON.out (fun s hs => (HOK.out s hs).1))
        have HSFE := Lib.hid hsF
        clear hkn hsF HSK
        go_wp2_with fail
        refine (skSlots_w S Lb m sF HOF.out _ HSF.out).mono ?_
        rintro e w3 ⟨v3, rfl, ho3, hb3⟩
        obtain ⟨A3, c3, rfl, hmc3, hlm, _⟩ := own_read ho3 HOF.out.px
        have HO3 := Lib.hid ho3
        have HS3 := Lib.hid (HSF.out.below hb3)
        have HB3 := Lib.hid (bl_next HBL.out hb3)
        have HLM := Lib.hid hlm
        have hwr : w.heap.size ≤ wr.heap.size := HBL.out.size
        have HSLt := Lib.hid (show S < wr.heap.size ∧ Lb < wr.heap.size from ⟨HSF.out.2.1.lt, HSF.out.2.2.lt⟩)
        have hm64 : m ≤ 64 := by have := HOF.out.2.1; have := HOF.out.1.2; omega
        clear ho3 hb3 hlm
        go_wp2_with fail
        refine (skSlots_w S Lb m sF HOF.out _ HS3.out).mono ?_
        rintro e w4 ⟨v4, rfl, ho4, hb4⟩
        obtain ⟨A4, c4, rfl, hmc4, _, _⟩ := own_read ho4 HOF.out.px
        have HO4 := Lib.hid ho4
        have HO34 := Lib.hid (own_below HO3.out hb4)
        have HS4 := Lib.hid (HS3.out.below hb4)
        have HB4 := Lib.hid (bl_next HB3.out hb4)
        have HCT := Lib.hid (show A3 = none ∧ m = 0 ∨ ∃ g, A3 = some ⟨g, 0, none⟩ ∧ wr.heap.size ≤ g ∧ g < w3.heap.size ∧ RoomO w4 g m c3 10 (slosC sF.l) 32 by
          rcases own_room HO34.out with ⟨h0, h1, _⟩ | ⟨g, cap, h1, h2, _, h3⟩
          · simp at h1
            exact .inl ⟨h1.1, h0⟩
          · simp at h1
            obtain ⟨rfl, rfl⟩ := h1
            refine .inr ⟨g, rfl, h2, ?_, h3⟩
            rcases own_room HO3.out with ⟨_, h1, _⟩ | ⟨g', cap', h1, _, _, h4⟩
            · simp at h1
            · simp at h1
              obtain ⟨rfl, _⟩ := h1
              exact h4.lt)
        clear ho4 hb4
        go_wp2_with fail
        go_loopw [47] (fun i wv => ∃ j : Nat, j ≤ m ∧ i = .int .i64 j ∧ (A3 = none ∧ m = 0 ∧ Below w4.heap.size w4 wv ∨ ∃ g xs, A3 = some ⟨g, 0, none⟩ ∧ wr.heap.size ≤ g ∧ g < w3.heap.size ∧ RoomO wv g m c3 10 xs 32 ∧ Upd g w4 wv)) (fun i _ => m - (intOf i).toNat)
        case atStart =>
          refine ⟨0, Nat.zero_le _, rfl, ?_⟩
          rcases HCT.out with ⟨h1, h2⟩ | ⟨g, h1, h2, h3, h4⟩
          · exact .inl ⟨h1, h2, Below.refl _ _⟩
          · exact .inr ⟨g, _, h1, h2, h3, h4, Upd.refl _ _⟩
        case round =>
          obtain ⟨j, hj, rfl, hc⟩ := hrel
          by_cases hlt : j < m
          · have hj0 : (0 : Int) ≤ (j : Int) := Int.natCast_nonneg j
            have hj1 : (j : Int) < (m : Int) := by omega
            rcases hc with ⟨_, h2, _⟩ | ⟨g, xs, rfl, hg1, hg2, hroom, hupd⟩
            · omega
            have HRM := Lib.hid hroom
            have HUP := Lib.hid hupd
            clear hroom hupd
            go_wp2_with (refine store_room rfl 32 (.tmp 53) (.tmp 52) rfl g m c3 j xs 32 HRM.out hlt [.bool false, .int .u8 0, .int .u8 0, .int .u8 0, .int .u8 0, .int .u8 0, .int .u8 0, .int .u8 0, .int .i64 (-1), .int .i64 0] rfl rfl rfl rfl (sloC_one ⟨⟨false, [0, 0, 0, 0, 0, 0, 0]⟩, -1, 0⟩) ?_; intro w5 ys hr5 hu5; have HR5 := Lib.hid hr5; have HU5 := Lib.hid hu5; clear hr5 hu5)
            go_roundw
            case rel => exact ⟨j + 1, by omega, by go_num, .inr ⟨g, ys, rfl, hg1, hg2, HR5.out, HUP.out.trans HU5.out⟩⟩
            case measure => simp [intOf]; omega
          · have hj1 : ¬ (j : Int) < (m : Int) := by omega
            have HALL := Lib.hid (show SkO wr S Lb m sF ∧ wr.ownsRow w3.heap.size 32 10 (.slice A4 m c4) m (slosC sF.l) ∧ Below w.heap.size w wr by
              rcases hc with ⟨_, h2, hb⟩ | ⟨g, xs, rfl, hg1, hg2, hroom, hupd⟩
              · exact ⟨HS4.out.below hb, own_below HO4.out hb, bl_next HB4.out hb⟩
              · refine ⟨HS4.out.grown hupd (by have := HSLt.out; simp; omega) (by have := HSLt.out; simp; omega), HO4.out.kept hupd ?_, bl_upd HB4.out hupd (by omega)⟩
                right
                intro h
                have := (HO4.out.lt g h).1
                omega)
            have HS9 := Lib.hid HALL.out.1
            have HO9 := Lib.hid HALL.out.2.1
            have HB9 := Lib.hid HALL.out.2.2
            clear hc HALL
            go_wp2_with fail
            refine (skSlots_w S Lb m sF HOF.out _ HS9.out).mono ?_
            rintro e wz ⟨v9, rfl, hoz, hbz⟩
            obtain ⟨A9, c9, rfl, hmc9, _, _⟩ := own_read hoz HOF.out.px
            have HC9 := Lib.hid (own_cells hoz HOF.out.px)
            have HC4 := Lib.hid (own_cells (own_below HO9.out hbz) HOF.out.px)
            have HBZ := Lib.hid (bl_next HB9.out hbz)
            clear hoz hbz
            go_wp2_with fail
            go_loopw [59] (fun i wv => ∃ j : Nat, j ≤ m ∧ i = .int .i64 j ∧ Below wz.heap.size wz wv) (fun i _ => m - (intOf i).toNat)
            case atStart => exact ⟨0, Nat.zero_le _, rfl, Below.refl _ _⟩
            case round =>
              obtain ⟨j, hj, rfl, hbel⟩ := hrel
              have HBJ := Lib.hid hbel
              clear hbel
              by_cases hlt : j < m
              · have hj0 : (0 : Int) ≤ (j : Int) := Int.natCast_nonneg j
                have hj1 : (j : Int) < (m : Int) := by omega
                obtain ⟨y, hy⟩ : ∃ y, sF.l[j]? = some y := ⟨_, List.getElem?_eq_getElem (by have := HLM.out; omega)⟩
                obtain ⟨g4, _, rfl, hc4⟩ := HC4.out j y hy
                obtain ⟨g9, _, rfl, hc9⟩ := HC9.out j y hy
                have hyo : okSlo y := HOF.out.2.2.1 y (List.mem_of_getElem? hy)
                have HYS := Lib.hid (slo_size hyo.1)
                have HCC := Lib.hid (And.intro (hc4.below (bl_drewN HBJ.out 1)) (hc9.below (bl_drewN HBJ.out 1)))
                clear hc4 hc9 hy
                go_wp2_with fail
                refine wp_region_held_drew (S := (fun w' => CellsAt w' g4 (j * 10) (sloC y) ∧ CellsAt w' g9 (j * 10) (sloC y))) (by kernel_rfl) (HCC.out) (fun hHeld => ?_)
                generalize hW0 : World.drew _ = W0 at hHeld ⊢
                have HB0 := Lib.hid (show Below wz.heap.size wz W0 by rw [← hW0]; exact bl_drewN HBJ.out 1)
                have HX := Lib.hid hHeld
                clear hW0 hHeld
                refine wpAnyH_take (i := 0) (v := ?_) rfl (by kernel_rfl) (by kernel_rfl) (by kernel_rfl) (fun _ _ _ h => h) (Or.inl ⟨by rfl, ?_⟩) HX.out ?_
                rotate_left
                · intro w hSw; have hSw2 := hSw.2; go_simp
                  try with_reducible rfl
                go_simp
                refine wpAnyH_take (i := 1) (v := ?_) rfl (by kernel_rfl) (by kernel_rfl) (by kernel_rfl) (fun _ _ _ h => h) (Or.inl ⟨by rfl, ?_⟩) HX.out ?_
                rotate_left
                · intro w hSw; have hSw2 := hSw.2; go_simp
                  try with_reducible rfl
                go_simp
                refine wpAnyH_take (i := 2) (v := ?_) rfl (by kernel_rfl) (by kernel_rfl) (by kernel_rfl) (fun _ _ _ h => h) (Or.inl ⟨by rfl, ?_⟩) HX.out ?_
                rotate_left
                · intro w hSw; have hSw2 := hSw.2; go_simp
                  try with_reducible rfl
                go_simp
                refine wpAnyH_take (i := 3) (v := .agg (sloC y).toArray) rfl (by kernel_rfl) (by kernel_rfl) (by kernel_rfl) (fun _ _ _ h => h) (Or.inl ⟨by rfl, ?_⟩) HX.out ?_
                · intro w' hSw
                  have hld := run_loadVar_cells (P := Try.prog) w' ⟨g4, j * 10, none⟩ 32 (sloC y) _ hSw.1 Try.underlying32 rfl HYS.out
                  simp [execOp, Act.eval, Instr.loadAt, Instr.sureAddr, Sem.run_bind, hld, Result.andThen]
                go_simp
                refine wpAnyH_take (i := 4) (v := ?_) rfl (by kernel_rfl) (by kernel_rfl) (by kernel_rfl) (fun _ _ _ h => h) (Or.inl ⟨by rfl, ?_⟩) HX.out ?_
                rotate_left
                · intro w hSw; have hSw2 := hSw.2; go_simp
                  try with_reducible rfl
                go_simp
                refine wpAnyH_take (i := 5) (v := ?_) rfl (by kernel_rfl) (by kernel_rfl) (by kernel_rfl) (fun _ _ _ h => h) (Or.inl ⟨by rfl, ?_⟩) HX.out ?_
                rotate_left
                · intro w hSw; have hSw2 := hSw.2; go_simp
                  try with_reducible rfl
                go_simp
                refine wpAnyH_take (i := 6) (v := ?_) rfl (by kernel_rfl) (by kernel_rfl) (by kernel_rfl) (fun _ _ _ h => h) (Or.inl ⟨by rfl, ?_⟩) HX.out ?_
                rotate_left
                · intro w hSw; have hSw2 := hSw.2; go_simp
                  try with_reducible rfl
                go_simp
                refine wpAnyH_take (i := 7) (v := .agg (sloC y).toArray) rfl (by kernel_rfl) (by kernel_rfl) (by kernel_rfl) (fun _ _ _ h => h) (Or.inl ⟨by rfl, ?_⟩) HX.out ?_
                · intro w' hSw
                  have hld := run_loadVar_cells (P := Try.prog) w' ⟨g9, j * 10, none⟩ 32 (sloC y) _ hSw.2 Try.underlying32 rfl HYS.out
                  simp [execOp, Act.eval, Instr.loadAt, Instr.sureAddr, Sem.run_bind, hld, Result.andThen]
                go_simp
                refine wpAnyH_take (i := 8) (v := .bool false) rfl (by kernel_rfl) (by kernel_rfl) (by kernel_rfl) (fun _ _ _ h => h) (Or.inl ⟨by rfl, ?_⟩) HX.out ?_
                · intro w' hSw
                  exact exec_neq 32 32 (.tmp 65) (.tmp 69) rfl _ _ rfl rfl true (by kernel_rfl) (by rw [eq_slo w' hyo hyo]; simp)
                go_simp
                refine wpAnyH_done (by kernel_rfl) ?_ _
                go_wp2_with fail
                go_roundw
                case rel => exact ⟨j + 1, by omega, by go_num, HB0.out⟩
                case measure => simp [intOf]; omega
              · have hj1 : ¬ (j : Int) < (m : Int) := by omega
                go_wp2
                go_ret
                exact ⟨rfl, bl_next HBZ.out HBJ.out⟩
theorem SketchOwn_w (A : Option Addr) (n c : Nat) (rows : List (List Value)) (w : World) (h : SlP snKs w A n c rows) :
    Calls Try.prog 5 #[.slice A n c] w fun e w' => e = .returned (.bool true) ∧ Below w.heap.size w w' := by
  obtain ⟨L, h1, h2, h3, h4⟩ := h.seen
  exact SketchOwn_x A n c L h1 h2 h3 w h4
end Go.Proofs.Ytdmfmanmhlnleaa
