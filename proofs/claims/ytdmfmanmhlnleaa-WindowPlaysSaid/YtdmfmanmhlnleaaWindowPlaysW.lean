/- The walk of WindowPlays: it answers true. -/
import Derived.Test.YtdmfmanmhlnleaaWnC
import Derived.Test.YtdmfmanmhlnleaaSketchPlaysW
import Derived.Deep.CutRange
import Derived.Deep.Cut
namespace Go.Proofs.Ytdmfmanmhlnleaa
open Go.RowKit
set_option linter.unusedVariables false
set_option linter.unusedSimpArgs false

set_option maxRecDepth 100000 in
set_option maxHeartbeats 8000000 in
theorem WindowPlays_x (slots ns thr tuned : Int) (A : Option Addr) (n c : Nat) (L : List Sw) (hLn : L.length = n) (hn63 : n ≤ 9223372036854775807) (hok : ∀ s ∈ L, okSw s) (w : World) (hrd : SwRd w A L) :
    Calls Try.prog 11 #[.int .i64 slots, .int .i64 ns, .int .i64 thr, .slice A n c, .int .i64 tuned] w fun e w' => e = .returned (.bool true) ∧ Below w.heap.size w w' := by
  have HLN := Lib.hid hLn
  have HOK := Lib.hid hok
  have HRD := Lib.hid hrd
  clear hLn hok hrd
  go_enter Try.func11, Try.ntmps11
  go_wp2_with fail
  refine (awake19_w _).mono ?_
  rintro e w1 ⟨rfl, hb1⟩
  have HB1 := Lib.hid hb1
  clear hb1
  by_cases hlim : 100 < n
  · have hlim' : (100 : Int) < (n : Int) := by omega
    go_wp2_with fail
    refine (awake19_w _).mono ?_
    rintro e w2 ⟨rfl, hb2⟩
    have HB2 := Lib.hid (bl_next HB1.out hb2)
    clear hb2
    go_wp2
    go_ret
    exact ⟨rfl, HB2.out⟩
  · have hlim' : ¬ (100 : Int) < (n : Int) := by omega
    by_cases hgood : (1 ≤ slots ∧ slots ≤ 64) ∧ (1 ≤ ns ∧ ns ≤ 4611686018427387903) ∧ (1 ≤ thr ∧ thr ≤ 4611686018427387903)
    · obtain ⟨hs1, hnsb, hthb⟩ := hgood
      obtain ⟨R, rfl⟩ := Int.eq_ofNat_of_zero_le (show 0 ≤ slots by omega)
      have hRb : 1 ≤ R ∧ R ≤ 64 := by omega
      have g1 : decide ((R : Int) < 1) = false := decide_eq_false (by omega)
      have g2 : decide ((64 : Int) < (R : Int)) = false := decide_eq_false (by omega)
      have g3 : decide (ns < 1) = false := decide_eq_false (by omega)
      have g4 : decide ((4611686018427387903 : Int) < ns) = false := decide_eq_false (by omega)
      have g5 : decide (thr < 1) = false := decide_eq_false (by omega)
      have g6 : ¬ (4611686018427387903 : Int) < thr := by omega
      obtain ⟨H, hH⟩ : ∃ H, H = n / 2 := ⟨_, rfl⟩
      have h1 : (n : Int).tdiv 2 = (H : Int) := by rw [Int.tdiv_eq_ediv_of_nonneg (by omega)]; omega
      have h1' : (n : Int) / 2 = (H : Int) := by omega
      have h2 : IntKind.i64.wrap (H : Int) = (H : Int) := IntWalk.i64_in _ (by omega)
      clear hH
      go_wp2_with fail
      refine (wdNew_w R hRb ns thr hnsb hthb _).mono ?_
      rintro e w2 ⟨B, S, Lb, rfl, hwL0, hLS, hSB, hW2, hb2⟩
      have hwL : w.heap.size ≤ Lb := Nat.le_trans HB1.out.size hwL0
      have hwS : w.heap.size ≤ S := by omega
      have hwB : w.heap.size ≤ B := by omega
      have HW2 := Lib.hid hW2
      have HB2 := Lib.hid (bl_next HB1.out hb2)
      clear hW2 hb2
      go_wp2_with fail
      refine (refWNew_w R ns thr _).mono ?_
      rintro e w3 ⟨rfl, hb3⟩
      have HW3 := Lib.hid (HW2.out.below hb3)
      have HB3 := Lib.hid (bl_next HB2.out hb3)
      clear hb3
      go_wp2_with (refine store_obj rfl 71 (.tmp 13) (.tmp 86) rfl w3.heap.size 71 _ (refWC (.slice none 0 0) (wdNew R ns thr)) rfl rfl (Obj1.new _ _ _) rfl rfl refWC_one ?_; intro w4 hob hup; have hbb := bl_upd (bl_alloc (Below.refl w3.heap.size w3) _) hup (Nat.le_refl _); have HX4 := Lib.hid hob; have HW4 := Lib.hid (HW3.out.below hbb); have HB4 := Lib.hid (bl_next HB3.out hbb); clear hob hup hbb)
      have HXN := Lib.hid (show w.heap.size ≤ w3.heap.size ∧ B ≠ w3.heap.size ∧ S ≠ w3.heap.size ∧ Lb ≠ w3.heap.size ∧ w3.heap.size < w4.heap.size from ⟨HB3.out.size, Nat.ne_of_lt HW3.out.1.lt, Nat.ne_of_lt HW3.out.2.2.1.lt, Nat.ne_of_lt HW3.out.2.2.2.lt, HX4.out.lt⟩)
      have HXN0 := Lib.hid (show B < w4.heap.size ∧ S < w4.heap.size ∧ Lb < w4.heap.size from ⟨HW4.out.1.lt, HW4.out.2.2.1.lt, HW4.out.2.2.2.lt⟩)
      generalize hXX : w3.heap.size = X at HX4 HXN ⊢
      obtain ⟨B0, hB0⟩ : ∃ B0, B0 = w4.heap.size := ⟨_, rfl⟩
      have HNX := Lib.hid (show w.heap.size ≤ X ∧ B ≠ X ∧ S ≠ X ∧ Lb ≠ X ∧ X < B0 by rw [hB0]; exact HXN.out)
      have HNX0 := Lib.hid (show B < B0 ∧ S < B0 ∧ Lb < B0 by rw [hB0]; exact HXN0.out)
      have HB04 := Lib.hid (show B0 ≤ w4.heap.size by rw [hB0]; exact Nat.le_refl _)
      have HOKN := Lib.hid (wdNew_ok hRb hnsb hthb)
      clear hXX hB0
      go_wp2_with fail
      go_loopw [89] (fun i wr => ∃ (k m : Nat) (v : Value) (d : Wd), k ≤ n ∧ i = .int .i64 k ∧ okWd d ∧ WdO wr B S Lb m d ∧ Obj1 wr X (refWC v d) 71 ∧ RefV wr B0 v d.s.l ∧ Below w.heap.size w wr ∧ B0 ≤ wr.heap.size) (fun i _ => n - (intOf i).toNat)
      case atStart => exact ⟨0, 0, .slice none 0 0, wdNew R ns thr, Nat.zero_le _, rfl, HOKN.out, HW4.out, HX4.out, RefV.nil _ _, HB4.out, HB04.out⟩
      case round =>
        obtain ⟨k, m, v, dd, hk, rfl, hokd, hwd, hxb, hrv, hbel, hbo⟩ := hrel
        have HOKD0 := Lib.hid hokd
        have HWD := Lib.hid hwd
        have HXB := Lib.hid hxb
        have HRV := Lib.hid hrv
        have HBL := Lib.hid hbel
        have HBO := Lib.hid hbo
        clear hokd hwd hxb hrv hbel hbo
        by_cases hlt : k < n
        · have hk0 : (0 : Int) ≤ (k : Int) := Int.natCast_nonneg k
          have hk1 : (k : Int) < (n : Int) := by omega
          obtain ⟨x, hx⟩ : ∃ x, L[k]? = some x := ⟨_, List.getElem?_eq_getElem (by have := HLN.out; omega)⟩
          obtain ⟨b, off, rfl, hcn, hcp, hcm⟩ := HRD.out k x hx
          have hxs : okSw x := HOK.out x (List.mem_of_getElem? hx)
          have hxp : okPx x.p := hxs.1
          have HCW := Lib.hid (And.intro hcp (And.intro hcm hcn))
          have HPS := Lib.hid (px_size hxp)
          clear hx hcn hcp hcm
          go_upto_if 96 with (fail)
          go_cut [89] from 89 to 167 (fun s89 wx => s89 = .int .i64 k ∧ ∃ d', okWd d' ∧ WdO wx B S Lb m d' ∧ Obj1 wx X (refWC v d') 71 ∧ RefV wx B0 v d'.s.l ∧ Below w.heap.size w wx ∧ B0 ≤ wx.heap.size)
          case first =>
            by_cases hkh : k = H
            · have dk : decide (k = H) = true := decide_eq_true hkh
              have dk2 : ((k : Int) = (H : Int)) := by omega
              have dk3 : decide ((k : Int) = (H : Int)) = true := decide_eq_true dk2
              have dkb : ((k : Int) == (H : Int)) = true := by simp [dk2]
              clear hkh dk2
              by_cases ht1 : 1 ≤ tuned
              · have t1 : decide (1 ≤ tuned) = true := decide_eq_true ht1
                by_cases ht2 : tuned ≤ 4611686018427387903
                · have t2 : decide (tuned ≤ 4611686018427387903) = true := decide_eq_true ht2
                  have HMB := Lib.hid (show mayB tuned = true from decide_eq_true ⟨ht1, ht2⟩)
                  go_wp2_with fail
                  refine (wdTuneYes_w B S Lb m dd tuned HMB.out _ HWD.out).mono ?_
                  rintro e w4 ⟨rfl, hw4, hu4⟩
                  have HW4 := Lib.hid hw4
                  have HX4 := Lib.hid (HXB.out.of_grown hu4 (by have := HNX.out; simp; omega))
                  have HV4 := Lib.hid (HRV.out.upd hu4 HNX0.out.1)
                  have HB4 := Lib.hid (bl_upd HBL.out hu4 hwB)
                  have HBO4 := Lib.hid (Nat.le_trans HBO.out hu4.size)
                  clear hw4 hu4
                  have cx : w4.cell? ⟨X, 4, none⟩ = some (.int .i64 dd.thr) := HX4.out.cell 4
                  have fx : w4.frozen? ⟨X, 4, none⟩ = false := HX4.out.free 4
                  go_wp2_with fail
                  go_meet
                  have hset := (Upd.refl X w4).set 4 (.int .i64 tuned)
                  case rel => exact ⟨rfl, { dd with thr := tuned }, ⟨HOKD0.out.1, HOKD0.out.2.1, ⟨ht1, ht2⟩, HOKD0.out.2.2.2⟩, HW4.out.aside hset (by have := HNX.out; omega) (by have := HNX.out; omega) (by have := HNX.out; omega), HX4.out.set 4 _, HV4.out.upd hset HNX.out.2.2.2.2, bl_upd HB4.out hset HNX.out.1, Nat.le_trans HBO4.out hset.size⟩
                · have t2 : decide (tuned ≤ 4611686018427387903) = false := decide_eq_false ht2
                  have HMB := Lib.hid (show mayB tuned = false from decide_eq_false (by omega))
                  go_wp2_with fail
                  refine (wdTuneNo_w B S Lb m dd tuned HMB.out _ HWD.out).mono ?_
                  rintro e w' ⟨rfl, rfl⟩
                  go_wp2_with fail
                  go_meet
                  case rel => exact ⟨rfl, dd, HOKD0.out, HWD.out, HXB.out, HRV.out, HBL.out, HBO.out⟩
              · have t1 : decide (1 ≤ tuned) = false := decide_eq_false ht1
                have HMB := Lib.hid (show mayB tuned = false from decide_eq_false (by omega))
                go_wp2_with fail
                refine (wdTuneNo_w B S Lb m dd tuned HMB.out _ HWD.out).mono ?_
                rintro e w' ⟨rfl, rfl⟩
                go_wp2_with fail
                go_meet
                case rel => exact ⟨rfl, dd, HOKD0.out, HWD.out, HXB.out, HRV.out, HBL.out, HBO.out⟩
            · have dk : decide (k = H) = false := decide_eq_false hkh
              have dk2 : ¬ ((k : Int) = (H : Int)) := by omega
              have dk3 : decide ((k : Int) = (H : Int)) = false := decide_eq_false dk2
              have dkb : ((k : Int) == (H : Int)) = false := by simpa using dk2
              go_wp2_with fail
              go_meet
              case rel => exact ⟨rfl, dd, HOKD0.out, HWD.out, HXB.out, HRV.out, HBL.out, HBO.out⟩
          case rest =>
            obtain ⟨rfl, d, hokd, hwd1, hxb1, hrv1, hbl1, hbo1⟩ := hcut
            have HOKD := Lib.hid hokd
            have HWD1 := Lib.hid hwd1
            have HXB1 := Lib.hid hxb1
            have HRV1 := Lib.hid hrv1
            have HBL1 := Lib.hid hbl1
            have HBO1 := Lib.hid hbo1
            clear hokd hwd1 hxb1 hrv1 hbl1 hbo1
            go_wp2_with fail
            refine wp_region_held_drew (S := (fun w' => CellsAt w' b (off + k * 10 + 1) (pxC x.p) ∧ w'.cell? ⟨b, off + k * 10 + 9, none⟩ = some (.int .i64 x.n) ∧ w'.cell? ⟨b, off + k * 10, none⟩ = some (.int .i64 x.now))) (by kernel_rfl) (⟨HCW.out.1.below (bl_drewN HBL1.out 1), bl_keeps (bl_drewN HBL1.out 1) HCW.out.2.1, bl_keeps (bl_drewN HBL1.out 1) HCW.out.2.2⟩) (fun hHeld => ?_)
            generalize hW0 : World.drew _ = W0 at hHeld ⊢
            have HD0 := Lib.hid (show WdO W0 B S Lb m d by rw [← hW0]; exact HWD1.out)
            have HX0 := Lib.hid (show Obj1 W0 X (refWC v d) 71 by rw [← hW0]; exact HXB1.out)
            have HV0 := Lib.hid (show RefV W0 B0 v d.s.l by rw [← hW0]; exact HRV1.out)
            have HB0 := Lib.hid (show Below w.heap.size w W0 by rw [← hW0]; exact bl_drewN HBL1.out 1)
            have HBO0 := Lib.hid (show B0 ≤ W0.heap.size by rw [← hW0]; exact HBO1.out)
            have HX := Lib.hid hHeld
            clear hW0 hHeld
            refine wpAnyH_take (i := 0) (v := ?_) rfl (by kernel_rfl) (by kernel_rfl) (by kernel_rfl) (fun _ _ _ h => h) (Or.inl ⟨by rfl, ?_⟩) HX.out ?_
            rotate_left
            · intro w' hSw; have hSw2 := hSw.2.1; have hSw3 := hSw.2.2; go_simp
              try with_reducible rfl
            go_simp
            refine wpAnyH_take (i := 1) (v := ?_) rfl (by kernel_rfl) (by kernel_rfl) (by kernel_rfl) (fun _ _ _ h => h) (Or.inl ⟨by rfl, ?_⟩) HX.out ?_
            rotate_left
            · intro w' hSw; have hSw2 := hSw.2.1; have hSw3 := hSw.2.2; go_simp
              try with_reducible rfl
            go_simp
            refine wpAnyH_take (i := 2) (v := ?_) rfl (by kernel_rfl) (by kernel_rfl) (by kernel_rfl) (fun _ _ _ h => h) (Or.inl ⟨by rfl, ?_⟩) HX.out ?_
            rotate_left
            · intro w' hSw; have hSw2 := hSw.2.1; have hSw3 := hSw.2.2; go_simp
              try with_reducible rfl
            go_simp
            refine wpAnyH_take (i := 3) (v := ?_) rfl (by kernel_rfl) (by kernel_rfl) (by kernel_rfl) (fun _ _ _ h => h) (Or.inl ⟨by rfl, ?_⟩) HX.out ?_
            rotate_left
            · intro w' hSw; have hSw2 := hSw.2.1; have hSw3 := hSw.2.2; go_simp
              try with_reducible rfl
            go_simp
            refine wpAnyH_take (i := 4) (v := ?_) rfl (by kernel_rfl) (by kernel_rfl) (by kernel_rfl) (fun _ _ _ h => h) (Or.inl ⟨by rfl, ?_⟩) HX.out ?_
            rotate_left
            · intro w' hSw; have hSw2 := hSw.2.1; have hSw3 := hSw.2.2; go_simp
              try with_reducible rfl
            go_simp
            refine wpAnyH_take (i := 5) (v := ?_) rfl (by kernel_rfl) (by kernel_rfl) (by kernel_rfl) (fun _ _ _ h => h) (Or.inl ⟨by rfl, ?_⟩) HX.out ?_
            rotate_left
            · intro w' hSw; have hSw2 := hSw.2.1; have hSw3 := hSw.2.2; go_simp
              try with_reducible rfl
            go_simp
            refine wpAnyH_take (i := 6) (v := ?_) rfl (by kernel_rfl) (by kernel_rfl) (by kernel_rfl) (fun _ _ _ h => h) (Or.inl ⟨by rfl, ?_⟩) HX.out ?_
            rotate_left
            · intro w' hSw; have hSw2 := hSw.2.1; have hSw3 := hSw.2.2; go_simp
              try with_reducible rfl
            go_simp
            refine wpAnyH_take (i := 7) (v := ?_) rfl (by kernel_rfl) (by kernel_rfl) (by kernel_rfl) (fun _ _ _ h => h) (Or.inl ⟨by rfl, ?_⟩) HX.out ?_
            rotate_left
            · intro w' hSw; have hSw2 := hSw.2.1; have hSw3 := hSw.2.2; go_simp
              try with_reducible rfl
            go_simp
            refine wpAnyH_take (i := 8) (v := ?_) rfl (by kernel_rfl) (by kernel_rfl) (by kernel_rfl) (fun _ _ _ h => h) (Or.inl ⟨by rfl, ?_⟩) HX.out ?_
            rotate_left
            · intro w' hSw; have hSw2 := hSw.2.1; have hSw3 := hSw.2.2; go_simp
              try with_reducible rfl
            go_simp
            refine wpAnyH_take (i := 9) (v := ?_) rfl (by kernel_rfl) (by kernel_rfl) (by kernel_rfl) (fun _ _ _ h => h) (Or.inl ⟨by rfl, ?_⟩) HX.out ?_
            rotate_left
            · intro w' hSw; have hSw2 := hSw.2.1; have hSw3 := hSw.2.2; go_simp
              try with_reducible rfl
            go_simp
            refine wpAnyH_take (i := 10) (v := .agg (pxC x.p).toArray) rfl (by kernel_rfl) (by kernel_rfl) (by kernel_rfl) (fun _ _ _ h => h) (Or.inl ⟨by rfl, ?_⟩) HX.out ?_
            · intro w' hSw
              have hld := run_loadVar_cells (P := Try.prog) w' ⟨b, off + k * 10 + 1, none⟩ 30 (pxC x.p) _ hSw.1 Try.underlying30 rfl HPS.out
              simp [execOp, Act.eval, Instr.loadAt, Instr.sureAddr, Sem.run_bind, hld, Result.andThen]
            go_simp
            refine wpAnyH_take (i := 11) (v := ?_) rfl (by kernel_rfl) (by kernel_rfl) (by kernel_rfl) (fun _ _ _ h => h) (Or.inl ⟨by rfl, ?_⟩) HX.out ?_
            rotate_left
            · intro w' hSw; have hSw2 := hSw.2.1; have hSw3 := hSw.2.2; go_simp
              try with_reducible rfl
            go_simp
            refine wpAnyH_take (i := 12) (v := ?_) rfl (by kernel_rfl) (by kernel_rfl) (by kernel_rfl) (fun _ _ _ h => h) (Or.inl ⟨by rfl, ?_⟩) HX.out ?_
            rotate_left
            · intro w' hSw; have hSw2 := hSw.2.1; have hSw3 := hSw.2.2; go_simp
              try with_reducible rfl
            go_simp
            refine wpAnyH_take (i := 13) (v := ?_) rfl (by kernel_rfl) (by kernel_rfl) (by kernel_rfl) (fun _ _ _ h => h) (Or.inl ⟨by rfl, ?_⟩) HX.out ?_
            rotate_left
            · intro w' hSw; have hSw2 := hSw.2.1; have hSw3 := hSw.2.2; go_simp
              try with_reducible rfl
            go_simp
            refine wpAnyH_take (i := 14) (v := ?_) rfl (by kernel_rfl) (by kernel_rfl) (by kernel_rfl) (fun _ _ _ h => h) (Or.inl ⟨by rfl, ?_⟩) HX.out ?_
            rotate_left
            · intro w' hSw; have hSw2 := hSw.2.1; have hSw3 := hSw.2.2; go_simp
              try with_reducible rfl
            go_simp
            refine wpAnyH_take (i := 15) (v := ?_) rfl (by kernel_rfl) (by kernel_rfl) (by kernel_rfl) (fun _ _ _ h => h) (Or.inl ⟨by rfl, ?_⟩) HX.out ?_
            rotate_left
            · intro w' hSw; have hSw2 := hSw.2.1; have hSw3 := hSw.2.2; go_simp
              try with_reducible rfl
            go_simp
            refine wpAnyH_ready (rs := [16]) (by kernel_rfl) (by simp) ?_
            refine AllReadyH.cons rfl (fun K hK => ?_) AllReadyH.nil
            go_simp
            refine (wdAdd_w B S Lb m d HOKD.out x.now x.p hxp x.n _ HD0.out).mono ?_
            rintro e w5 ⟨y, m5, hy, rfl, hW5, hu5⟩
            dsimp only
            have HYY := Lib.hid hy
            have HW5 := Lib.hid hW5
            have HX5 := Lib.hid (show Obj1 w5 X (refWC v d) 71 from (hu5.2.2.2.2 X HX0.out.lt (by have := HNX.out; omega) (by have := HNX.out; omega) (by have := HNX.out; omega)).trans HX0.out)
            have HV5 := Lib.hid (show RefV w5 B0 v d.s.l from HV0.out.keep (fun q hq hlt => hu5.2.2.2.2 q hlt (by have := HNX0.out; omega) (by have := HNX0.out; omega) (by have := HNX0.out; omega)))
            have HB5 := Lib.hid (bl_upd3 HB0.out hu5 hwB hwS hwL)
            have HBO5 := Lib.hid (Nat.le_trans HBO0.out hu5.2.2.2.1)
            have HOK5 := Lib.hid (wdAdd_ok HOKD.out x.now hxp x.n)
            clear hW5 hu5 hy
            obtain ⟨d2, hd2⟩ : ∃ d2, wdAdd d x.now x.p x.n = d2 := ⟨_, rfl⟩
            obtain ⟨hv, hhv⟩ : ∃ hv, decide (d.thr ≤ y.c - y.e) = hv := ⟨_, rfl⟩
            rw [hd2] at HW5 HOK5
            rw [hhv]
            have HD2 := Lib.hid hd2
            have HHV := Lib.hid hhv
            have HLM5 := Lib.hid HW5.out.2.1
            have hm64 : m5 ≤ 64 := by have h1 := HOK5.out.1.2.1; have h2 := HOK5.out.1.1.2; have h3 := HLM5.out; omega
            clear hd2 hhv
            refine hK.out _ _ ⟨HCW.out.1.below (HB5.out), bl_keeps (HB5.out) HCW.out.2.1, bl_keeps (HB5.out) HCW.out.2.2⟩ (fun hHeld => ?_)
            clear hK K
            have HX := Lib.hid hHeld
            clear hHeld
            refine wpAnyH_take (i := 17) (v := ?_) rfl (by kernel_rfl) (by kernel_rfl) (by kernel_rfl) (fun _ _ _ h => h) (Or.inl ⟨by rfl, ?_⟩) HX.out ?_
            rotate_left
            · intro w' hSw; have hSw2 := hSw.2.1; have hSw3 := hSw.2.2; go_simp
              try with_reducible rfl
            go_simp
            refine wpAnyH_done (by kernel_rfl) ?_ _
            go_wp2_with fail
            refine wp_region_held_drew (S := (fun w' => CellsAt w' b (off + k * 10 + 1) (pxC x.p) ∧ w'.cell? ⟨b, off + k * 10 + 9, none⟩ = some (.int .i64 x.n) ∧ w'.cell? ⟨b, off + k * 10, none⟩ = some (.int .i64 x.now))) (by kernel_rfl) (⟨HCW.out.1.below (bl_drewN HB5.out 1), bl_keeps (bl_drewN HB5.out 1) HCW.out.2.1, bl_keeps (bl_drewN HB5.out 1) HCW.out.2.2⟩) (fun hHeld => ?_)
            generalize hW0 : World.drew _ = W6 at hHeld ⊢
            have HW6 := Lib.hid (show WdO W6 B S Lb m5 d2 by rw [← hW0]; exact HW5.out)
            have HX6 := Lib.hid (show Obj1 W6 X (refWC v d) 71 by rw [← hW0]; exact HX5.out)
            have HV6 := Lib.hid (show RefV W6 B0 v d.s.l by rw [← hW0]; exact HV5.out)
            have HB6 := Lib.hid (show Below w.heap.size w W6 by rw [← hW0]; exact bl_drewN HB5.out 1)
            have HBO6 := Lib.hid (show B0 ≤ W6.heap.size by rw [← hW0]; exact HBO5.out)
            have HX := Lib.hid hHeld
            clear hW0 hHeld
            refine wpAnyH_take (i := 1) (v := ?_) rfl (by kernel_rfl) (by kernel_rfl) (by kernel_rfl) (fun _ _ _ h => h) (Or.inl ⟨by rfl, ?_⟩) HX.out ?_
            rotate_left
            · intro w' hSw; have hSw2 := hSw.2.1; have hSw3 := hSw.2.2; go_simp
              try with_reducible rfl
            go_simp
            refine wpAnyH_take (i := 2) (v := ?_) rfl (by kernel_rfl) (by kernel_rfl) (by kernel_rfl) (fun _ _ _ h => h) (Or.inl ⟨by rfl, ?_⟩) HX.out ?_
            rotate_left
            · intro w' hSw; have hSw2 := hSw.2.1; have hSw3 := hSw.2.2; go_simp
              try with_reducible rfl
            go_simp
            refine wpAnyH_take (i := 3) (v := ?_) rfl (by kernel_rfl) (by kernel_rfl) (by kernel_rfl) (fun _ _ _ h => h) (Or.inl ⟨by rfl, ?_⟩) HX.out ?_
            rotate_left
            · intro w' hSw; have hSw2 := hSw.2.1; have hSw3 := hSw.2.2; go_simp
              try with_reducible rfl
            go_simp
            refine wpAnyH_take (i := 4) (v := ?_) rfl (by kernel_rfl) (by kernel_rfl) (by kernel_rfl) (fun _ _ _ h => h) (Or.inl ⟨by rfl, ?_⟩) HX.out ?_
            rotate_left
            · intro w' hSw; have hSw2 := hSw.2.1; have hSw3 := hSw.2.2; go_simp
              try with_reducible rfl
            go_simp
            refine wpAnyH_take (i := 5) (v := ?_) rfl (by kernel_rfl) (by kernel_rfl) (by kernel_rfl) (fun _ _ _ h => h) (Or.inl ⟨by rfl, ?_⟩) HX.out ?_
            rotate_left
            · intro w' hSw; have hSw2 := hSw.2.1; have hSw3 := hSw.2.2; go_simp
              try with_reducible rfl
            go_simp
            refine wpAnyH_take (i := 6) (v := ?_) rfl (by kernel_rfl) (by kernel_rfl) (by kernel_rfl) (fun _ _ _ h => h) (Or.inl ⟨by rfl, ?_⟩) HX.out ?_
            rotate_left
            · intro w' hSw; have hSw2 := hSw.2.1; have hSw3 := hSw.2.2; go_simp
              try with_reducible rfl
            go_simp
            refine wpAnyH_take (i := 7) (v := ?_) rfl (by kernel_rfl) (by kernel_rfl) (by kernel_rfl) (fun _ _ _ h => h) (Or.inl ⟨by rfl, ?_⟩) HX.out ?_
            rotate_left
            · intro w' hSw; have hSw2 := hSw.2.1; have hSw3 := hSw.2.2; go_simp
              try with_reducible rfl
            go_simp
            refine wpAnyH_take (i := 8) (v := ?_) rfl (by kernel_rfl) (by kernel_rfl) (by kernel_rfl) (fun _ _ _ h => h) (Or.inl ⟨by rfl, ?_⟩) HX.out ?_
            rotate_left
            · intro w' hSw; have hSw2 := hSw.2.1; have hSw3 := hSw.2.2; go_simp
              try with_reducible rfl
            go_simp
            refine wpAnyH_take (i := 9) (v := ?_) rfl (by kernel_rfl) (by kernel_rfl) (by kernel_rfl) (fun _ _ _ h => h) (Or.inl ⟨by rfl, ?_⟩) HX.out ?_
            rotate_left
            · intro w' hSw; have hSw2 := hSw.2.1; have hSw3 := hSw.2.2; go_simp
              try with_reducible rfl
            go_simp
            refine wpAnyH_take (i := 10) (v := .agg (pxC x.p).toArray) rfl (by kernel_rfl) (by kernel_rfl) (by kernel_rfl) (fun _ _ _ h => h) (Or.inl ⟨by rfl, ?_⟩) HX.out ?_
            · intro w' hSw
              have hld := run_loadVar_cells (P := Try.prog) w' ⟨b, off + k * 10 + 1, none⟩ 30 (pxC x.p) _ hSw.1 Try.underlying30 rfl HPS.out
              simp [execOp, Act.eval, Instr.loadAt, Instr.sureAddr, Sem.run_bind, hld, Result.andThen]
            go_simp
            refine wpAnyH_take (i := 11) (v := ?_) rfl (by kernel_rfl) (by kernel_rfl) (by kernel_rfl) (fun _ _ _ h => h) (Or.inl ⟨by rfl, ?_⟩) HX.out ?_
            rotate_left
            · intro w' hSw; have hSw2 := hSw.2.1; have hSw3 := hSw.2.2; go_simp
              try with_reducible rfl
            go_simp
            refine wpAnyH_take (i := 12) (v := ?_) rfl (by kernel_rfl) (by kernel_rfl) (by kernel_rfl) (fun _ _ _ h => h) (Or.inl ⟨by rfl, ?_⟩) HX.out ?_
            rotate_left
            · intro w' hSw; have hSw2 := hSw.2.1; have hSw3 := hSw.2.2; go_simp
              try with_reducible rfl
            go_simp
            refine wpAnyH_take (i := 13) (v := ?_) rfl (by kernel_rfl) (by kernel_rfl) (by kernel_rfl) (fun _ _ _ h => h) (Or.inl ⟨by rfl, ?_⟩) HX.out ?_
            rotate_left
            · intro w' hSw; have hSw2 := hSw.2.1; have hSw3 := hSw.2.2; go_simp
              try with_reducible rfl
            go_simp
            refine wpAnyH_take (i := 14) (v := ?_) rfl (by kernel_rfl) (by kernel_rfl) (by kernel_rfl) (fun _ _ _ h => h) (Or.inl ⟨by rfl, ?_⟩) HX.out ?_
            rotate_left
            · intro w' hSw; have hSw2 := hSw.2.1; have hSw3 := hSw.2.2; go_simp
              try with_reducible rfl
            go_simp
            refine wpAnyH_take (i := 15) (v := ?_) rfl (by kernel_rfl) (by kernel_rfl) (by kernel_rfl) (fun _ _ _ h => h) (Or.inl ⟨by rfl, ?_⟩) HX.out ?_
            rotate_left
            · intro w' hSw; have hSw2 := hSw.2.1; have hSw3 := hSw.2.2; go_simp
              try with_reducible rfl
            go_simp
            refine wpAnyH_ready (rs := [0]) (by kernel_rfl) (by simp) ?_
            refine AllReadyH.cons rfl (fun K hK => ?_) AllReadyH.nil
            refine gwanted rfl ?_
            refine wp_load_row 71 (.tmp 13) rfl X rfl 71 (refWC v d) (0, 0) _ HX6.out Try.underlying71 rfl rfl ?_
            refine hK.out _ _ HX.out (fun hHeld => ?_)
            clear hK K hHeld
            refine wpAnyH_ready (rs := [16]) (by kernel_rfl) (by simp) ?_
            refine AllReadyH.cons rfl (fun K hK => ?_) AllReadyH.nil
            go_simp
            refine (refWAdd_w B0 v d HOKD.out x.now x.p hxp x.n _ HBO6.out HV6.out).mono ?_
            rintro e w8 ⟨v2, y2, rfl, hy2, hv8, hb8⟩
            have hyy : y2 = y := by rw [HYY.out] at hy2; exact (Option.some.inj hy2).symm
            subst hyy
            rw [HD2.out] at hv8 ⊢
            rw [HHV.out]
            dsimp only
            have HV8 := Lib.hid (hv8.mono HBO6.out)
            have HW8 := Lib.hid (HW6.out.below hb8)
            have HX8 := Lib.hid (HX6.out.below hb8)
            have HB8 := Lib.hid (bl_next HB6.out hb8)
            have HBO8 := Lib.hid (Nat.le_trans HBO6.out hb8.size)
            clear hv8 hb8 hy2
            refine hK.out _ _ ⟨HCW.out.1.below (HB8.out), bl_keeps (HB8.out) HCW.out.2.1, bl_keeps (HB8.out) HCW.out.2.2⟩ (fun hHeld => ?_)
            clear hK K
            have HX := Lib.hid hHeld
            clear hHeld
            go_simp
            refine wpAnyH_take (i := 17) (v := ?_) rfl (by kernel_rfl) (by kernel_rfl) (by kernel_rfl) (fun _ _ _ h => h) (Or.inl ⟨by rfl, ?_⟩) HX.out ?_
            rotate_left
            · intro w' hSw; have hSw2 := hSw.2.1; have hSw3 := hSw.2.2; go_simp
              try with_reducible rfl
            go_simp
            refine wpAnyH_take (i := 18) (v := ?_) rfl (by kernel_rfl) (by kernel_rfl) (by kernel_rfl) (fun _ _ _ h => h) (Or.inl ⟨by rfl, ?_⟩) HX.out ?_
            rotate_left
            · intro w' hSw; have hSw2 := hSw.2.1; have hSw3 := hSw.2.2; go_simp
              try with_reducible rfl
            go_simp
            refine wpAnyH_take (i := 19) (v := ?_) rfl (by kernel_rfl) (by kernel_rfl) (by kernel_rfl) (fun _ _ _ h => h) (Or.inl ⟨by rfl, ?_⟩) HX.out ?_
            rotate_left
            · intro w' hSw; have hSw2 := hSw.2.1; have hSw3 := hSw.2.2; go_simp
              try with_reducible rfl
            go_simp
            refine wpAnyH_ready (rs := [20]) (by kernel_rfl) (by simp) ?_
            refine AllReadyH.cons rfl (fun K hK => ?_) AllReadyH.nil
            refine gwanted rfl ?_
            obtain ⟨A2, cv, rfl, hcv, _, _⟩ := HV8.out.slice HOK5.out.1.px
            rw [HLM5.out] at HV8 ⊢
            refine wp_store_objR 71 (.tmp 13) (.tmp 146) rfl X 71 (refWC v d) (refWC (.slice A2 m5 cv) d2) rfl rfl HX8.out rfl rfl refWC_one ?_
            intro w9 hob hup
            have HX9 := Lib.hid hob
            have HW9 := Lib.hid (HW8.out.aside hup (by have := HNX.out; omega) (by have := HNX.out; omega) (by have := HNX.out; omega))
            have HV9 := Lib.hid (HV8.out.upd hup HNX.out.2.2.2.2)
            have HB9 := Lib.hid (bl_upd HB8.out hup HNX.out.1)
            have HBO9 := Lib.hid (Nat.le_trans HBO8.out hup.size)
            clear hob hup
            refine hK.out _ _ ⟨HCW.out.1.below (HB9.out), bl_keeps (HB9.out) HCW.out.2.1, bl_keeps (HB9.out) HCW.out.2.2⟩ (fun hHeld => ?_)
            clear hK K
            have HX := Lib.hid hHeld
            clear hHeld
            refine wpAnyH_take (i := 21) (v := ?_) rfl (by kernel_rfl) (by kernel_rfl) (by kernel_rfl) (fun _ _ _ h => h) (Or.inl ⟨by rfl, ?_⟩) HX.out ?_
            rotate_left
            · intro w' hSw; have hSw2 := hSw.2.1; have hSw3 := hSw.2.2; go_simp
              try with_reducible rfl
            go_simp
            refine wpAnyH_done (by kernel_rfl) ?_ _
            clear HX
            go_wp2_with fail
            refine wp_region_held_drew (S := (fun w' => Obj1 w' X (refWC (.slice A2 m5 cv) d2) 71)) (by kernel_rfl) (HX9.out) (fun hHeld => ?_)
            generalize hW0 : World.drew _ = Wa at hHeld ⊢
            have HWa := Lib.hid (show WdO Wa B S Lb m5 d2 by rw [← hW0]; exact HW9.out)
            have HVa := Lib.hid (show RefV Wa B0 (.slice A2 m5 cv) d2.s.l by rw [← hW0]; exact HV9.out)
            have HBa := Lib.hid (show Below w.heap.size w Wa by rw [← hW0]; exact bl_drewN HB9.out 1)
            have HBOa := Lib.hid (show B0 ≤ Wa.heap.size by rw [← hW0]; exact HBO9.out)
            have HX := Lib.hid hHeld
            clear hW0 hHeld
            refine wpAnyH_take (i := 0) (v := ?_) rfl (by kernel_rfl) (by kernel_rfl) (by kernel_rfl) (fun _ _ _ h => h) (Or.inl ⟨by rfl, ?_⟩) HX.out ?_
            rotate_left
            · intro w' hSw; have hc3 : w'.cell? ⟨X, 5, none⟩ = some (.int .i64 d2.num) := hSw.cell 5; have hc0 : w'.cell? ⟨X, 0, none⟩ = some (.slice A2 m5 cv) := hSw.cell 0; go_simp
              try with_reducible rfl
            go_simp
            refine wpAnyH_take (i := 1) (v := ?_) rfl (by kernel_rfl) (by kernel_rfl) (by kernel_rfl) (fun _ _ _ h => h) (Or.inl ⟨by rfl, ?_⟩) HX.out ?_
            rotate_left
            · intro w' hSw; have hc3 : w'.cell? ⟨X, 5, none⟩ = some (.int .i64 d2.num) := hSw.cell 5; have hc0 : w'.cell? ⟨X, 0, none⟩ = some (.slice A2 m5 cv) := hSw.cell 0; go_simp
              try with_reducible rfl
            go_simp
            refine wpAnyH_take (i := 2) (v := ?_) rfl (by kernel_rfl) (by kernel_rfl) (by kernel_rfl) (fun _ _ _ h => h) (Or.inl ⟨by rfl, ?_⟩) HX.out ?_
            rotate_left
            · intro w' hSw; have hc3 : w'.cell? ⟨X, 5, none⟩ = some (.int .i64 d2.num) := hSw.cell 5; have hc0 : w'.cell? ⟨X, 0, none⟩ = some (.slice A2 m5 cv) := hSw.cell 0; go_simp
              try with_reducible rfl
            go_simp
            refine wpAnyH_take (i := 3) (v := ?_) rfl (by kernel_rfl) (by kernel_rfl) (by kernel_rfl) (fun _ _ _ h => h) (Or.inl ⟨by rfl, ?_⟩) HX.out ?_
            rotate_left
            · intro w' hSw; have hc3 : w'.cell? ⟨X, 5, none⟩ = some (.int .i64 d2.num) := hSw.cell 5; have hc0 : w'.cell? ⟨X, 0, none⟩ = some (.slice A2 m5 cv) := hSw.cell 0; go_simp
              try with_reducible rfl
            go_simp
            refine wpAnyH_take (i := 4) (v := ?_) rfl (by kernel_rfl) (by kernel_rfl) (by kernel_rfl) (fun _ _ _ h => h) (Or.inl ⟨by rfl, ?_⟩) HX.out ?_
            rotate_left
            · intro w' hSw; have hc3 : w'.cell? ⟨X, 5, none⟩ = some (.int .i64 d2.num) := hSw.cell 5; have hc0 : w'.cell? ⟨X, 0, none⟩ = some (.slice A2 m5 cv) := hSw.cell 0; go_simp
              try with_reducible rfl
            go_simp
            refine wpAnyH_take (i := 6) (v := ?_) rfl (by kernel_rfl) (by kernel_rfl) (by kernel_rfl) (fun _ _ _ h => h) (Or.inl ⟨by rfl, ?_⟩) HX.out ?_
            rotate_left
            · intro w' hSw; have hc3 : w'.cell? ⟨X, 5, none⟩ = some (.int .i64 d2.num) := hSw.cell 5; have hc0 : w'.cell? ⟨X, 0, none⟩ = some (.slice A2 m5 cv) := hSw.cell 0; go_simp
              try with_reducible rfl
            go_simp
            refine wpAnyH_take (i := 7) (v := ?_) rfl (by kernel_rfl) (by kernel_rfl) (by kernel_rfl) (fun _ _ _ h => h) (Or.inl ⟨by rfl, ?_⟩) HX.out ?_
            rotate_left
            · intro w' hSw; have hc3 : w'.cell? ⟨X, 5, none⟩ = some (.int .i64 d2.num) := hSw.cell 5; have hc0 : w'.cell? ⟨X, 0, none⟩ = some (.slice A2 m5 cv) := hSw.cell 0; go_simp
              try with_reducible rfl
            go_simp
            refine wpAnyH_ready (rs := [5]) (by kernel_rfl) (by simp) ?_
            refine AllReadyH.cons rfl (fun K hK => ?_) AllReadyH.nil
            go_simp
            refine (wdNumber_w B S Lb m5 d2 _ HWa.out).mono ?_
            rintro e w' ⟨rfl, rfl⟩
            dsimp only
            refine hK.out _ _ HX.out (fun hHeld => ?_)
            clear hK K hHeld
            go_simp
            refine wpAnyH_take (i := 8) (v := ?_) rfl (by kernel_rfl) (by kernel_rfl) (by kernel_rfl) (fun _ _ _ h => h) (Or.inl ⟨by rfl, ?_⟩) HX.out ?_
            rotate_left
            · intro w' hSw; have hc3 : w'.cell? ⟨X, 5, none⟩ = some (.int .i64 d2.num) := hSw.cell 5; have hc0 : w'.cell? ⟨X, 0, none⟩ = some (.slice A2 m5 cv) := hSw.cell 0; go_simp
              try with_reducible rfl
            go_simp
            refine wpAnyH_take (i := 9) (v := ?_) rfl (by kernel_rfl) (by kernel_rfl) (by kernel_rfl) (fun _ _ _ h => h) (Or.inl ⟨by rfl, ?_⟩) HX.out ?_
            rotate_left
            · intro w' hSw; have hc3 : w'.cell? ⟨X, 5, none⟩ = some (.int .i64 d2.num) := hSw.cell 5; have hc0 : w'.cell? ⟨X, 0, none⟩ = some (.slice A2 m5 cv) := hSw.cell 0; go_simp
              try with_reducible rfl
            go_simp
            refine wpAnyH_take (i := 10) (v := ?_) rfl (by kernel_rfl) (by kernel_rfl) (by kernel_rfl) (fun _ _ _ h => h) (Or.inl ⟨by rfl, ?_⟩) HX.out ?_
            rotate_left
            · intro w' hSw; have hc3 : w'.cell? ⟨X, 5, none⟩ = some (.int .i64 d2.num) := hSw.cell 5; have hc0 : w'.cell? ⟨X, 0, none⟩ = some (.slice A2 m5 cv) := hSw.cell 0; go_simp
              try with_reducible rfl
            go_simp
            refine wpAnyH_take (i := 11) (v := ?_) rfl (by kernel_rfl) (by kernel_rfl) (by kernel_rfl) (fun _ _ _ h => h) (Or.inl ⟨by rfl, ?_⟩) HX.out ?_
            rotate_left
            · intro w' hSw; have hc3 : w'.cell? ⟨X, 5, none⟩ = some (.int .i64 d2.num) := hSw.cell 5; have hc0 : w'.cell? ⟨X, 0, none⟩ = some (.slice A2 m5 cv) := hSw.cell 0; go_simp
              try with_reducible rfl
            go_simp
            refine wpAnyH_take (i := 13) (v := ?_) rfl (by kernel_rfl) (by kernel_rfl) (by kernel_rfl) (fun _ _ _ h => h) (Or.inl ⟨by rfl, ?_⟩) HX.out ?_
            rotate_left
            · intro w' hSw; have hc3 : w'.cell? ⟨X, 5, none⟩ = some (.int .i64 d2.num) := hSw.cell 5; have hc0 : w'.cell? ⟨X, 0, none⟩ = some (.slice A2 m5 cv) := hSw.cell 0; go_simp
              try with_reducible rfl
            go_simp
            refine wpAnyH_take (i := 14) (v := ?_) rfl (by kernel_rfl) (by kernel_rfl) (by kernel_rfl) (fun _ _ _ h => h) (Or.inl ⟨by rfl, ?_⟩) HX.out ?_
            rotate_left
            · intro w' hSw; have hc3 : w'.cell? ⟨X, 5, none⟩ = some (.int .i64 d2.num) := hSw.cell 5; have hc0 : w'.cell? ⟨X, 0, none⟩ = some (.slice A2 m5 cv) := hSw.cell 0; go_simp
              try with_reducible rfl
            go_simp
            refine wpAnyH_take (i := 15) (v := ?_) rfl (by kernel_rfl) (by kernel_rfl) (by kernel_rfl) (fun _ _ _ h => h) (Or.inl ⟨by rfl, ?_⟩) HX.out ?_
            rotate_left
            · intro w' hSw; have hc3 : w'.cell? ⟨X, 5, none⟩ = some (.int .i64 d2.num) := hSw.cell 5; have hc0 : w'.cell? ⟨X, 0, none⟩ = some (.slice A2 m5 cv) := hSw.cell 0; go_simp
              try with_reducible rfl
            go_simp
            refine wpAnyH_ready (rs := [12]) (by kernel_rfl) (by simp) ?_
            refine AllReadyH.cons rfl (fun K hK => ?_) AllReadyH.nil
            go_simp
            refine (wdSlots_w B S Lb m5 d2 HOK5.out.1 _ HWa.out).mono ?_
            rintro e wd ⟨v4, rfl, ho4, hb4⟩
            obtain ⟨A4, c4, rfl, hmc4, _, hrd4⟩ := own_read ho4 HOK5.out.1.px
            dsimp only
            have HRD4 := Lib.hid (show ∀ k x, d2.s.l[k]? = some x → ∃ g, A4 = some ⟨g, 0, none⟩ ∧ CellsAt wd g (k * 10) (sloC x) from fun k x hk => let ⟨g, _, e, h⟩ := hrd4 k x hk; ⟨g, e, h⟩)
            have HWd := Lib.hid (HWa.out.below hb4)
            have HVd := Lib.hid (HVa.out.below hb4)
            have HBd := Lib.hid (bl_next HBa.out hb4)
            have HBOd := Lib.hid (Nat.le_trans HBOa.out hb4.size)
            have HXd := Lib.hid (HX.out.below hb4)
            clear ho4 hb4 hrd4 HX
            refine hK.out _ _ HXd.out (fun hHeld => ?_)
            clear hK K hHeld
            have HX := HXd
            go_simp
            refine wpAnyH_ready (rs := [16]) (by kernel_rfl) (by simp) ?_
            refine AllReadyH.cons rfl (fun K hK => ?_) AllReadyH.nil
            go_simp
            refine (same19_w B0 _ d2.s.l HOK5.out.1.2.2.1 (by rw [HLM5.out]; exact hm64) A4 m5 c4 HLM5.out _ HVd.out HRD4.out).mono ?_
            rintro e wf ⟨rfl, qq, rfl⟩
            dsimp only
            have HXe := Lib.hid (show Obj1 (wd.drewN qq) X (refWC (.slice A2 m5 cv) d2) 71 from HXd.out)
            refine hK.out _ _ HXe.out (fun hHeld => ?_)
            clear hK K hHeld HX
            have HX := HXe
            go_simp
            refine wpAnyH_take (i := 17) (v := ?_) rfl (by kernel_rfl) (by kernel_rfl) (by kernel_rfl) (fun _ _ _ h => h) (Or.inl ⟨by rfl, ?_⟩) HX.out ?_
            rotate_left
            · intro w' hSw; go_simp
              try with_reducible rfl
            go_simp
            refine wpAnyH_take (i := 18) (v := ?_) rfl (by kernel_rfl) (by kernel_rfl) (by kernel_rfl) (fun _ _ _ h => h) (Or.inl ⟨by rfl, ?_⟩) HX.out ?_
            rotate_left
            · intro w' hSw; go_simp
              try with_reducible rfl
            go_simp
            refine wpAnyH_done (by kernel_rfl) ?_ _
            go_wp2_with fail
            go_roundw
            case rel => exact ⟨k + 1, m5, .slice A2 m5 cv, d2, by omega, by go_num, HOK5.out, HWd.out, HXe.out, HVd.out, bl_drewN HBd.out qq, HBOd.out⟩
            case measure => simp [intOf]; omega
        · have hk1 : ¬ (k : Int) < (n : Int) := by omega
          go_wp2
          go_ret
          exact ⟨rfl, HBL.out⟩
    · have HBAD := Lib.hid (show ¬ (1 ≤ slots ∧ slots ≤ 64) ∨ ¬ (1 ≤ ns ∧ ns ≤ 4611686018427387903) ∨ ¬ (1 ≤ thr ∧ thr ≤ 4611686018427387903) by omega)
      by_cases q1 : slots < 1
      · have d1 : decide (slots < 1) = true := decide_eq_true q1
        clear hgood
        go_wp2_with fail
        refine (wdNewBad_w slots ns thr HBAD.out _).mono ?_
        rintro e w2 ⟨rfl, hb2⟩
        have HB2 := Lib.hid (bl_next HB1.out hb2)
        clear hb2
        go_wp2_with fail
        refine (wdAddNil_w _ _ _ _).mono ?_
        rintro e w3 ⟨rfl, hb3⟩
        have HB3 := Lib.hid (bl_next HB2.out hb3)
        clear hb3
        go_wp2_with fail
        refine (wdSlotsNil_w _).mono ?_
        rintro e w' ⟨rfl, rfl⟩
        go_wp2_with fail
        refine (wdNumberNil_w _).mono ?_
        rintro e w' ⟨rfl, rfl⟩
        go_wp2_with fail
        refine (wdTuneNil_w _ _).mono ?_
        rintro e w' ⟨rfl, rfl⟩
        go_wp2
        go_ret
        exact ⟨rfl, HB3.out⟩
      have d1 : decide (slots < 1) = false := decide_eq_false q1
      by_cases q2 : (64 : Int) < slots
      · have d2 : decide ((64 : Int) < slots) = true := decide_eq_true q2
        clear hgood
        go_wp2_with fail
        refine (wdNewBad_w slots ns thr HBAD.out _).mono ?_
        rintro e w2 ⟨rfl, hb2⟩
        have HB2 := Lib.hid (bl_next HB1.out hb2)
        clear hb2
        go_wp2_with fail
        refine (wdAddNil_w _ _ _ _).mono ?_
        rintro e w3 ⟨rfl, hb3⟩
        have HB3 := Lib.hid (bl_next HB2.out hb3)
        clear hb3
        go_wp2_with fail
        refine (wdSlotsNil_w _).mono ?_
        rintro e w' ⟨rfl, rfl⟩
        go_wp2_with fail
        refine (wdNumberNil_w _).mono ?_
        rintro e w' ⟨rfl, rfl⟩
        go_wp2_with fail
        refine (wdTuneNil_w _ _).mono ?_
        rintro e w' ⟨rfl, rfl⟩
        go_wp2
        go_ret
        exact ⟨rfl, HB3.out⟩
      have d2 : decide ((64 : Int) < slots) = false := decide_eq_false q2
      by_cases q3 : ns < 1
      · have d3 : decide (ns < 1) = true := decide_eq_true q3
        clear hgood
        go_wp2_with fail
        refine (wdNewBad_w slots ns thr HBAD.out _).mono ?_
        rintro e w2 ⟨rfl, hb2⟩
        have HB2 := Lib.hid (bl_next HB1.out hb2)
        clear hb2
        go_wp2_with fail
        refine (wdAddNil_w _ _ _ _).mono ?_
        rintro e w3 ⟨rfl, hb3⟩
        have HB3 := Lib.hid (bl_next HB2.out hb3)
        clear hb3
        go_wp2_with fail
        refine (wdSlotsNil_w _).mono ?_
        rintro e w' ⟨rfl, rfl⟩
        go_wp2_with fail
        refine (wdNumberNil_w _).mono ?_
        rintro e w' ⟨rfl, rfl⟩
        go_wp2_with fail
        refine (wdTuneNil_w _ _).mono ?_
        rintro e w' ⟨rfl, rfl⟩
        go_wp2
        go_ret
        exact ⟨rfl, HB3.out⟩
      have d3 : decide (ns < 1) = false := decide_eq_false q3
      by_cases q4 : (4611686018427387903 : Int) < ns
      · have d4 : decide ((4611686018427387903 : Int) < ns) = true := decide_eq_true q4
        clear hgood
        go_wp2_with fail
        refine (wdNewBad_w slots ns thr HBAD.out _).mono ?_
        rintro e w2 ⟨rfl, hb2⟩
        have HB2 := Lib.hid (bl_next HB1.out hb2)
        clear hb2
        go_wp2_with fail
        refine (wdAddNil_w _ _ _ _).mono ?_
        rintro e w3 ⟨rfl, hb3⟩
        have HB3 := Lib.hid (bl_next HB2.out hb3)
        clear hb3
        go_wp2_with fail
        refine (wdSlotsNil_w _).mono ?_
        rintro e w' ⟨rfl, rfl⟩
        go_wp2_with fail
        refine (wdNumberNil_w _).mono ?_
        rintro e w' ⟨rfl, rfl⟩
        go_wp2_with fail
        refine (wdTuneNil_w _ _).mono ?_
        rintro e w' ⟨rfl, rfl⟩
        go_wp2
        go_ret
        exact ⟨rfl, HB3.out⟩
      have d4 : decide ((4611686018427387903 : Int) < ns) = false := decide_eq_false q4
      by_cases q5 : thr < 1
      · have d5 : decide (thr < 1) = true := decide_eq_true q5
        clear hgood
        go_wp2_with fail
        refine (wdNewBad_w slots ns thr HBAD.out _).mono ?_
        rintro e w2 ⟨rfl, hb2⟩
        have HB2 := Lib.hid (bl_next HB1.out hb2)
        clear hb2
        go_wp2_with fail
        refine (wdAddNil_w _ _ _ _).mono ?_
        rintro e w3 ⟨rfl, hb3⟩
        have HB3 := Lib.hid (bl_next HB2.out hb3)
        clear hb3
        go_wp2_with fail
        refine (wdSlotsNil_w _).mono ?_
        rintro e w' ⟨rfl, rfl⟩
        go_wp2_with fail
        refine (wdNumberNil_w _).mono ?_
        rintro e w' ⟨rfl, rfl⟩
        go_wp2_with fail
        refine (wdTuneNil_w _ _).mono ?_
        rintro e w' ⟨rfl, rfl⟩
        go_wp2
        go_ret
        exact ⟨rfl, HB3.out⟩
      have d5 : decide (thr < 1) = false := decide_eq_false q5
      have q6 : (4611686018427387903 : Int) < thr := by omega
      clear hgood
      go_wp2_with fail
      refine (wdNewBad_w slots ns thr HBAD.out _).mono ?_
      rintro e w2 ⟨rfl, hb2⟩
      have HB2 := Lib.hid (bl_next HB1.out hb2)
      clear hb2
      go_wp2_with fail
      refine (wdAddNil_w _ _ _ _).mono ?_
      rintro e w3 ⟨rfl, hb3⟩
      have HB3 := Lib.hid (bl_next HB2.out hb3)
      clear hb3
      go_wp2_with fail
      refine (wdSlotsNil_w _).mono ?_
      rintro e w' ⟨rfl, rfl⟩
      go_wp2_with fail
      refine (wdNumberNil_w _).mono ?_
      rintro e w' ⟨rfl, rfl⟩
      go_wp2_with fail
      refine (wdTuneNil_w _ _).mono ?_
      rintro e w' ⟨rfl, rfl⟩
      go_wp2
      go_ret
      exact ⟨rfl, HB3.out⟩
theorem WindowPlays_w (slots ns thr : Int) (A : Option Addr) (n c : Nat) (rows : List (List Value)) (tuned : Int) (w : World) (h1 : (Lit.int .i64 slots).wf = true) (h2 : (Lit.int .i64 ns).wf = true) (h3 : (Lit.int .i64 thr).wf = true) (h : SlP swKs w A n c rows) (h4 : (Lit.int .i64 tuned).wf = true) :
    Calls Try.prog 11 #[.int .i64 slots, .int .i64 ns, .int .i64 thr, .slice A n c, .int .i64 tuned] w fun e w' => e = .returned (.bool true) ∧ Below w.heap.size w w' := by
  obtain ⟨L, g1, g2, g3, g4⟩ := h.seenW
  exact WindowPlays_x slots ns thr tuned A n c L g1 g2 g3 w g4
end Go.Proofs.Ytdmfmanmhlnleaa
