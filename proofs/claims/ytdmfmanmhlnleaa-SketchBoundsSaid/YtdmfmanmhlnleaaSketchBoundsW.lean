/- The walk of SketchBounds: it answers true. -/
import Derived.Test.YtdmfmanmhlnleaaSkH
import Derived.Deep.CutRange
import Derived.Deep.Cut
namespace Go.Proofs.Ytdmfmanmhlnleaa
open Go.RowKit
set_option linter.unusedVariables false
set_option linter.unusedSimpArgs false

set_option maxRecDepth 100000 in
set_option maxHeartbeats 8000000 in
theorem SketchBounds_x (bk : Int) (hbk : 0 ≤ bk ∧ bk ≤ 255) (p : Px) (hp : okPx p) (A : Option Addr) (n c : Nat) (L : List Sn) (hLn : L.length = n) (hn63 : n ≤ 9223372036854775807) (hok : ∀ s ∈ L, okSn s) (w0 : World) (hrd : SnRd w0 A L) :
    Calls Try.prog 6 #[.int .u8 bk, .slice A n c, .agg (pxC p).toArray] w0 fun e w' => e = .returned (.bool true) ∧ Below w0.heap.size w0 w' := by
  have HLN := Lib.hid hLn
  have HOK := Lib.hid hok
  obtain ⟨b0, rfl⟩ := Int.eq_ofNat_of_zero_le hbk.1
  obtain ⟨r0, hr0⟩ : ∃ r0, r0 = b0 % 64 := ⟨_, rfl⟩
  obtain ⟨R, hR⟩ : ∃ R, R = 1 + r0 := ⟨_, rfl⟩
  have hRb : 1 ≤ R ∧ R ≤ 64 := by omega
  have b1 : IntKind.i64.wrap (b0 : Int) = (b0 : Int) := IntWalk.i64_in _ (by omega)
  have b2 : (b0 : Int).tmod 64 = (r0 : Int) := by rw [Int.tmod_eq_emod_of_nonneg (by omega)]; omega
  have b2' : (b0 : Int) % 64 = (r0 : Int) := by omega
  have b3 : IntKind.i64.wrap (1 + (r0 : Int)) = (R : Int) := by rw [show 1 + (r0 : Int) = (R : Int) by omega]; exact IntWalk.i64_in _ (by omega)
  clear hr0 hR
  have HPA := Lib.hid (px_sizeA hp)
  have hbw := bl_alloc (Below.refl w0.heap.size w0) (.cells (pxC p).toArray 30)
  have hpb := Obj1.new w0 (pxC p).toArray 30
  have hrd' : SnRd (w0.alloc (.cells (pxC p).toArray 30)) A L := fun k s hk => let ⟨b, off, e, h⟩ := hrd k s hk; ⟨b, off, e, fun q v hq => bl_keeps hbw (h q v hq)⟩
  obtain ⟨w, hw⟩ : ∃ w, w = w0.alloc (.cells (pxC p).toArray 30) := ⟨_, rfl⟩
  rw [← hw] at hbw hpb hrd'
  have HBW := Lib.hid hbw
  have HPB := Lib.hid hpb
  have HRD := Lib.hid hrd'
  have HW := Lib.hid hw
  clear hbw hpb hrd' hw
  clear hLn hok hrd
  go_enter Try.func6, Try.ntmps6
  go_wp2_with fail
  rw [← HW.out]
  refine (awake18_w _).mono ?_
  rintro e w1 ⟨rfl, hb1⟩
  have HB1 := Lib.hid (bl_next (Below.refl _ _) hb1)
  clear hb1
  by_cases hlim : 120 < n
  · have hlim' : (120 : Int) < (n : Int) := by omega
    go_wp2_with fail
    refine (awake18_w _).mono ?_
    rintro e w2 ⟨rfl, hb2⟩
    have HB2 := Lib.hid (bl_next HB1.out hb2)
    clear hb2
    go_wp2
    go_ret
    exact ⟨rfl, bl_next HBW.out (HB2.out)⟩
  · have hlim' : ¬ (120 : Int) < (n : Int) := by omega
    go_wp2_with fail
    refine (skNew_w R (hRb) _).mono ?_
    rintro e w2 ⟨S, Lb, rfl, hwL0, hLS, hS2, hb2⟩
    have HSN := Lib.hid (show SkO w2 S Lb 0 (skRun (skNew R) (L.take 0)) from hS2)
    have HBN := Lib.hid (bl_next HB1.out hb2)
    have HON := Lib.hid (skNew_ok (n := R) (hRb))
    have hwL : w.heap.size ≤ Lb := Nat.le_trans HB1.out.size hwL0
    have hwS : w.heap.size ≤ S := by omega
    clear hS2 hb2
    go_wp2_with fail
    go_loopw [10, 42] (fun t i wr => ∃ k : Nat, k ≤ n ∧ i = .int .i64 k ∧ t = .int .i64 (sentN (L.take k)) ∧ (∀ s ∈ L.take k, okPx s.p ∧ 0 ≤ s.n ∧ s.n ≤ 4294967296) ∧ Below w2.heap.size w2 wr) (fun _ i _ => n - (intOf i).toNat)
    case atStart => exact ⟨0, Nat.zero_le _, rfl, rfl, fun s hs => by simp at hs, Below.refl _ _⟩
    case round =>
      obtain ⟨k, hk, rfl, rfl, hLk, hbel⟩ := hrel
      have HBQ := Lib.hid hbel
      have HBL := Lib.hid (bl_next HBN.out hbel)
      have HLK := Lib.hid hLk
      clear hbel hLk
      by_cases hlt : k < n
      · have hk0 : (0 : Int) ≤ (k : Int) := Int.natCast_nonneg k
        have hk1 : (k : Int) < (n : Int) := by omega
        obtain ⟨x, hx⟩ : ∃ x, L[k]? = some x := ⟨_, List.getElem?_eq_getElem (by have := HLN.out; omega)⟩
        obtain ⟨b, off, rfl, hc⟩ := HRD.out k x hx
        have hxs : okSn x := HOK.out x (List.mem_of_getElem? hx)
        have hxp : okPx x.p := hxs.1
        have HCW := Lib.hid (show CellsAt w b (off + k * 9) (pxC x.p) ∧ w.cell? ⟨b, off + k * 9 + 8, none⟩ = some (.int .i64 x.n) from ⟨fun q v hq => hc q v (sn_px hq), by have := hc 8 _ (sn_n hxp); rwa [add_flat] at this⟩)
        have HXL := Lib.hid hx
        have HPS := Lib.hid (px_size hxp)
        clear hx hc
        have rN : wr.cell? ⟨b, off + k * 9 + 8, none⟩ = some (.int .i64 x.n) := bl_keeps HBL.out HCW.out.2
        by_cases hneg : x.n < 0
        · have dn : decide (x.n < 0) = true := by simp [hneg]
          go_wp2
          go_ret
          exact ⟨rfl, bl_next HBW.out (HBL.out)⟩
        by_cases hbig : 4294967296 < x.n
        · have dn : decide (x.n < 0) = false := by simp; omega
          go_wp2
          go_ret
          exact ⟨rfl, bl_next HBW.out (HBL.out)⟩
        have dn : decide (x.n < 0) = false := by simp; omega
        have dn1 : ¬ x.n < 0 := hneg
        have dn2 : ¬ 4294967296 < x.n := hbig
        have HSS := Lib.hid (sentN_step HXL.out)
        have hsr := sentN_range (fun s hs => (HLK.out s hs).2)
        obtain ⟨t0, ht0⟩ : ∃ t0, sentN (L.take k) = t0 := ⟨_, rfl⟩
        rw [ht0] at hsr ⊢
        have hl120 : ((L.take k).length : Int) ≤ 120 := by simp; omega
        have a1 : IntKind.i64.wrap (t0 + x.n) = t0 + x.n := IntWalk.i64_in _ (by omega)
        have HT0 := Lib.hid ht0
        have HLK1 := Lib.hid (show ∀ s ∈ L.take (k + 1), okPx s.p ∧ 0 ≤ s.n ∧ s.n ≤ 4294967296 by
          intro s hs
          rw [take_snoc HXL.out] at hs
          rcases List.mem_append.1 hs with h | h
          · exact HLK.out s h
          · simp at h
            rw [h]
            exact ⟨hxp, by omega, by omega⟩)
        clear ht0 hsr hl120
        go_wp2_with fail
        go_roundw
        case rel => exact ⟨k + 1, by omega, by go_num, by rw [HSS.out, HT0.out], HLK1.out, HBQ.out⟩
        case measure => simp [intOf]; omega
      · have hk1 : ¬ (k : Int) < (n : Int) := by omega
        have hkn : L.take k = L := List.take_of_length_le (by have := HLN.out; omega)
        have HLA := Lib.hid (show ∀ s ∈ L, okPx s.p ∧ 0 ≤ s.n ∧ s.n ≤ 4294967296 by rw [← hkn]; exact HLK.out)
        rw [hkn]
        obtain ⟨tot, htot⟩ : ∃ tot, sentN L = tot := ⟨_, rfl⟩
        rw [htot]
        have HTOT := Lib.hid htot
        have HSN1 := Lib.hid (show SkO wr S Lb 0 (skRun (skNew R) (L.take 0)) from HSN.out.below HBQ.out)
        have HBN1 := HBL
        clear hkn htot HLK HBQ
        clear hk1 hk
        go_wp2_with fail
        go_loopw [62] (fun i wr => ∃ k m : Nat, k ≤ n ∧ i = .int .i64 k ∧ SkO wr S Lb m (skRun (skNew R) (L.take k)) ∧ Below w.heap.size w wr) (fun i _ => n - (intOf i).toNat)
        case atStart => exact ⟨0, 0, Nat.zero_le _, rfl, HSN1.out, HBN1.out⟩
        case round =>
          obtain ⟨k, m, hk, rfl, hsk, hbel⟩ := hrel
          have HSK := Lib.hid hsk
          have HBL := Lib.hid hbel
          clear hsk hbel
          by_cases hlt : k < n
          · have hk0 : (0 : Int) ≤ (k : Int) := Int.natCast_nonneg k
            have hk1 : (k : Int) < (n : Int) := by omega
            obtain ⟨x, hx⟩ : ∃ x, L[k]? = some x := ⟨_, List.getElem?_eq_getElem (by have := HLN.out; omega)⟩
            obtain ⟨b, off, rfl, hc⟩ := HRD.out k x hx
            have hxs : okSn x := HOK.out x (List.mem_of_getElem? hx)
            have hxp : okPx x.p := hxs.1
            have HCW := Lib.hid (show CellsAt w b (off + k * 9) (pxC x.p) ∧ w.cell? ⟨b, off + k * 9 + 8, none⟩ = some (.int .i64 x.n) from ⟨fun q v hq => hc q v (sn_px hq), by have := hc 8 _ (sn_n hxp); rwa [add_flat] at this⟩)
            have HXL := Lib.hid hx
            have HPS := Lib.hid (px_size hxp)
            clear hx hc
            have HSTEP := Lib.hid (skRun_step (skNew R) HXL.out)
            have hokk : okSk (skRun (skNew R) (L.take k)) := skRun_ok HON.out (fun s hs => (HOK.out s (List.mem_of_mem_take hs)).1)
            go_wp2_with fail
            refine wp_region_held_drew (S := (fun w' => CellsAt w' b (off + k * 9) (pxC x.p) ∧ w'.cell? ⟨b, off + k * 9 + 8, none⟩ = some (.int .i64 x.n))) (by kernel_rfl) (⟨HCW.out.1.below (bl_drewN HBL.out 1), bl_keeps HBL.out HCW.out.2⟩) (fun hHeld => ?_)
            generalize hW0 : World.drew _ = W0 at hHeld ⊢
            have HS0 := Lib.hid (show SkO W0 S Lb m (skRun (skNew R) (L.take k)) by rw [← hW0]; exact HSK.out)
            have HB0 := Lib.hid (show Below w.heap.size w W0 by rw [← hW0]; exact bl_drewN HBL.out 1)
            have HX := Lib.hid hHeld
            clear hW0 hHeld
            refine wpAnyH_take (i := 0) (v := ?_) rfl (by kernel_rfl) (by kernel_rfl) (by kernel_rfl) (fun _ _ _ h => h) (Or.inl ⟨by rfl, ?_⟩) HX.out ?_
            rotate_left
            · intro w hSw; have hSw2 := hSw.2; go_simp
              try with_reducible rfl
            go_simp
            refine wpAnyH_take (i := 1) (v := ?_) rfl (by kernel_rfl) (by kernel_rfl) (by kernel_rfl) (fun _ _ _ h => h) (Or.inl ⟨by rfl, ?_⟩) HX.out ?_
            rotate_left
            · intro w hSw; have hSw2 := hSw.2; go_simp
              try with_reducible rfl
            go_simp
            refine wpAnyH_take (i := 2) (v := ?_) rfl (by kernel_rfl) (by kernel_rfl) (by kernel_rfl) (fun _ _ _ h => h) (Or.inl ⟨by rfl, ?_⟩) HX.out ?_
            rotate_left
            · intro w hSw; have hSw2 := hSw.2; go_simp
              try with_reducible rfl
            go_simp
            refine wpAnyH_take (i := 3) (v := ?_) rfl (by kernel_rfl) (by kernel_rfl) (by kernel_rfl) (fun _ _ _ h => h) (Or.inl ⟨by rfl, ?_⟩) HX.out ?_
            rotate_left
            · intro w hSw; have hSw2 := hSw.2; go_simp
              try with_reducible rfl
            go_simp
            refine wpAnyH_take (i := 4) (v := ?_) rfl (by kernel_rfl) (by kernel_rfl) (by kernel_rfl) (fun _ _ _ h => h) (Or.inl ⟨by rfl, ?_⟩) HX.out ?_
            rotate_left
            · intro w hSw; have hSw2 := hSw.2; go_simp
              try with_reducible rfl
            go_simp
            refine wpAnyH_take (i := 5) (v := .agg (pxC x.p).toArray) rfl (by kernel_rfl) (by kernel_rfl) (by kernel_rfl) (fun _ _ _ h => h) (Or.inl ⟨by rfl, ?_⟩) HX.out ?_
            · intro w' hSw
              have hld := run_loadVar_cells (P := Try.prog) w' ⟨b, off + k * 9, none⟩ 30 (pxC x.p) _ hSw.1 Try.underlying30 rfl HPS.out
              simp [execOp, Act.eval, Instr.loadAt, Instr.sureAddr, Sem.run_bind, hld, Result.andThen]
            go_simp
            refine wpAnyH_take (i := 6) (v := ?_) rfl (by kernel_rfl) (by kernel_rfl) (by kernel_rfl) (fun _ _ _ h => h) (Or.inl ⟨by rfl, ?_⟩) HX.out ?_
            rotate_left
            · intro w hSw; have hSw2 := hSw.2; go_simp
              try with_reducible rfl
            go_simp
            refine wpAnyH_take (i := 7) (v := ?_) rfl (by kernel_rfl) (by kernel_rfl) (by kernel_rfl) (fun _ _ _ h => h) (Or.inl ⟨by rfl, ?_⟩) HX.out ?_
            rotate_left
            · intro w hSw; have hSw2 := hSw.2; go_simp
              try with_reducible rfl
            go_simp
            refine wpAnyH_take (i := 8) (v := ?_) rfl (by kernel_rfl) (by kernel_rfl) (by kernel_rfl) (fun _ _ _ h => h) (Or.inl ⟨by rfl, ?_⟩) HX.out ?_
            rotate_left
            · intro w hSw; have hSw2 := hSw.2; go_simp
              try with_reducible rfl
            go_simp
            refine wpAnyH_take (i := 9) (v := ?_) rfl (by kernel_rfl) (by kernel_rfl) (by kernel_rfl) (fun _ _ _ h => h) (Or.inl ⟨by rfl, ?_⟩) HX.out ?_
            rotate_left
            · intro w hSw; have hSw2 := hSw.2; go_simp
              try with_reducible rfl
            go_simp
            refine wpAnyH_take (i := 10) (v := ?_) rfl (by kernel_rfl) (by kernel_rfl) (by kernel_rfl) (fun _ _ _ h => h) (Or.inl ⟨by rfl, ?_⟩) HX.out ?_
            rotate_left
            · intro w hSw; have hSw2 := hSw.2; go_simp
              try with_reducible rfl
            go_simp
            refine wpAnyH_ready (rs := [11]) (by kernel_rfl) (by simp) ?_
            refine AllReadyH.cons rfl (fun K hK => ?_) AllReadyH.nil
            go_simp
            refine (skAdd_w S Lb m (skRun (skNew R) (L.take k)) hokk x.p hxp x.n _ HS0.out).mono ?_
            rintro e w5 ⟨y5, m5, hy5, rfl, hS5, hu5⟩
            dsimp only
            have HS5 := Lib.hid hS5
            have HB5 := Lib.hid (bl_upd2 HB0.out hu5 hwS hwL)
            clear hS5 hu5 hy5
            refine hK.out _ _ ⟨HCW.out.1.below HB5.out, bl_keeps HB5.out HCW.out.2⟩ (fun hHeld => ?_)
            clear hK K hHeld
            refine wpAnyH_done (by kernel_rfl) ?_ _
            go_wp2_with fail
            go_roundw
            case rel => exact ⟨k + 1, m5, by omega, by go_num, by rw [HSTEP.out]; exact HS5.out, HB5.out⟩
            case measure => simp [intOf]; omega
          · have hk1 : ¬ (k : Int) < (n : Int) := by omega
            have hkn : k = n := by omega
            obtain ⟨sF, hsF⟩ : ∃ sF, skRun (skNew R) L = sF := ⟨_, rfl⟩
            have HSF := Lib.hid (show SkO wr S Lb m sF by
              have := HSK.out
              rw [hkn, List.take_of_length_le (by have := HLN.out; omega), hsF] at this
              exact this)
            have HOF := Lib.hid (show okSk sF by rw [← hsF]; exact skRun_ok HON.out (fun s hs => (HOK.out s hs).1))
            have HSFE := Lib.hid hsF
            clear hkn hsF HSK
            go_wp2_with fail
            have hlmm : sF.l.length = m := HSF.out.1
            have HLM := Lib.hid hlmm
            have hm64 : m ≤ 64 := by have := HOF.out.2.1; have := HOF.out.1.2; omega
            have hroomF : sF.room = R := by rw [← HSFE.out, skRun_room]; rfl
            have hmR : m ≤ R := by have := HOF.out.2.1; omega
            have HPXS := Lib.hid (show ∀ q ∈ pxs sF.l, okPx q from fun q hq => by
              obtain ⟨z, hz, rfl⟩ := List.mem_map.1 hq
              exact HOF.out.px z hz)
            have HPXA := Lib.hid (show ∀ q ∈ p :: pxs sF.l, okPx q from fun q hq => by
              rcases List.mem_cons.1 hq with h | h
              · rw [h]; exact hp
              · exact HPXS.out q h)
            have hL120 : L.length ≤ 120 := by have := HLN.out; omega
            have HBD := Lib.hid (show Bd R sF L by rw [← HSFE.out]; exact bounds_law R hRb L HLA.out hL120)
            have HSU := Lib.hid (show sumC sF.l = tot ∧ sF.total = tot by rw [← HSFE.out, ← HTOT.out]; exact sums_law R hRb L HLA.out hL120)
            have HTR := Lib.hid (show 0 ≤ tot ∧ tot ≤ 515396075520 by
              have h := sentN_range (fun s hs => (HLA.out s hs).2)
              rw [HTOT.out] at h
              have : (L.length : Int) ≤ 120 := by omega
              omega)
            clear hlmm hL120
            go_upto_region 19 with (fail)
            go_cut [14] from 78 to 83 (fun s14 wx => ∃ g c, s14 = .slice (some ⟨g, 0, none⟩) (1 + m) c ∧ RoomO wx g (1 + m) c 8 (allC (p :: pxs sF.l)) 30 ∧ SkO wx S Lb m sF ∧ Below w.heap.size w wx)
            case first =>
              refine wp_region_held_drew (S := (fun w' => Obj1 w' w0.heap.size (pxC p).toArray 30)) (by kernel_rfl) ((HPB.out.below (bl_drewN HBL.out 1))) (fun hHeld => ?_)
              generalize hW0 : World.drew _ = W0 at hHeld ⊢
              have HS0 := Lib.hid (show SkO W0 S Lb m sF by rw [← hW0]; exact HSF.out)
              have HB0 := Lib.hid (show Below w.heap.size w W0 by rw [← hW0]; exact bl_drewN HBL.out 1)
              have HX := Lib.hid hHeld
              clear hW0
              refine wpAnyH_take (i := 0) (v := .agg (pxC p).toArray) rfl (by kernel_rfl) (by kernel_rfl) (by kernel_rfl) (fun _ _ _ h => h) (Or.inl ⟨by rfl, ?_⟩) HX.out ?_
              · intro w' hSw
                have hld := run_loadVar_row (P := Try.prog) w' w0.heap.size 30 30 (pxC p).toArray (0, 0) _ hSw Try.underlying30 rfl HPA.out
                simp [execOp, Act.eval, Instr.loadAt, Instr.sureAddr, Sem.run_bind, hld, Result.andThen]
              go_simp
              refine wpAnyH_take (i := 2) (v := ?_) rfl (by kernel_rfl) (by kernel_rfl) (by kernel_rfl) (fun _ _ _ h => h) (Or.inl ⟨by rfl, ?_⟩) (by assumption) ?_
              rotate_left
              · intro w hSw; (try dsimp only at hSw); go_simp
                try with_reducible rfl
              go_simp
              refine wpAnyH_ready (rs := [1, 3]) (by kernel_rfl) (by simp) ?_
              refine AllReadyH.cons rfl (fun K hK => ?_) ?_
              · refine gwanted rfl ?_
                refine wp_px1 hp (.tmp 78) rfl rfl ?_
                have HSA := Lib.hid (HS0.out.below (bl_alloc (Below.refl _ _) (.cells (pxC p).toArray 30)))
                have HBA := Lib.hid (bl_next HB0.out (bl_alloc (Below.refl _ _) (.cells (pxC p).toArray 30)))
                have HLA := Lib.hid (World.ownsRow_lit (base := w.heap.size) (e := 30) (size := 8) W0 (pxC p).toArray 1 HB0.out.size (by simp [maxLen]) (by simp [pxC_length hp]))
                refine hK.out _ _ (hHeld.alloc _) (fun hHeld => ?_)
                clear hK K
                refine wpAnyH_ready (rs := [3]) (by kernel_rfl) (by simp) ?_
                refine AllReadyH.cons rfl (fun K hK => ?_) AllReadyH.nil
                go_simp

                refine (skSlots_w S Lb m sF HOF.out _ HSA.out).mono ?_
                rintro e w6 ⟨v6, rfl, ho6, hb6⟩
                obtain ⟨A6, c6, rfl, hmc6, _, _⟩ := own_read ho6 HOF.out.px
                dsimp only
                have HO6 := Lib.hid (own_cells ho6 HOF.out.px)
                have HS6 := Lib.hid (HSA.out.below hb6)
                have HB6 := Lib.hid (bl_next HBA.out hb6)
                have HBE6 := Lib.hid hb6
                clear ho6 hb6
                refine hK.out _ _ (HPB.out.below HB6.out) (fun hHeld => ?_)
                clear hK K
                refine wpAnyH_ready (rs := [4]) (by kernel_rfl) (by simp) ?_
                refine AllReadyH.cons rfl (fun K hK => ?_) AllReadyH.nil
                go_simp

                refine (prefixes_w A6 m c6 sF.l _ HOF.out.px HLM.out hm64 (fun k x hk => let ⟨g, _, e, h⟩ := HO6.out k x hk; ⟨g, e, h⟩)).mono ?_
                rintro e w7 ⟨v7, rfl, ho7, hb7⟩
                dsimp only
                obtain ⟨A7, c7, rfl, hrd7⟩ := own_Rd ho7
                have HRD7A := Lib.hid hrd7
                have HS7A := Lib.hid (HS6.out.below hb7)
                have HB7A := Lib.hid (bl_next HB6.out hb7)
                have HLITA := Lib.hid (own_below (own_below HLA.out HBE6.out) hb7)
                clear ho7 hb7 hrd7
                refine hK.out _ _ (HPB.out.below HB7A.out) (fun hHeld => ?_)
                clear hK K
                have HLIT := HLITA
                have HRD7 := HRD7A
                have HS7 := HS7A
                have HB7 := HB7A
                have HNS := Lib.hid (show some S ≠ Value.ownBlock (.slice (some ⟨W0.heap.size, 0, none⟩) 1 1) ∧ some Lb ≠ Value.ownBlock (.slice (some ⟨W0.heap.size, 0, none⟩) 1 1) by
                  have h1 := HS0.out.2.1.lt
                  have h2 := HS0.out.2.2.lt
                  simp [Value.ownBlock]
                  omega)
                refine wpAnyH_ready (rs := [5]) (by kernel_rfl) (by simp) ?_
                refine AllReadyH.cons rfl (fun K hK => ?_) AllReadyH.nil
                refine app_step w.heap.size rfl (.tmp 79) (.tmp 82) 42 30 (.agg #[.bool false, .int .u8 0, .int .u8 0, .int .u8 0, .int .u8 0, .int .u8 0, .int .u8 0, .int .u8 0]) 8 8 rfl Try.underlying42 (by kernel_rfl) (by simp [Value.cells]) (by omega) (by omega) _ 1 (pxC p) A7 m c7 (allC (pxs sF.l)) rfl rfl HLIT.out (by rw [allC_length HPXS.out]; simp [pxs, HLM.out]) HRD7.out (allC_one _) (by omega) HB7.out.size ?_
                intro v9 w9 ho9 hg9
                have HO9 := Lib.hid ho9
                have HS9 := Lib.hid (HS7.out.grown hg9 HNS.out.1 HNS.out.2)
                have HB9 := Lib.hid (bl_grown HB7.out HLIT.out hg9 (Nat.le_refl _))
                clear ho9 hg9
                refine hK.out _ _ (HPB.out.below HB9.out) (fun hHeld => ?_)
                clear hK K
                refine wpAnyH_take (i := 6) (v := ?_) rfl (by kernel_rfl) (by kernel_rfl) (by kernel_rfl) (fun _ _ _ h => h) (Or.inl ⟨by rfl, ?_⟩) (by assumption) ?_
                rotate_left
                · intro w hSw; (try dsimp only at hSw); go_simp
                  try with_reducible rfl
                go_simp
                refine wpAnyH_done (by kernel_rfl) ?_ _
                go_wp2_with fail
                go_meet
                case rel =>
                  have ho9 := HO9.out
                  rw [← allC_cons] at ho9
                  rcases own_room ho9 with ⟨h0, _, _⟩ | ⟨g9, c9, rfl, hb9, _, hr9⟩
                  · omega
                  · exact ⟨g9, c9, rfl, hr9, HS9.out, HB9.out⟩
              · refine AllReadyH.cons rfl (fun K hK => ?_) AllReadyH.nil
                go_simp

                refine (skSlots_w S Lb m sF HOF.out _ HS0.out).mono ?_
                rintro e w6 ⟨v6, rfl, ho6, hb6⟩
                obtain ⟨A6, c6, rfl, hmc6, _, _⟩ := own_read ho6 HOF.out.px
                dsimp only
                have HO6 := Lib.hid (own_cells ho6 HOF.out.px)
                have HS6 := Lib.hid (HS0.out.below hb6)
                have HB6 := Lib.hid (bl_next HB0.out hb6)
                have HBE6 := Lib.hid hb6
                clear ho6 hb6
                refine hK.out _ _ (HPB.out.below HB6.out) (fun hHeld => ?_)
                clear hK K
                refine wpAnyH_ready (rs := [1, 4]) (by kernel_rfl) (by simp) ?_
                refine AllReadyH.cons rfl (fun K hK => ?_) ?_
                · refine gwanted rfl ?_
                  refine wp_px1 hp (.tmp 78) rfl rfl ?_
                  have HSA := Lib.hid (HS6.out.below (bl_alloc (Below.refl _ _) (.cells (pxC p).toArray 30)))
                  have HBA := Lib.hid (bl_next HB6.out (bl_alloc (Below.refl _ _) (.cells (pxC p).toArray 30)))
                  have HLA := Lib.hid (World.ownsRow_lit (base := w.heap.size) (e := 30) (size := 8) w6 (pxC p).toArray 1 HB6.out.size (by simp [maxLen]) (by simp [pxC_length hp]))
                  have HO6A := Lib.hid (show ∀ k x, sF.l[k]? = some x → ∃ g, A6 = some ⟨g, 0, none⟩ ∧ CellsAt (w6.alloc (.cells (pxC p).toArray 30)) g (k * 10) (sloC x) from fun k x hk => let ⟨g, _, e, h⟩ := HO6.out k x hk; ⟨g, e, h.below (bl_alloc (Below.refl _ _) _)⟩)
                  refine hK.out _ _ (hHeld.alloc _) (fun hHeld => ?_)
                  clear hK K
                  refine wpAnyH_ready (rs := [4]) (by kernel_rfl) (by simp) ?_
                  refine AllReadyH.cons rfl (fun K hK => ?_) AllReadyH.nil
                  go_simp

                  refine (prefixes_w A6 m c6 sF.l _ HOF.out.px HLM.out hm64 HO6A.out).mono ?_
                  rintro e w7 ⟨v7, rfl, ho7, hb7⟩
                  dsimp only
                  obtain ⟨A7, c7, rfl, hrd7⟩ := own_Rd ho7
                  have HRD7A := Lib.hid hrd7
                  have HS7A := Lib.hid (HSA.out.below hb7)
                  have HB7A := Lib.hid (bl_next HBA.out hb7)
                  have HLITA := Lib.hid (own_below HLA.out hb7)
                  clear ho7 hb7 hrd7
                  refine hK.out _ _ (HPB.out.below HB7A.out) (fun hHeld => ?_)
                  clear hK K
                  have HLIT := HLITA
                  have HRD7 := HRD7A
                  have HS7 := HS7A
                  have HB7 := HB7A
                  have HNS := Lib.hid (show some S ≠ Value.ownBlock (.slice (some ⟨w6.heap.size, 0, none⟩) 1 1) ∧ some Lb ≠ Value.ownBlock (.slice (some ⟨w6.heap.size, 0, none⟩) 1 1) by
                    have h1 := HS6.out.2.1.lt
                    have h2 := HS6.out.2.2.lt
                    simp [Value.ownBlock]
                    omega)
                  refine wpAnyH_ready (rs := [5]) (by kernel_rfl) (by simp) ?_
                  refine AllReadyH.cons rfl (fun K hK => ?_) AllReadyH.nil
                  refine app_step w.heap.size rfl (.tmp 79) (.tmp 82) 42 30 (.agg #[.bool false, .int .u8 0, .int .u8 0, .int .u8 0, .int .u8 0, .int .u8 0, .int .u8 0, .int .u8 0]) 8 8 rfl Try.underlying42 (by kernel_rfl) (by simp [Value.cells]) (by omega) (by omega) _ 1 (pxC p) A7 m c7 (allC (pxs sF.l)) rfl rfl HLIT.out (by rw [allC_length HPXS.out]; simp [pxs, HLM.out]) HRD7.out (allC_one _) (by omega) HB7.out.size ?_
                  intro v9 w9 ho9 hg9
                  have HO9 := Lib.hid ho9
                  have HS9 := Lib.hid (HS7.out.grown hg9 HNS.out.1 HNS.out.2)
                  have HB9 := Lib.hid (bl_grown HB7.out HLIT.out hg9 (Nat.le_refl _))
                  clear ho9 hg9
                  refine hK.out _ _ (HPB.out.below HB9.out) (fun hHeld => ?_)
                  clear hK K
                  refine wpAnyH_take (i := 6) (v := ?_) rfl (by kernel_rfl) (by kernel_rfl) (by kernel_rfl) (fun _ _ _ h => h) (Or.inl ⟨by rfl, ?_⟩) (by assumption) ?_
                  rotate_left
                  · intro w hSw; (try dsimp only at hSw); go_simp
                    try with_reducible rfl
                  go_simp
                  refine wpAnyH_done (by kernel_rfl) ?_ _
                  go_wp2_with fail
                  go_meet
                  case rel =>
                    have ho9 := HO9.out
                    rw [← allC_cons] at ho9
                    rcases own_room ho9 with ⟨h0, _, _⟩ | ⟨g9, c9, rfl, hb9, _, hr9⟩
                    · omega
                    · exact ⟨g9, c9, rfl, hr9, HS9.out, HB9.out⟩
                · refine AllReadyH.cons rfl (fun K hK => ?_) AllReadyH.nil
                  go_simp

                  refine (prefixes_w A6 m c6 sF.l _ HOF.out.px HLM.out hm64 (fun k x hk => let ⟨g, _, e, h⟩ := HO6.out k x hk; ⟨g, e, h⟩)).mono ?_
                  rintro e w7 ⟨v7, rfl, ho7, hb7⟩
                  dsimp only
                  obtain ⟨A7, c7, rfl, hrd7⟩ := own_Rd ho7
                  have HRD7A := Lib.hid hrd7
                  have HS7A := Lib.hid (HS6.out.below hb7)
                  have HB7A := Lib.hid (bl_next HB6.out hb7)

                  clear ho7 hb7 hrd7
                  refine hK.out _ _ (HPB.out.below HB7A.out) (fun hHeld => ?_)
                  clear hK K
                  refine wpAnyH_ready (rs := [1]) (by kernel_rfl) (by simp) ?_
                  refine AllReadyH.cons rfl (fun K hK => ?_) AllReadyH.nil

                  refine gwanted rfl ?_
                  refine wp_px1 hp (.tmp 78) rfl rfl ?_
                  have HS7 := Lib.hid (HS7A.out.below (bl_alloc (Below.refl _ _) (.cells (pxC p).toArray 30)))
                  have HB7 := Lib.hid (bl_next HB7A.out (bl_alloc (Below.refl _ _) (.cells (pxC p).toArray 30)))
                  have HRD7 := Lib.hid (HRD7A.out.below (bl_alloc (Below.refl _ _) (.cells (pxC p).toArray 30)))
                  have HLIT := Lib.hid (World.ownsRow_lit (base := w.heap.size) (e := 30) (size := 8) w7 (pxC p).toArray 1 HB7A.out.size (by simp [maxLen]) (by simp [pxC_length hp]))
                  refine hK.out _ _ (hHeld.alloc _) (fun hHeld => ?_)
                  clear hK K
                  have HNS := Lib.hid (show some S ≠ Value.ownBlock (.slice (some ⟨w7.heap.size, 0, none⟩) 1 1) ∧ some Lb ≠ Value.ownBlock (.slice (some ⟨w7.heap.size, 0, none⟩) 1 1) by
                    have h1 := HS7A.out.2.1.lt
                    have h2 := HS7A.out.2.2.lt
                    simp [Value.ownBlock]
                    omega)
                  refine wpAnyH_ready (rs := [5]) (by kernel_rfl) (by simp) ?_
                  refine AllReadyH.cons rfl (fun K hK => ?_) AllReadyH.nil
                  refine app_step w.heap.size rfl (.tmp 79) (.tmp 82) 42 30 (.agg #[.bool false, .int .u8 0, .int .u8 0, .int .u8 0, .int .u8 0, .int .u8 0, .int .u8 0, .int .u8 0]) 8 8 rfl Try.underlying42 (by kernel_rfl) (by simp [Value.cells]) (by omega) (by omega) _ 1 (pxC p) A7 m c7 (allC (pxs sF.l)) rfl rfl HLIT.out (by rw [allC_length HPXS.out]; simp [pxs, HLM.out]) HRD7.out (allC_one _) (by omega) HB7.out.size ?_
                  intro v9 w9 ho9 hg9
                  have HO9 := Lib.hid ho9
                  have HS9 := Lib.hid (HS7.out.grown hg9 HNS.out.1 HNS.out.2)
                  have HB9 := Lib.hid (bl_grown HB7.out HLIT.out hg9 (Nat.le_refl _))
                  clear ho9 hg9
                  refine hK.out _ _ (HPB.out.below HB9.out) (fun hHeld => ?_)
                  clear hK K
                  refine wpAnyH_take (i := 6) (v := ?_) rfl (by kernel_rfl) (by kernel_rfl) (by kernel_rfl) (fun _ _ _ h => h) (Or.inl ⟨by rfl, ?_⟩) (by assumption) ?_
                  rotate_left
                  · intro w hSw; (try dsimp only at hSw); go_simp
                    try with_reducible rfl
                  go_simp
                  refine wpAnyH_done (by kernel_rfl) ?_ _
                  go_wp2_with fail
                  go_meet
                  case rel =>
                    have ho9 := HO9.out
                    rw [← allC_cons] at ho9
                    rcases own_room ho9 with ⟨h0, _, _⟩ | ⟨g9, c9, rfl, hb9, _, hr9⟩
                    · omega
                    · exact ⟨g9, c9, rfl, hr9, HS9.out, HB9.out⟩
            case rest =>
              obtain ⟨g, c4, rfl, hroom4, hsk4, hbel4⟩ := hcut
              have HRM4 := Lib.hid hroom4
              have HSK4 := Lib.hid hsk4
              have HBL4 := Lib.hid hbel4
              clear hroom4 hsk4 hbel4
              go_wp2_with fail
              refine (skSlots_w S Lb m sF HOF.out _ HSK4.out).mono ?_
              rintro e w6 ⟨v6, rfl, ho6, hb6⟩
              obtain ⟨A6, c6, rfl, hmc6, _, _⟩ := own_read ho6 HOF.out.px
              have HRM6 := Lib.hid (HRM4.out.below hb6)
              have HSK6 := Lib.hid (HSK4.out.below hb6)
              have HBL6 := Lib.hid (bl_next HBL4.out hb6)
              clear ho6 hb6
              obtain ⟨lea, hlea⟩ : ∃ lea, lea = if m = R then minC sF.l else 0 := ⟨_, rfl⟩
              have HLE := Lib.hid hlea
              clear hlea
              go_upto_if 88 with (fail)
              go_cut [15] from 84 to 100 (fun s15 wx => s15 = .int .i64 lea ∧ RoomO wx g (1 + m) c4 8 (allC (p :: pxs sF.l)) 30 ∧ SkO wx S Lb m sF ∧ Below w.heap.size w wx)
              case first =>
                by_cases hfull : m = R
                · subst hfull
                  have hleav : lea = minC sF.l := by rw [HLE.out, if_pos rfl]
                  have HLV := Lib.hid hleav
                  clear hleav
                  go_wp2_with fail
                  refine (skSlots_w S Lb m sF HOF.out _ HSK6.out).mono ?_
                  rintro e w3 ⟨v3, rfl, ho3, hb3⟩
                  obtain ⟨A3, c3, rfl, hmc3, _, hrd3⟩ := own_read ho3 HOF.out.px
                  have HR3 := Lib.hid hrd3
                  have HRM3 := Lib.hid (HRM6.out.below hb3)
                  have HSK3 := Lib.hid (HSK6.out.below hb3)
                  have HBL3 := Lib.hid (bl_next HBL6.out hb3)
                  clear ho3 hb3 hrd3
                  go_wp2_with fail
                  go_loopw [15, 92] (fun mn i wv => ∃ j : Nat, j ≤ m ∧ i = .int .i64 j ∧ mn = .int .i64 (minC (sF.l.take j)) ∧ Below w3.heap.size w3 wv) (fun _ i _ => m - (intOf i).toNat)
                  case atStart => exact ⟨0, Nat.zero_le _, rfl, rfl, Below.refl _ _⟩
                  case round =>
                    obtain ⟨j, hj, rfl, rfl, hbel⟩ := hrel
                    have HBJ := Lib.hid hbel
                    clear hbel
                    by_cases hlt : j < m
                    · have hj0 : (0 : Int) ≤ (j : Int) := Int.natCast_nonneg j
                      have hj1 : (j : Int) < (m : Int) := by omega
                      obtain ⟨y, hy⟩ : ∃ y, sF.l[j]? = some y := ⟨_, List.getElem?_eq_getElem (by have := HLM.out; omega)⟩
                      obtain ⟨g3, hg, rfl, hc⟩ := HR3.out j y hy
                      have hyo : okSlo y := HOF.out.2.2.1 y (List.mem_of_getElem? hy)
                      have HCY := Lib.hid (show ∀ q u, (sloC y)[q]? = some u → wr.cell? ((⟨g3, j * 10, none⟩ : Addr).add q) = some u from fun q u hq => bl_keeps HBJ.out (hc q u hq))
                      have HY := Lib.hid hy
                      have HYS := Lib.hid (slo_size hyo.1)
                      have HYA := Lib.hid (slo_sizeA hyo.1)
                      have HYP := Lib.hid (px_size hyo.1)
                      have hlen := sloC_length hyo.1
                      clear hy hc
                      obtain ⟨mn, hmn⟩ : ∃ mn, minC (sF.l.take j) = mn := ⟨_, rfl⟩
                      have HMN := Lib.hid hmn
                      have HMS := Lib.hid (minC_step HY.out)
                      rw [hmn]
                      clear hmn
                      by_cases hle : mn ≤ y.c
                      · go_wp2_with (first
                          | (refine load_cells rfl 32 (.tmp 94) rfl ⟨g3, j * 10, none⟩ (sloC y) _ rfl HCY.out Try.underlying32 rfl HYS.out ?_)
                          | (refine store_obj rfl 32 (.tmp 17) (.tmp 95) rfl wr.heap.size 32 _ (sloC y).toArray rfl rfl (Obj1.new _ _ _) (by simp [hlen]) HYA.out (all_oneCell_toArray (sloC_one y)) ?_; intro w4 hob hup; have r8 : w4.cell? ⟨wr.heap.size, 8, none⟩ = some (.int .i64 y.c) := (by rw [hob.cell 8, List.getElem?_toArray]; exact (sloC_tail hyo.1).1); have HB4 := Lib.hid (bl_next HBJ.out (bl_upd (bl_alloc (Below.refl _ _) _) hup (Nat.le_refl _))); clear hob hup))
                        have hmv : minC (sF.l.take (j + 1)) = mn := by rw [HMS.out, HMN.out, if_pos hle]
                        go_roundw
                        case rel => exact ⟨j + 1, by omega, by go_num, by rw [hmv], HB4.out⟩
                        case measure => simp [intOf]; omega
                      · go_wp2_with (first
                          | (refine load_cells rfl 32 (.tmp 94) rfl ⟨g3, j * 10, none⟩ (sloC y) _ rfl HCY.out Try.underlying32 rfl HYS.out ?_)
                          | (refine store_obj rfl 32 (.tmp 17) (.tmp 95) rfl wr.heap.size 32 _ (sloC y).toArray rfl rfl (Obj1.new _ _ _) (by simp [hlen]) HYA.out (all_oneCell_toArray (sloC_one y)) ?_; intro w4 hob hup; have r8 : w4.cell? ⟨wr.heap.size, 8, none⟩ = some (.int .i64 y.c) := (by rw [hob.cell 8, List.getElem?_toArray]; exact (sloC_tail hyo.1).1); have HB4 := Lib.hid (bl_next HBJ.out (bl_upd (bl_alloc (Below.refl _ _) _) hup (Nat.le_refl _))); clear hob hup))
                        have hmv : minC (sF.l.take (j + 1)) = y.c := by rw [HMS.out, HMN.out, if_neg hle]
                        go_roundw
                        case rel => exact ⟨j + 1, by omega, by go_num, by rw [hmv, if_pos (by omega)], HB4.out⟩
                        case measure => simp [intOf]; omega
                    · have hj1 : ¬ (j : Int) < (m : Int) := by omega
                      have hjm : minC (sF.l.take j) = lea := by rw [HLV.out, List.take_of_length_le (by have := HLM.out; omega)]
                      rw [hjm]
                      clear hjm
                      go_wp2_with fail
                      go_meet
                      case rel => exact ⟨rfl, HRM3.out.below HBJ.out, HSK3.out.below HBJ.out, bl_next HBL3.out HBJ.out⟩
                · have df : decide (m = R) = false := by simp [hfull]
                  have df2 : ¬ ((m : Int) = (R : Int)) := by omega
                  have df3 : decide ((m : Int) = (R : Int)) = false := decide_eq_false df2
                  have hleav : lea = 0 := by rw [HLE.out, if_neg hfull]
                  have HLV := Lib.hid hleav
                  clear hleav
                  go_wp2_with fail
                  go_meet
                  case rel => exact ⟨by rw [HLV.out], HRM6.out, HSK6.out, HBL6.out⟩
              case rest =>
                obtain ⟨rfl, hroom5, hsk5, hbel5⟩ := hcut
                have HRM5 := Lib.hid hroom5
                have HSK5 := Lib.hid hsk5
                have HBL5 := Lib.hid hbel5
                clear hroom5 hsk5 hbel5 HRM4 HRM6 HSK4 HSK6 HBL4 HBL6
                have hLea : ∀ q, q ∉ pxs sF.l → truthN L q ≤ lea := by
                  intro q hq
                  have h1 := HBD.out.2.1 q hq
                  rw [HLE.out]
                  have h2 := truthN_range (fun s hs => (HLA.out s hs).2.1) q
                  rw [HTOT.out] at h2
                  have h3 := HTR.out
                  split
                  · have hmc := minC_ge (l := sF.l) (m := truthN L q) (by omega) h1.1
                    exact hmc
                  · rw [h1.2 (by have := HLM.out; omega)]
                    exact Int.le_refl _
                have HLEA := Lib.hid hLea
                clear hLea
                obtain ⟨wq, hwq⟩ : ∃ wq, wq = wc := ⟨_, rfl⟩
                rw [← hwq] at HRM5 HSK5 HBL5 ⊢
                clear hwq
                go_wp2_with fail
                go_loopw [103] (fun i wv => ∃ j : Nat, j ≤ 1 + m ∧ i = .int .i64 j ∧ Below wq.heap.size wq wv) (fun i _ => 1 + m - (intOf i).toNat)
                case atStart => exact ⟨0, Nat.zero_le _, rfl, Below.refl _ _⟩
                case round =>
                  obtain ⟨j, hj, rfl, hbel⟩ := hrel
                  have HBJ := Lib.hid hbel
                  clear hbel
                  by_cases hlt : j < 1 + m
                  · have hj0 : (0 : Int) ≤ (j : Int) := Int.natCast_nonneg j
                    have hj1 : (j : Int) < 1 + (m : Int) := by omega
                    have hj2 : (j : Int) < ((1 + m : Nat) : Int) := by omega
                    obtain ⟨q, hq⟩ : ∃ q, (p :: pxs sF.l)[j]? = some q := ⟨_, List.getElem?_eq_getElem (by have := HLM.out; simp [pxs]; omega)⟩
                    have hqp : okPx q := HPXA.out q (List.mem_of_getElem? hq)
                    have HQC := Lib.hid (show CellsAt wr g (j * 8) (pxC q) from px_cells (HRM5.out.below HBJ.out) HPXA.out hq)
                    have HQS := Lib.hid (px_size hqp)
                    have HSKJ := Lib.hid (HSK5.out.below HBJ.out)
                    have HBLJ := Lib.hid (bl_next HBL5.out HBJ.out)
                    clear hq
                    obtain ⟨wj, hwj⟩ : ∃ wj, wj = wr := ⟨_, rfl⟩
                    rw [← hwj] at HQC HSKJ HBLJ HBJ ⊢
                    clear hwj
                    go_wp2_with fail
                    go_loopw [19, 108] (fun v i wv => ∃ k : Nat, k ≤ n ∧ i = .int .i64 k ∧ v = .int .i64 (truthN (L.take k) q) ∧ Below wj.heap.size wj wv) (fun _ i _ => n - (intOf i).toNat)
                    case atStart => exact ⟨0, Nat.zero_le _, rfl, rfl, Below.refl _ _⟩
                    case round =>
                      obtain ⟨k, hk, rfl, rfl, hbel⟩ := hrel
                      have HBK := Lib.hid hbel
                      have HBA := Lib.hid (bl_next HBLJ.out hbel)
                      have HQK := Lib.hid (HQC.out.below (bl_drewN hbel 1))
                      clear hbel
                      by_cases hlt : k < n
                      · have hk0 : (0 : Int) ≤ (k : Int) := Int.natCast_nonneg k
                        have hk1 : (k : Int) < (n : Int) := by omega
                        obtain ⟨x, hx⟩ : ∃ x, L[k]? = some x := ⟨_, List.getElem?_eq_getElem (by have := HLN.out; omega)⟩
                        obtain ⟨b, off, rfl, hc⟩ := HRD.out k x hx
                        have hxs : okSn x := HOK.out x (List.mem_of_getElem? hx)
                        have hxp : okPx x.p := hxs.1
                        have HCW := Lib.hid (show CellsAt w b (off + k * 9) (pxC x.p) ∧ w.cell? ⟨b, off + k * 9 + 8, none⟩ = some (.int .i64 x.n) from ⟨fun q v hq => hc q v (sn_px hq), by have := hc 8 _ (sn_n hxp); rwa [add_flat] at this⟩)
                        have HXL := Lib.hid hx
                        have HPS := Lib.hid (px_size hxp)
                        clear hx hc
                        have HTS := Lib.hid (truthN_step HXL.out q)
                        have htr := truthN_range (L := L.take k) (fun s hs => (HLA.out s (List.mem_of_mem_take hs)).2.1) q
                        have hsr := sentN_range (L := L.take k) (fun s hs => (HLA.out s (List.mem_of_mem_take hs)).2)
                        have hl120 : ((L.take k).length : Int) ≤ 120 := by simp; omega
                        have hxn := (HLA.out x (List.mem_of_getElem? HXL.out)).2
                        obtain ⟨tv, htv⟩ : ∃ tv, truthN (L.take k) q = tv := ⟨_, rfl⟩
                        rw [htv] at HTS htr ⊢
                        have a1 : IntKind.i64.wrap (tv + x.n) = tv + x.n := IntWalk.i64_in _ (by omega)
                        clear htr hsr hl120 htv
                        go_wp2_with fail
                        refine wp_region_held_drew (S := (fun w' => CellsAt w' b (off + k * 9) (pxC x.p) ∧ w'.cell? ⟨b, off + k * 9 + 8, none⟩ = some (.int .i64 x.n) ∧ CellsAt w' g (j * 8) (pxC q))) (by kernel_rfl) (⟨HCW.out.1.below (bl_drewN HBA.out 1), bl_keeps HBA.out HCW.out.2, HQK.out⟩) (fun hHeld => ?_)
                        generalize hW0 : World.drew _ = W0 at hHeld ⊢
                        have HB0 := Lib.hid (show Below wj.heap.size wj W0 by rw [← hW0]; exact bl_drewN HBK.out 1)
                        have HX := Lib.hid hHeld
                        have r8 : W0.cell? ⟨b, off + k * 9 + 8, none⟩ = some (.int .i64 x.n) := hHeld.2.1
                        clear hW0 hHeld
                        refine wpAnyH_take (i := 0) (v := ?_) rfl (by kernel_rfl) (by kernel_rfl) (by kernel_rfl) (fun _ _ _ h => h) (Or.inl ⟨by rfl, ?_⟩) HX.out ?_
                        rotate_left
                        · intro w hSw; have hSw1 := hSw.1; have hSw2 := hSw.2.1; go_simp
                          try with_reducible rfl
                        go_simp
                        refine wpAnyH_take (i := 1) (v := ?_) rfl (by kernel_rfl) (by kernel_rfl) (by kernel_rfl) (fun _ _ _ h => h) (Or.inl ⟨by rfl, ?_⟩) HX.out ?_
                        rotate_left
                        · intro w hSw; have hSw1 := hSw.1; have hSw2 := hSw.2.1; go_simp
                          try with_reducible rfl
                        go_simp
                        refine wpAnyH_take (i := 2) (v := ?_) rfl (by kernel_rfl) (by kernel_rfl) (by kernel_rfl) (fun _ _ _ h => h) (Or.inl ⟨by rfl, ?_⟩) HX.out ?_
                        rotate_left
                        · intro w hSw; have hSw1 := hSw.1; have hSw2 := hSw.2.1; go_simp
                          try with_reducible rfl
                        go_simp
                        refine wpAnyH_take (i := 3) (v := ?_) rfl (by kernel_rfl) (by kernel_rfl) (by kernel_rfl) (fun _ _ _ h => h) (Or.inl ⟨by rfl, ?_⟩) HX.out ?_
                        rotate_left
                        · intro w hSw; have hSw1 := hSw.1; have hSw2 := hSw.2.1; go_simp
                          try with_reducible rfl
                        go_simp
                        refine wpAnyH_take (i := 4) (v := .agg (pxC x.p).toArray) rfl (by kernel_rfl) (by kernel_rfl) (by kernel_rfl) (fun _ _ _ h => h) (Or.inl ⟨by rfl, ?_⟩) HX.out ?_
                        · intro w' hSw
                          have hld := run_loadVar_cells (P := Try.prog) w' ⟨b, off + k * 9, none⟩ 30 (pxC x.p) _ hSw.1 Try.underlying30 rfl HPS.out
                          simp [execOp, Act.eval, Instr.loadAt, Instr.sureAddr, Sem.run_bind, hld, Result.andThen]
                        go_simp
                        refine wpAnyH_take (i := 5) (v := ?_) rfl (by kernel_rfl) (by kernel_rfl) (by kernel_rfl) (fun _ _ _ h => h) (Or.inl ⟨by rfl, ?_⟩) HX.out ?_
                        rotate_left
                        · intro w hSw; have hSw1 := hSw.1; have hSw2 := hSw.2.1; go_simp
                          try with_reducible rfl
                        go_simp
                        refine wpAnyH_take (i := 6) (v := ?_) rfl (by kernel_rfl) (by kernel_rfl) (by kernel_rfl) (fun _ _ _ h => h) (Or.inl ⟨by rfl, ?_⟩) HX.out ?_
                        rotate_left
                        · intro w hSw; have hSw1 := hSw.1; have hSw2 := hSw.2.1; go_simp
                          try with_reducible rfl
                        go_simp
                        refine wpAnyH_take (i := 7) (v := ?_) rfl (by kernel_rfl) (by kernel_rfl) (by kernel_rfl) (fun _ _ _ h => h) (Or.inl ⟨by rfl, ?_⟩) HX.out ?_
                        rotate_left
                        · intro w hSw; have hSw1 := hSw.1; have hSw2 := hSw.2.1; go_simp
                          try with_reducible rfl
                        go_simp
                        refine wpAnyH_take (i := 8) (v := .agg (pxC q).toArray) rfl (by kernel_rfl) (by kernel_rfl) (by kernel_rfl) (fun _ _ _ h => h) (Or.inl ⟨by rfl, ?_⟩) HX.out ?_
                        · intro w' hSw
                          have hld := run_loadVar_cells (P := Try.prog) w' ⟨g, j * 8, none⟩ 30 (pxC q) _ hSw.2.2 Try.underlying30 rfl HQS.out
                          simp [execOp, Act.eval, Instr.loadAt, Instr.sureAddr, Sem.run_bind, hld, Result.andThen]
                        go_simp
                        refine wpAnyH_take (i := 9) (v := .bool (decide (x.p = q))) rfl (by kernel_rfl) (by kernel_rfl) (by kernel_rfl) (fun _ _ _ h => h) (Or.inl ⟨by rfl, ?_⟩) HX.out ?_
                        · intro w' hSw
                          exact exec_eql 30 30 (.tmp 115) (.tmp 119) rfl _ _ rfl rfl _ (by kernel_rfl) (eq_px w' hxp hqp)
                        go_simp
                        refine wpAnyH_done (by kernel_rfl) ?_ _
                        by_cases he : x.p = q
                        · have hd : decide (x.p = q) = true := by simp [he]
                          rw [if_pos he] at HTS
                          rw [hd]
                          clear hd he
                          go_wp2_with fail
                          go_roundw
                          case rel => exact ⟨k + 1, by omega, by go_num, by rw [HTS.out], HB0.out⟩
                          case measure => simp [intOf]; omega
                        · have hd : decide (x.p = q) = false := by simp [he]
                          rw [if_neg he] at HTS
                          rw [hd]
                          clear hd he
                          go_wp2_with fail
                          go_roundw
                          case rel => exact ⟨k + 1, by omega, by go_num, by rw [HTS.out], HB0.out⟩
                          case measure => simp [intOf]; omega
                      · have hk1 : ¬ (k : Int) < (n : Int) := by omega
                        have htk : truthN (L.take k) q = truthN L q := by rw [List.take_of_length_le (by have := HLN.out; omega)]
                        rw [htk]
                        have htr := truthN_range (L := L) (fun s hs => (HLA.out s hs).2.1) q
                        rw [HTOT.out] at htr
                        have htt := HTR.out
                        have hlea1 : q ∉ pxs sF.l → truthN L q ≤ lea := HLEA.out q
                        have HBDQ := Lib.hid (show ∀ y ∈ sF.l, y.p = q → truthN L q ≤ y.c ∧ y.c - y.e ≤ truthN L q ∧ y.e * (R : Int) ≤ tot from fun y hy e => by
                          have := HBD.out.1 y hy
                          rw [e, HTOT.out] at this
                          exact this)
                        obtain ⟨tv, htv⟩ : ∃ tv, truthN L q = tv := ⟨_, rfl⟩
                        rw [htv] at htr hlea1 HBDQ ⊢
                        have HQK2 := Lib.hid (HQC.out.below HBK.out)
                        have HSKK := Lib.hid (HSKJ.out.below HBK.out)
                        have HBKQ := Lib.hid (bl_next HBJ.out HBK.out)
                        clear htk htv
                        go_wp2_with (refine load_cells rfl 30 (.tmp 133) rfl ⟨g, j * 8, none⟩ (pxC q) _ rfl HQK2.out Try.underlying30 rfl HQS.out ?_)
                        by_cases hmem : q ∈ pxs sF.l
                        · obtain ⟨y, hy, hyq⟩ := fnd_at (fnd_mem.2 hmem)
                          have hyo : okSlo y := HOF.out.2.2.1 y (List.mem_of_getElem? hy)
                          obtain ⟨e1, e2, e3⟩ := HBDQ.out y (List.mem_of_getElem? hy) hyq
                          refine (getYes_w S Lb m sF HOF.out q hqp y _ HSKK.out hy).mono ?_
                          rintro e w8 ⟨rfl, hb8⟩
                          have HB8 := Lib.hid (bl_next HBKQ.out hb8)
                          clear hb8 hy
                          have e1' : ¬ y.c < tv := by omega
                          have e1d : decide (y.c < tv) = false := decide_eq_false e1'
                          have e2' : ¬ tv < y.c - y.e := by omega
                          have e2d : decide (tv < y.c - y.e) = false := decide_eq_false e2'
                          have e3' : ¬ tot < y.e * (R : Int) := by omega
                          have e3d : decide (tot < y.e * (R : Int)) = false := decide_eq_false e3'
                          have a5 : IntKind.i64.wrap (y.c - y.e) = y.c - y.e := IntWalk.i64_in _ (by have := hyo.2; omega)
                          have a6 : IntKind.i64.wrap (y.e * (R : Int)) = y.e * (R : Int) := IntWalk.i64_in _ (by
                            have h0 : 0 ≤ y.e * (R : Int) := Int.mul_nonneg hyo.2.2.1 (by omega)
                            omega)
                          have hlen := sloC_length hyo.1
                          have HYA := Lib.hid (slo_sizeA hyo.1)
                          go_wp2_with (refine store_obj rfl 32 (.tmp 21) (.tmp 136) rfl w8.heap.size 32 _ (sloC y).toArray rfl rfl (Obj1.new _ _ _) (by simp [hlen]) HYA.out (all_oneCell_toArray (sloC_one y)) ?_; intro w4 hob hup; have r8 : w4.cell? ⟨w8.heap.size, 8, none⟩ = some (.int .i64 y.c) := (by rw [hob.cell 8, List.getElem?_toArray]; exact (sloC_tail hyo.1).1); have r9 : w4.cell? ⟨w8.heap.size, 9, none⟩ = some (.int .i64 y.e) := (by rw [hob.cell 9, List.getElem?_toArray]; exact (sloC_tail hyo.1).2); have HB4 := Lib.hid (bl_next HB8.out (bl_upd (bl_alloc (Below.refl _ _) _) hup (Nat.le_refl _))); clear hob hup)
                          go_roundw
                          case rel => exact ⟨j + 1, by omega, by go_num, HB4.out⟩
                          case measure => simp [intOf]; omega
                        · have hle := hlea1 hmem
                          have e4 : ¬ lea < tv := by omega
                          have e4d : decide (lea < tv) = false := decide_eq_false e4
                          refine (getNo_w S Lb m sF HOF.out q hqp _ HSKK.out (fun h => hmem (fnd_mem.1 h))).mono ?_
                          rintro e w8 ⟨rfl, hb8⟩
                          have HB8 := Lib.hid (bl_next HBKQ.out hb8)
                          clear hb8
                          go_wp2_with (refine store_obj rfl 32 (.tmp 21) (.tmp 136) rfl w8.heap.size 32 _ #[.bool false, .int .u8 0, .int .u8 0, .int .u8 0, .int .u8 0, .int .u8 0, .int .u8 0, .int .u8 0, .int .i64 0, .int .i64 0] rfl rfl (Obj1.new _ _ _) rfl rfl (all_oneCell_toArray (sloC_one ⟨⟨false, [0, 0, 0, 0, 0, 0, 0]⟩, 0, 0⟩)) ?_; intro w4 hob hup; have HB4 := Lib.hid (bl_next HB8.out (bl_upd (bl_alloc (Below.refl _ _) _) hup (Nat.le_refl _))); clear hob hup)
                          go_roundw
                          case rel => exact ⟨j + 1, by omega, by go_num, HB4.out⟩
                          case measure => simp [intOf]; omega
                  · have hj1 : ¬ (j : Int) < 1 + (m : Int) := by omega
                    have hj2 : ¬ (j : Int) < ((1 + m : Nat) : Int) := by omega
                    have HSKF := Lib.hid (HSK5.out.below HBJ.out)
                    have hcnt : cnt tot = tot := cnt_id _ HTR.out.1 (by have := HTR.out.2; omega)
                    have HCN := Lib.hid hcnt
                    clear hcnt
                    go_wp2_with fail
                    refine (rCount_w tot _).mono ?_
                    rintro e w' ⟨rfl, rfl⟩
                    rw [HCN.out]
                    go_wp2_with fail
                    refine (skTotal_w S Lb m sF _ HSKF.out).mono ?_
                    rintro e w' ⟨rfl, rfl⟩
                    rw [HSU.out.2]
                    go_wp2
                    go_ret
                    exact ⟨rfl, bl_next HBW.out (bl_next HBL5.out HBJ.out)⟩
theorem SketchBounds_w (bk : Int) (A : Option Addr) (n c : Nat) (rows : List (List Value)) (cs : Array Value) (w : World) (hb : (Lit.int .u8 bk).wf = true) (h : SlP snKs w A n c rows) (hcs : okCells pxKs cs.toList) :
    Calls Try.prog 6 #[.int .u8 bk, .slice A n c, .agg cs] w fun e w' => e = .returned (.bool true) ∧ Below w.heap.size w w' := by
  obtain ⟨L, h1, h2, h3, h4⟩ := h.seen
  obtain ⟨p, hp, rfl⟩ := pxA_of hcs
  exact SketchBounds_x bk (u8_range hb) p hp A n c L h1 h2 h3 w h4
end Go.Proofs.Ytdmfmanmhlnleaa
