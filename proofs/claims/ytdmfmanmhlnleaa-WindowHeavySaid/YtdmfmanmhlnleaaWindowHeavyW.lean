/- The walk of WindowHeavy: it answers true. -/
import Derived.Test.YtdmfmanmhlnleaaWindowBeginsW
namespace Go.Proofs.Ytdmfmanmhlnleaa
open Go.RowKit
set_option linter.unusedVariables false
set_option linter.unusedSimpArgs false

def snOf (x : Sw) : Sn := ⟨x.p, x.n⟩
/-- One window, behind the first k. -/
def hvW (R : Nat) (thr : Int) (L : List Sw) (k : Nat) : Wd := ⟨skRun (skNew R) ((L.map snOf).take k), 1099511627776, thr, 0⟩
theorem hvW_turn (R : Nat) (thr : Int) (L : List Sw) (k : Nat) : wdTurn (hvW R thr L k) 5 = hvW R thr L k := by
  unfold wdTurn
  rw [at_in (by omega) (by omega)]
  rfl
theorem hvW_step (R : Nat) (thr : Int) {L : List Sw} {k : Nat} {x : Sw} (h : L[k]? = some x) : wdAdd (hvW R thr L k) 5 x.p x.n = hvW R thr L (k + 1) := by
  unfold wdAdd
  rw [hvW_turn]
  unfold hvW
  have hs : (L.map snOf)[k]? = some (snOf x) := by rw [List.getElem?_map, h]; rfl
  rw [skRun_step _ hs]
  rfl

set_option maxRecDepth 100000 in
set_option maxHeartbeats 8000000 in
theorem WindowHeavy_x (sl th : Int) (hsl : 0 ≤ sl ∧ sl ≤ 255) (hth : 0 ≤ th ∧ th ≤ 4294967295) (A : Option Addr) (n c : Nat) (L : List Sw) (hLn : L.length = n) (hn63 : n ≤ 9223372036854775807) (hok : ∀ s ∈ L, okSw s) (w : World) (hrd : SwRd w A L) :
    Calls Try.prog 8 #[.int .u8 sl, .int .u32 th, .slice A n c] w fun e w' => e = .returned (.bool true) ∧ Below w.heap.size w w' := by
  have HLN := Lib.hid hLn
  have HOK := Lib.hid hok
  have HRD := Lib.hid hrd
  obtain ⟨b0, rfl⟩ := Int.eq_ofNat_of_zero_le hsl.1
  obtain ⟨r0, hr0⟩ : ∃ r0, r0 = b0 % 64 := ⟨_, rfl⟩
  obtain ⟨R, hR⟩ : ∃ R, R = 1 + r0 := ⟨_, rfl⟩
  have hRb : 1 ≤ R ∧ R ≤ 64 := by omega
  have b1 : IntKind.i64.wrap (b0 : Int) = (b0 : Int) := IntWalk.i64_in _ (by omega)
  have b2 : (b0 : Int).tmod 64 = (r0 : Int) := by rw [Int.tmod_eq_emod_of_nonneg (by omega)]; omega
  have b2' : (b0 : Int) % 64 = (r0 : Int) := by omega
  have b3 : IntKind.i64.wrap (1 + (r0 : Int)) = (R : Int) := by rw [show 1 + (r0 : Int) = (R : Int) by omega]; exact IntWalk.i64_in _ (by omega)
  have n1 : IntKind.i64.wrap th = th := IntWalk.i64_in _ (by omega)
  obtain ⟨q1, hq1⟩ : ∃ q1, th % 1048576 = q1 := ⟨_, rfl⟩
  have n2 : th.tmod 1048576 = q1 := by rw [Int.tmod_eq_emod_of_nonneg hth.1]; exact hq1
  obtain ⟨thr, ht⟩ : ∃ thr, 1 + q1 = thr := ⟨_, rfl⟩
  have n3 : IntKind.i64.wrap (1 + q1) = thr := by rw [ht]; exact IntWalk.i64_in _ (by omega)
  have htb : 1 ≤ thr ∧ thr ≤ 1048576 := by omega
  clear hLn hok hrd hr0 hR hq1 ht
  go_enter Try.func8, Try.ntmps8
  go_wp2_with fail
  refine (awake19_w _).mono ?_
  rintro e w1 ⟨rfl, hb1⟩
  have HB1 := Lib.hid hb1
  clear hb1
  by_cases hlim : 100 < n
  · have hlim' : (100 : Int) < (n : Int) := by omega
    go_wp2_with fail
    refine (awake19_w _).mono ?_
    rintro e w2 ⟨rfl, hb2⟩
    have HB2 := Lib.hid (bl_next HB1.out hb2)
    clear hb2
    go_wp2
    go_ret
    exact ⟨rfl, HB2.out⟩
  · have hlim' : ¬ (100 : Int) < (n : Int) := by omega
    go_wp2_with fail
    refine (wdNew_w R hRb 1099511627776 thr (by omega) (by omega) _).mono ?_
    rintro e w2 ⟨B, S, Lb, rfl, hwL0, hLS, hSB, hW2, hb2⟩
    have HWN := Lib.hid (show WdO w2 B S Lb 0 (hvW R thr L 0) from hW2)
    have HBN := Lib.hid (bl_next HB1.out hb2)
    have hwL : w.heap.size ≤ Lb := Nat.le_trans HB1.out.size hwL0
    have hwS : w.heap.size ≤ S := by omega
    have hwB : w.heap.size ≤ B := by omega
    clear hW2 hb2
    obtain ⟨LS, hLS'⟩ : ∃ LS, L.map snOf = LS := ⟨_, rfl⟩
    have HLS := Lib.hid hLS'
    clear hLS'
    go_wp2_with fail
    go_loopw [11, 40] (fun t i wr => ∃ k m : Nat, k ≤ n ∧ i = .int .i64 k ∧ t = .int .i64 (sentN (LS.take k)) ∧ (∀ s ∈ LS.take k, okPx s.p ∧ 0 ≤ s.n ∧ s.n ≤ 1048576) ∧ WdO wr B S Lb m (hvW R thr L k) ∧ Below w.heap.size w wr) (fun _ i _ => n - (intOf i).toNat)
    case atStart => exact ⟨0, 0, Nat.zero_le _, rfl, rfl, fun s hs => by simp at hs, HWN.out, HBN.out⟩
    case round =>
      obtain ⟨k, m, hk, rfl, rfl, hLk, hwd, hbel⟩ := hrel
      have HWD := Lib.hid hwd
      have HBL := Lib.hid hbel
      have HLK := Lib.hid hLk
      clear hwd hbel hLk
      by_cases hlt : k < n
      · have hk0 : (0 : Int) ≤ (k : Int) := Int.natCast_nonneg k
        have hk1 : (k : Int) < (n : Int) := by omega
        obtain ⟨x, hx⟩ : ∃ x, L[k]? = some x := ⟨_, List.getElem?_eq_getElem (by have := HLN.out; omega)⟩
        obtain ⟨b, off, rfl, hcn, hcp, hcm⟩ := HRD.out k x hx
        have hxs : okSw x := HOK.out x (List.mem_of_getElem? hx)
        have hxp : okPx x.p := hxs.1
        have HCW := Lib.hid (And.intro hcp (And.intro hcm hcn))
        have HXL := Lib.hid hx
        have HPS := Lib.hid (px_size hxp)
        clear hx hcn hcp hcm
        have rN : wr.cell? ⟨b, off + k * 10 + 9, none⟩ = some (.int .i64 x.n) := bl_keeps HBL.out HCW.out.2.1
        by_cases hneg : x.n < 0
        · have dn : decide (x.n < 0) = true := by simp [hneg]
          go_wp2
          go_ret
          exact ⟨rfl, HBL.out⟩
        by_cases hbig : 1048576 < x.n
        · have dn : decide (x.n < 0) = false := by simp; omega
          go_wp2
          go_ret
          exact ⟨rfl, HBL.out⟩
        have dn : decide (x.n < 0) = false := by simp; omega
        have dn1 : ¬ x.n < 0 := hneg
        have dn2 : ¬ 1048576 < x.n := hbig
        have hsx : LS[k]? = some (snOf x) := by rw [← HLS.out, List.getElem?_map, HXL.out]; rfl
        have HSX := Lib.hid hsx
        have HSS := Lib.hid (sentN_step hsx)
        have HLK1 := Lib.hid (show ∀ s ∈ LS.take (k + 1), okPx s.p ∧ 0 ≤ s.n ∧ s.n ≤ 1048576 by
          intro s hs
          rw [take_snoc hsx] at hs
          rcases List.mem_append.1 hs with h | h
          · exact HLK.out s h
          · simp at h
            rw [h]
            exact ⟨hxp, by show 0 ≤ x.n; omega, by show x.n ≤ 1048576; omega⟩)
        have hl100 : (LS.take (k + 1)).length ≤ 100 := by simp; omega
        have HBD := Lib.hid (bounds_law R hRb (LS.take (k + 1)) (fun s hs => ⟨(HLK1.out s hs).1, (HLK1.out s hs).2.1, by have := (HLK1.out s hs).2.2; omega⟩) (by omega))
        have hsr := sentN_range (fun s hs => (HLK1.out s hs).2)
        have HSTEP := Lib.hid (hvW_step R thr HXL.out)
        have hokk : okWd (hvW R thr L k) := ⟨skRun_ok (skNew_ok hRb) (fun s hs => by rw [HLS.out] at hs; exact (HLK.out s hs).1), by show (1 : Int) ≤ 1099511627776 ∧ (1099511627776 : Int) ≤ 4611686018427387903; omega, by show 1 ≤ thr ∧ thr ≤ 4611686018427387903; omega, by show (0 : Int) ≤ 0 ∧ (0 : Int) ≤ 4611686018427387903; omega⟩
        have HOKS := Lib.hid hokk.1
        obtain ⟨t0, ht0⟩ : ∃ t0, sentN (LS.take k) = t0 := ⟨_, rfl⟩
        obtain ⟨t1, ht1⟩ : ∃ t1, sentN (LS.take (k + 1)) = t1 := ⟨_, rfl⟩
        rw [ht0, ht1] at HSS
        rw [ht1] at hsr
        have htt : t0 + x.n = t1 := HSS.out.symm
        have htr : 0 ≤ t1 ∧ t1 ≤ 104857600 := ⟨hsr.1, by
          have : ((LS.take (k + 1)).length : Int) * 1048576 ≤ 104857600 := by omega
          omega⟩
        have a1 : IntKind.i64.wrap (t0 + x.n) = t1 := by rw [htt]; exact IntWalk.i64_in _ (by omega)
        have HT1 := Lib.hid ht1
        rw [ht0]
        obtain ⟨K1, hK1⟩ : ∃ K1 : Nat, K1 = k + 1 := ⟨_, rfl⟩
        have a7 : IntKind.i64.wrap ((k : Int) + 1) = (K1 : Int) := by rw [show (k : Int) + 1 = (K1 : Int) by omega]; exact IntWalk.i64_in _ (by omega)
        have HK1 := Lib.hid hK1
        clear hsx hsr ht0 ht1 htt hl100
        go_wp2_with fail
        refine wp_region_held_drew (S := (fun w' => CellsAt w' b (off + k * 10 + 1) (pxC x.p) ∧ w'.cell? ⟨b, off + k * 10 + 9, none⟩ = some (.int .i64 x.n) ∧ w'.cell? ⟨b, off + k * 10, none⟩ = some (.int .i64 x.now))) (by kernel_rfl) (⟨HCW.out.1.below (bl_drewN HBL.out 1), bl_keeps HBL.out HCW.out.2.1, bl_keeps HBL.out HCW.out.2.2⟩) (fun hHeld => ?_)
        generalize hW0 : World.drew _ = W0 at hHeld ⊢
        have HD0 := Lib.hid (show WdO W0 B S Lb m (hvW R thr L k) by rw [← hW0]; exact HWD.out)
        have HB0 := Lib.hid (show Below w.heap.size w W0 by rw [← hW0]; exact bl_drewN HBL.out 1)
        have HX := Lib.hid hHeld
        clear hW0 hHeld
        refine wpAnyH_take (i := 0) (v := ?_) rfl (by kernel_rfl) (by kernel_rfl) (by kernel_rfl) (fun _ _ _ h => h) (Or.inl ⟨by rfl, ?_⟩) HX.out ?_
        rotate_left
        · intro w hSw; have hSw2 := hSw.2.1; have hSw3 := hSw.2.2; go_simp
          try with_reducible rfl
        go_simp
        refine wpAnyH_take (i := 1) (v := ?_) rfl (by kernel_rfl) (by kernel_rfl) (by kernel_rfl) (fun _ _ _ h => h) (Or.inl ⟨by rfl, ?_⟩) HX.out ?_
        rotate_left
        · intro w hSw; have hSw2 := hSw.2.1; have hSw3 := hSw.2.2; go_simp
          try with_reducible rfl
        go_simp
        refine wpAnyH_take (i := 2) (v := ?_) rfl (by kernel_rfl) (by kernel_rfl) (by kernel_rfl) (fun _ _ _ h => h) (Or.inl ⟨by rfl, ?_⟩) HX.out ?_
        rotate_left
        · intro w hSw; have hSw2 := hSw.2.1; have hSw3 := hSw.2.2; go_simp
          try with_reducible rfl
        go_simp
        refine wpAnyH_take (i := 3) (v := ?_) rfl (by kernel_rfl) (by kernel_rfl) (by kernel_rfl) (fun _ _ _ h => h) (Or.inl ⟨by rfl, ?_⟩) HX.out ?_
        rotate_left
        · intro w hSw; have hSw2 := hSw.2.1; have hSw3 := hSw.2.2; go_simp
          try with_reducible rfl
        go_simp
        refine wpAnyH_take (i := 4) (v := ?_) rfl (by kernel_rfl) (by kernel_rfl) (by kernel_rfl) (fun _ _ _ h => h) (Or.inl ⟨by rfl, ?_⟩) HX.out ?_
        rotate_left
        · intro w hSw; have hSw2 := hSw.2.1; have hSw3 := hSw.2.2; go_simp
          try with_reducible rfl
        go_simp
        refine wpAnyH_take (i := 5) (v := .agg (pxC x.p).toArray) rfl (by kernel_rfl) (by kernel_rfl) (by kernel_rfl) (fun _ _ _ h => h) (Or.inl ⟨by rfl, ?_⟩) HX.out ?_
        · intro w' hSw
          have hld := run_loadVar_cells (P := Try.prog) w' ⟨b, off + k * 10 + 1, none⟩ 30 (pxC x.p) _ hSw.1 Try.underlying30 rfl HPS.out
          simp [execOp, Act.eval, Instr.loadAt, Instr.sureAddr, Sem.run_bind, hld, Result.andThen]
        go_simp
        refine wpAnyH_take (i := 6) (v := ?_) rfl (by kernel_rfl) (by kernel_rfl) (by kernel_rfl) (fun _ _ _ h => h) (Or.inl ⟨by rfl, ?_⟩) HX.out ?_
        rotate_left
        · intro w hSw; have hSw2 := hSw.2.1; have hSw3 := hSw.2.2; go_simp
          try with_reducible rfl
        go_simp
        refine wpAnyH_take (i := 7) (v := ?_) rfl (by kernel_rfl) (by kernel_rfl) (by kernel_rfl) (fun _ _ _ h => h) (Or.inl ⟨by rfl, ?_⟩) HX.out ?_
        rotate_left
        · intro w hSw; have hSw2 := hSw.2.1; have hSw3 := hSw.2.2; go_simp
          try with_reducible rfl
        go_simp
        refine wpAnyH_take (i := 8) (v := ?_) rfl (by kernel_rfl) (by kernel_rfl) (by kernel_rfl) (fun _ _ _ h => h) (Or.inl ⟨by rfl, ?_⟩) HX.out ?_
        rotate_left
        · intro w hSw; have hSw2 := hSw.2.1; have hSw3 := hSw.2.2; go_simp
          try with_reducible rfl
        go_simp
        refine wpAnyH_take (i := 9) (v := ?_) rfl (by kernel_rfl) (by kernel_rfl) (by kernel_rfl) (fun _ _ _ h => h) (Or.inl ⟨by rfl, ?_⟩) HX.out ?_
        rotate_left
        · intro w hSw; have hSw2 := hSw.2.1; have hSw3 := hSw.2.2; go_simp
          try with_reducible rfl
        go_simp
        refine wpAnyH_take (i := 10) (v := ?_) rfl (by kernel_rfl) (by kernel_rfl) (by kernel_rfl) (fun _ _ _ h => h) (Or.inl ⟨by rfl, ?_⟩) HX.out ?_
        rotate_left
        · intro w hSw; have hSw2 := hSw.2.1; have hSw3 := hSw.2.2; go_simp
          try with_reducible rfl
        go_simp
        refine wpAnyH_ready (rs := [11]) (by kernel_rfl) (by simp) ?_
        refine AllReadyH.cons rfl (fun K hK => ?_) AllReadyH.nil
        go_simp
        refine (wdAdd_w B S Lb m (hvW R thr L k) hokk 5 x.p hxp x.n _ HD0.out).mono ?_
        rintro e w5 ⟨y, m5, hy, rfl, hW5, hu5⟩
        rw [hvW_turn] at hy
        have hyp : y.p = x.p := by
          have hy2 := hy
          unfold wdAdd at hy2
          rw [hvW_turn] at hy2
          exact skAdd_at hy2 HOKS.out
        rw [HSTEP.out] at hy hW5
        have hyr := HBD.out.1 y (by
          have := List.mem_of_getElem? hy
          unfold hvW at this
          rwa [HLS.out] at this)
        have hyo : okSlo y := by
          have h1 := skRun_ok (skNew_ok hRb) (fun s hs => (HLK1.out s hs).1)
          have h2 := List.mem_of_getElem? hy
          unfold hvW at h2
          rw [HLS.out] at h2
          exact h1.2.2.1 y h2
        rw [hyp, HT1.out] at hyr
        dsimp only
        have HW5 := Lib.hid hW5
        have HB5 := Lib.hid (bl_upd3 HB0.out hu5 hwB hwS hwL)
        have HYR := Lib.hid hyr
        clear hW5 hu5 hy hyp hyr
        refine hK.out _ _ ⟨HCW.out.1.below HB5.out, bl_keeps HB5.out HCW.out.2.1, bl_keeps HB5.out HCW.out.2.2⟩ (fun hHeld => ?_)
        clear hK K
        have HX := Lib.hid hHeld
        refine wpAnyH_take (i := 12) (v := ?_) rfl (by kernel_rfl) (by kernel_rfl) (by kernel_rfl) (fun _ _ _ h => h) (Or.inl ⟨by rfl, ?_⟩) HX.out ?_
        rotate_left
        · intro w hSw; have hSw2 := hSw.2.1; have hSw3 := hSw.2.2; go_simp
          try with_reducible rfl
        go_simp
        refine wpAnyH_done (by kernel_rfl) ?_ _
        have r8 : w5.cell? ⟨b, off + k * 10 + 9, none⟩ = some (.int .i64 x.n) := hHeld.2.1
        clear hHeld
        obtain ⟨hv, hhv⟩ : ∃ hv, decide ((hvW R thr L k).thr ≤ y.c - y.e) = hv := ⟨_, rfl⟩
        have HHV := Lib.hid (show decide (thr ≤ y.c - y.e) = hv from hhv)
        rw [hhv]
        clear hhv
        go_wp2_with fail
        go_loopw [14, 78] (fun v i wv => ∃ j : Nat, j ≤ K1 ∧ i = .int .i64 j ∧ v = .int .i64 (truthN (LS.take j) x.p) ∧ Below w5.heap.size w5 wv) (fun _ i _ => K1 - (intOf i).toNat)
        case atStart => exact ⟨0, Nat.zero_le _, rfl, rfl, Below.refl _ _⟩
        case round =>
          obtain ⟨j, hj, rfl, rfl, hbel⟩ := hrel
          have HBK := Lib.hid hbel
          have HBA := Lib.hid (bl_next HB5.out hbel)
          clear hbel
          by_cases hlt2 : j < K1
          · have hj0 : (0 : Int) ≤ (j : Int) := Int.natCast_nonneg j
            have hj1 : (j : Int) < (K1 : Int) := by omega
            have hj2 : (j : Int) < (n : Int) := by have := HK1.out; omega
            obtain ⟨z, hz⟩ : ∃ z, L[j]? = some z := ⟨_, List.getElem?_eq_getElem (by have := HLN.out; have := HK1.out; omega)⟩
            obtain ⟨bz, oz, hez, _, hzp, hzn⟩ := HRD.out j z hz
            have hzs : okSw z := HOK.out z (List.mem_of_getElem? hz)
            have hzpx : okPx z.p := hzs.1
            cases hez
            have HZC := Lib.hid (And.intro hzp hzn)
            have HZS := Lib.hid (px_size hzpx)
            have hsz : LS[j]? = some (snOf z) := by rw [← HLS.out, List.getElem?_map, hz]; rfl
            have HTS := Lib.hid (show truthN (LS.take (j + 1)) x.p = if z.p = x.p then truthN (LS.take j) x.p + z.n else truthN (LS.take j) x.p from truthN_step hsz x.p)
            have hmemj : ∀ s ∈ LS.take j, 0 ≤ s.n ∧ s.n ≤ 1048576 := fun s hs => (HLK1.out s (List.mem_of_mem_take (show s ∈ (LS.take (k + 1)).take j by rw [List.take_take, Nat.min_eq_left (by have := HK1.out; omega)]; exact hs))).2
            have htr2 := truthN_range (L := LS.take j) (fun s hs => (hmemj s hs).1) x.p
            have hsr := sentN_range hmemj
            have hl100 : ((LS.take j).length : Int) ≤ 100 := by simp; have := HK1.out; omega
            have hzn2 : 0 ≤ z.n ∧ z.n ≤ 1048576 := (HLK1.out (snOf z) (List.mem_of_getElem? (show (LS.take (k + 1))[j]? = some (snOf z) by rw [List.getElem?_take, if_pos (by have := HK1.out; omega)]; exact hsz))).2
            obtain ⟨tv, htv⟩ : ∃ tv, truthN (LS.take j) x.p = tv := ⟨_, rfl⟩
            rw [htv] at HTS htr2 ⊢
            have a8 : IntKind.i64.wrap (tv + z.n) = tv + z.n := IntWalk.i64_in _ (by omega)
            clear hz hzp hzn hsz hmemj htr2 hsr hl100 htv
            go_wp2_with fail
            refine wp_region_held_drew (S := (fun w' => CellsAt w' b (off + j * 10 + 1) (pxC z.p) ∧ w'.cell? ⟨b, off + j * 10 + 9, none⟩ = some (.int .i64 z.n) ∧ CellsAt w' b (off + k * 10 + 1) (pxC x.p))) (by kernel_rfl) (⟨HZC.out.1.below (bl_drewN HBA.out 1), bl_keeps HBA.out HZC.out.2, HCW.out.1.below (bl_drewN HBA.out 1)⟩) (fun hHeld => ?_)
            generalize hW0 : World.drew _ = W9 at hHeld ⊢
            have HB9 := Lib.hid (show Below w5.heap.size w5 W9 by rw [← hW0]; exact bl_drewN HBK.out 1)
            have HX := Lib.hid hHeld
            have r9 : W9.cell? ⟨b, off + j * 10 + 9, none⟩ = some (.int .i64 z.n) := hHeld.2.1
            clear hW0 hHeld
            refine wpAnyH_take (i := 0) (v := ?_) rfl (by kernel_rfl) (by kernel_rfl) (by kernel_rfl) (fun _ _ _ h => h) (Or.inl ⟨by rfl, ?_⟩) HX.out ?_
            rotate_left
            · intro w hSw; have hSw1 := hSw.1; have hSw2 := hSw.2.1; go_simp
              try with_reducible rfl
            go_simp
            refine wpAnyH_take (i := 1) (v := ?_) rfl (by kernel_rfl) (by kernel_rfl) (by kernel_rfl) (fun _ _ _ h => h) (Or.inl ⟨by rfl, ?_⟩) HX.out ?_
            rotate_left
            · intro w hSw; have hSw1 := hSw.1; have hSw2 := hSw.2.1; go_simp
              try with_reducible rfl
            go_simp
            refine wpAnyH_take (i := 2) (v := ?_) rfl (by kernel_rfl) (by kernel_rfl) (by kernel_rfl) (fun _ _ _ h => h) (Or.inl ⟨by rfl, ?_⟩) HX.out ?_
            rotate_left
            · intro w hSw; have hSw1 := hSw.1; have hSw2 := hSw.2.1; go_simp
              try with_reducible rfl
            go_simp
            refine wpAnyH_take (i := 3) (v := ?_) rfl (by kernel_rfl) (by kernel_rfl) (by kernel_rfl) (fun _ _ _ h => h) (Or.inl ⟨by rfl, ?_⟩) HX.out ?_
            rotate_left
            · intro w hSw; have hSw1 := hSw.1; have hSw2 := hSw.2.1; go_simp
              try with_reducible rfl
            go_simp
            refine wpAnyH_take (i := 4) (v := .agg (pxC z.p).toArray) rfl (by kernel_rfl) (by kernel_rfl) (by kernel_rfl) (fun _ _ _ h => h) (Or.inl ⟨by rfl, ?_⟩) HX.out ?_
            · intro w' hSw
              have hld := run_loadVar_cells (P := Try.prog) w' ⟨b, off + j * 10 + 1, none⟩ 30 (pxC z.p) _ hSw.1 Try.underlying30 rfl HZS.out
              simp [execOp, Act.eval, Instr.loadAt, Instr.sureAddr, Sem.run_bind, hld, Result.andThen]
            go_simp
            refine wpAnyH_take (i := 5) (v := ?_) rfl (by kernel_rfl) (by kernel_rfl) (by kernel_rfl) (fun _ _ _ h => h) (Or.inl ⟨by rfl, ?_⟩) HX.out ?_
            rotate_left
            · intro w hSw; have hSw1 := hSw.1; have hSw2 := hSw.2.1; go_simp
              try with_reducible rfl
            go_simp
            refine wpAnyH_take (i := 6) (v := ?_) rfl (by kernel_rfl) (by kernel_rfl) (by kernel_rfl) (fun _ _ _ h => h) (Or.inl ⟨by rfl, ?_⟩) HX.out ?_
            rotate_left
            · intro w hSw; have hSw1 := hSw.1; have hSw2 := hSw.2.1; go_simp
              try with_reducible rfl
            go_simp
            refine wpAnyH_take (i := 7) (v := ?_) rfl (by kernel_rfl) (by kernel_rfl) (by kernel_rfl) (fun _ _ _ h => h) (Or.inl ⟨by rfl, ?_⟩) HX.out ?_
            rotate_left
            · intro w hSw; have hSw1 := hSw.1; have hSw2 := hSw.2.1; go_simp
              try with_reducible rfl
            go_simp
            refine wpAnyH_take (i := 8) (v := ?_) rfl (by kernel_rfl) (by kernel_rfl) (by kernel_rfl) (fun _ _ _ h => h) (Or.inl ⟨by rfl, ?_⟩) HX.out ?_
            rotate_left
            · intro w hSw; have hSw1 := hSw.1; have hSw2 := hSw.2.1; go_simp
              try with_reducible rfl
            go_simp
            refine wpAnyH_take (i := 9) (v := .agg (pxC x.p).toArray) rfl (by kernel_rfl) (by kernel_rfl) (by kernel_rfl) (fun _ _ _ h => h) (Or.inl ⟨by rfl, ?_⟩) HX.out ?_
            · intro w' hSw
              have hld := run_loadVar_cells (P := Try.prog) w' ⟨b, off + k * 10 + 1, none⟩ 30 (pxC x.p) _ hSw.2.2 Try.underlying30 rfl HPS.out
              simp [execOp, Act.eval, Instr.loadAt, Instr.sureAddr, Sem.run_bind, hld, Result.andThen]
            go_simp
            refine wpAnyH_take (i := 10) (v := .bool (decide (z.p = x.p))) rfl (by kernel_rfl) (by kernel_rfl) (by kernel_rfl) (fun _ _ _ h => h) (Or.inl ⟨by rfl, ?_⟩) HX.out ?_
            · intro w' hSw
              exact exec_eql 30 30 (.tmp 85) (.tmp 90) rfl _ _ rfl rfl _ (by kernel_rfl) (eq_px w' hzpx hxp)
            go_simp
            refine wpAnyH_done (by kernel_rfl) ?_ _
            by_cases he : z.p = x.p
            · have hd : decide (z.p = x.p) = true := by simp [he]
              rw [if_pos he] at HTS
              rw [hd]
              clear hd he
              go_wp2_with fail
              go_roundw
              case rel => exact ⟨j + 1, by omega, by go_num, by rw [HTS.out], HB9.out⟩
              case measure => simp [intOf]; omega
            · have hd : decide (z.p = x.p) = false := by simp [he]
              rw [if_neg he] at HTS
              rw [hd]
              clear hd he
              go_wp2_with fail
              go_roundw
              case rel => exact ⟨j + 1, by omega, by go_num, by rw [HTS.out], HB9.out⟩
              case measure => simp [intOf]; omega
          · have hj1 : ¬ (j : Int) < (K1 : Int) := by omega
            have hjk : LS.take j = LS.take (k + 1) := by rw [show j = k + 1 by have := HK1.out; omega]
            rw [hjk]
            have htr2 := truthN_range (L := LS.take (k + 1)) (fun s hs => (HLK1.out s hs).2.1) x.p
            rw [HT1.out] at htr2
            obtain ⟨e1, e2, e3⟩ := HYR.out
            obtain ⟨tv, htv⟩ : ∃ tv, truthN (LS.take (k + 1)) x.p = tv := ⟨_, rfl⟩
            rw [htv] at htr2 e1 e2 ⊢
            have HWE := Lib.hid (HW5.out.below HBK.out)
            have hR1 : (1 : Int) ≤ (R : Int) ∧ (R : Int) ≤ 64 := by omega
            by_cases hh : thr ≤ y.c - y.e
            · have hvt : hv = true := by rw [← HHV.out]; simp [hh]
              have d1 : decide (tv < thr) = false := decide_eq_false (by omega)
              have d1' : ¬ tv < thr := by omega
              rw [hvt]
              clear hjk htv hvt
              go_wp2_with fail
              go_roundw
              case rel => exact ⟨k + 1, m5, by omega, by go_num, by rw [HT1.out], HLK1.out, HWE.out, bl_next HB5.out HBK.out⟩
              case measure => simp [intOf]; omega
            · have hvf : hv = false := by rw [← HHV.out]; simp; omega
              have m1 : (tv - thr) * (R : Int) ≤ (y.e - 1) * (R : Int) := Int.mul_le_mul_of_nonneg_right (by omega) (by omega)
              have m2 : (y.e - 1) * (R : Int) = y.e * (R : Int) - (R : Int) := by rw [Int.sub_mul, Int.one_mul]
              have m3 : (-1048576) * (R : Int) ≤ (tv - thr) * (R : Int) := Int.mul_le_mul_of_nonneg_right (by omega) (by omega)
              have d2' : ¬ t1 ≤ (tv - thr) * (R : Int) := by omega
              have d2 : decide (t1 ≤ (tv - thr) * (R : Int)) = false := decide_eq_false d2'
              have a8 : IntKind.i64.wrap (tv - thr) = tv - thr := IntWalk.i64_in _ (by omega)
              have a9 : IntKind.i64.wrap ((tv - thr) * (R : Int)) = (tv - thr) * (R : Int) := IntWalk.i64_in _ (by omega)
              rw [hvf]
              clear hjk htv hvf m1 m2 m3
              go_wp2_with fail
              go_roundw
              case rel => exact ⟨k + 1, m5, by omega, by go_num, by rw [HT1.out], HLK1.out, HWE.out, bl_next HB5.out HBK.out⟩
              case measure => simp [intOf]; omega
      · have hk1 : ¬ (k : Int) < (n : Int) := by omega
        go_wp2
        go_ret
        exact ⟨rfl, HBL.out⟩
theorem WindowHeavy_w (sl th : Int) (A : Option Addr) (n c : Nat) (rows : List (List Value)) (w : World) (h1 : (Lit.int .u8 sl).wf = true) (h2 : (Lit.int .u32 th).wf = true) (h : SlP swKs w A n c rows) :
    Calls Try.prog 8 #[.int .u8 sl, .int .u32 th, .slice A n c] w fun e w' => e = .returned (.bool true) ∧ Below w.heap.size w w' := by
  obtain ⟨L, g1, g2, g3, g4⟩ := h.seenW
  exact WindowHeavy_x sl th (u8_range h1) (u32_range h2) A n c L g1 g2 g3 w g4
end Go.Proofs.Ytdmfmanmhlnleaa
