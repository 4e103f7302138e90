/- The walk of TurnsPlay: it answers true. -/
import Derived.Test.YtlnfenjoagkpdaaRtE
namespace Go.Proofs.Ytlnfenjoagkpdaa
open Go.RowKit
set_option linter.unusedVariables false
set_option linter.unusedSimpArgs false

theorem i8_rangeP {n : Int} (h : (Lit.int .i8 n).wf = true) : -128 ≤ n ∧ n ≤ 127 := by
  simp only [Lit.wf, IntKind.min, IntKind.max, IntKind.signed, IntKind.bits, Bool.and_eq_true, decide_eq_true_eq] at h
  simp at h; omega
theorem rcs_names (t : Tn) : (rcs t).map (·.n) = t.line := by
  simp only [rcs, List.map_map]
  refine (List.map_congr_left (fun c _ => rcOf_n t c)).trans ?_
  simp
theorem rcs_new (N : Nat) (q : Int) : rcs (tnNew N q) = [] := rfl
theorem tidy_new (N : Nat) (q : Int) : tidy (tnNew N q) := by
  intro x hx _
  have := List.eq_of_mem_replicate hx
  rw [this]
  rfl
theorem TnO.upd {w w' : World} {T C L N m B : Nat} {t : Tn} (h : TnO w T C L N m t) (hu : Upd B w w') (h1 : T ≠ B) (h2 : C ≠ B) (h3 : L ≠ B) : TnO w' T C L N m t :=
  ⟨h.1, h.2.1.of_grown hu (by simpa using h1), h.2.2.1.grown hu (by simpa using h2), h.2.2.2.grown hu (by simpa using h3)⟩
theorem SlR.upd3 {α : Type} {f : α → List Value} {w w' : World} {A : Option Addr} {n c X Y Z : Nat} {l : List α} (h : SlR f w A n c l) (hu : Upd3 X Y Z w w') (hne : ∀ ad, A = some ad → ad.block ≠ X ∧ ad.block ≠ Y ∧ ad.block ≠ Z) : SlR f w' A n c l :=
  ⟨h.1, h.2.1, h.2.2.1, h.2.2.2.1, fun j v hj => let ⟨ad, e, hc⟩ := h.2.2.2.2 j v hj; ⟨ad, e, by
    have hn := hne ad e
    have hb : (ad.add j).block = ad.block := by unfold Addr.add; split <;> rfl
    exact (World.cell?_of_block (w := w) (hu.2.2.2.2 (ad.add j).block (cell_lt hc) (by rw [hb]; exact hn.1) (by rw [hb]; exact hn.2.1) (by rw [hb]; exact hn.2.2))).trans hc⟩⟩
theorem Obj1.upd3 {w w' : World} {X Y Z B : Nat} {cs : Array Value} {t : TypeId} (h : Obj1 w B cs t) (hu : Upd3 X Y Z w w') (h1 : B ≠ X) (h2 : B ≠ Y) (h3 : B ≠ Z) : Obj1 w' B cs t := (hu.2.2.2.2 B h.lt h1 h2 h3).trans h

/-- New refuses. -/
theorem tnNo_w (a q : Int) (h : a < 1 ∨ 129 < a ∨ q < 1 ∨ 1073741824 < q) (w : World) :
    Calls Try.prog 12 #[.int .i64 a, .int .i64 q] w fun e w' => e = .returned (.tuple #[.pointer none, .int .i64 1]) ∧ w = w' := by
  by_cases h1 : a < 1
  · have d1 : decide (a < 1) = true := decide_eq_true h1
    go_enter Try.func12, Try.ntmps12
    go_wp2
    go_ret2
    exact ⟨rfl, rfl⟩
  · have d1 : decide (a < 1) = false := decide_eq_false h1
    by_cases h2 : 129 < a
    · have d2 : decide (129 < a) = true := decide_eq_true h2
      go_enter Try.func12, Try.ntmps12
      go_wp2
      go_ret2
      exact ⟨rfl, rfl⟩
    · have d2 : decide (129 < a) = false := decide_eq_false h2
      by_cases h3 : q < 1
      · have d3 : decide (q < 1) = true := decide_eq_true h3
        go_enter Try.func12, Try.ntmps12
        go_wp2
        go_ret2
        exact ⟨rfl, rfl⟩
      · have d3 : decide (q < 1) = false := decide_eq_false h3
        have h4 : 1073741824 < q := by omega
        have d4 : decide (1073741824 < q) = true := decide_eq_true h4
        go_enter Try.func12, Try.ntmps12
        go_wp2
        go_ret2
        exact ⟨rfl, rfl⟩

/-- Both turns, side by side. -/
def PlSt (w : World) (N : Nat) (q : Int) (T C L B : Nat) (wr : World) : Prop :=
  ∃ (t : Tn) (m : Nat) (A1 : Option Addr) (n1 c1 : Nat), TnO wr T C L N m t ∧ okTn t ∧ tidy t ∧ t.q = q ∧ Obj1 wr B (rtC N q A1 n1 c1) 44 ∧ SlR rcC wr A1 n1 c1 (rcs t) ∧ (∀ ad, A1 = some ad → B < ad.block) ∧ Below w.heap.size w wr

set_option maxRecDepth 100000 in
set_option maxHeartbeats 16000000 in
theorem TurnsPlay_w (a0 q : Int) (A : Option Addr) (n cp : Nat) (rows : List (List Value)) (w : World) (hw0 : (Lit.int .i64 a0).wf = true) (hw1 : (Lit.int .i64 q).wf = true) (hs : SlQ [.i .u8, .i .i8, .sl .i64] w A n cp rows) :
    Calls Try.prog 4 #[.int .i64 a0, .int .i64 q, .slice A n cp] w fun e w' => e = .returned (.bool true) ∧ Below w.heap.size w w' := by
  have hn63 : n ≤ 9223372036854775807 := Nat.le_trans hs.2.1 hs.2.2.1
  have HS := Lib.hid hs
  have ha0 := i64_range hw0
  have hq0 := i64_range hw1
  clear hs hw0 hw1
  go_enter Try.func4, Try.ntmps4
  go_wp2_with fail
  refine (awake15_w _).mono ?_
  rintro e w1 ⟨rfl, hb1⟩
  have HB1 := Lib.hid hb1
  clear hb1
  go_wp2_with fail
  refine (few15_w A n cp rows _ (HS.out.below HB1.out)).mono ?_
  rintro e w' ⟨⟨fw, rfl, hfw⟩, rfl⟩
  clear hfw
  cases fw
  · go_wp2_with fail
    refine (awake15_w _).mono ?_
    rintro e w2 ⟨rfl, hb2⟩
    have HB2 := Lib.hid (bl_next HB1.out hb2)
    clear hb2
    go_wp2
    go_ret
    exact ⟨rfl, HB2.out⟩
  · by_cases hbad : a0 < 1 ∨ 129 < a0 ∨ q < 1 ∨ 1073741824 < q
    · go_wp2_with fail
      refine (tnNo_w a0 q hbad _).mono ?_
      rintro e w' ⟨rfl, rfl⟩
      by_cases h1 : a0 < 1
      · have d1 : decide (a0 < 1) = true := decide_eq_true h1
        go_wp2
        go_ret
        exact ⟨rfl, HB1.out⟩
      · have d1 : decide (a0 < 1) = false := decide_eq_false h1
        by_cases h2 : 129 < a0
        · have d2 : decide (129 < a0) = true := decide_eq_true h2
          go_wp2
          go_ret
          exact ⟨rfl, HB1.out⟩
        · have d2 : decide (129 < a0) = false := decide_eq_false h2
          by_cases h3 : q < 1
          · have d3 : decide (q < 1) = true := decide_eq_true h3
            go_wp2
            go_ret
            exact ⟨rfl, HB1.out⟩
          · have d3 : decide (q < 1) = false := decide_eq_false h3
            have h4 : 1073741824 < q := by omega
            have d4 : decide (1073741824 < q) = true := decide_eq_true h4
            go_wp2
            go_ret
            exact ⟨rfl, HB1.out⟩
    · obtain ⟨N, rfl⟩ : ∃ N : Nat, a0 = (N : Int) := ⟨a0.toNat, by omega⟩
      have hN1 : 1 ≤ N ∧ N ≤ 129 := by omega
      have hN129 : N ≤ 129 := hN1.2
      have hqb : 1 ≤ q ∧ q ≤ 1073741824 := by omega
      have e1 : decide ((N : Int) < 1) = false := decide_eq_false (by omega)
      have e2 : decide (129 < (N : Int)) = false := decide_eq_false (by omega)
      have e3 : decide (q < 1) = false := decide_eq_false (by omega)
      have e4 : decide (1073741824 < q) = false := decide_eq_false (by omega)
      go_wp2_with fail
      refine (tnNew_w N q hN1 hqb _).mono ?_
      rintro e w2 ⟨T, C, L, rfl, hT0, hC0, hL0, ht2, hb2⟩
      have hT : w.heap.size ≤ T := Nat.le_trans HB1.out.size hT0
      have hC : w.heap.size ≤ C := Nat.le_trans HB1.out.size hC0
      have hL : w.heap.size ≤ L := Nat.le_trans HB1.out.size hL0
      have H2 := Lib.hid ht2
      have HB2 := Lib.hid (bl_next HB1.out hb2)
      clear ht2 hb2 hbad hT0 hC0 hL0
      by_cases h100 : q < 100
      · have d100 : decide (q < 100) = true := decide_eq_true h100
        go_wp2
        go_ret
        exact ⟨rfl, HB2.out⟩
      · have d100 : decide (q < 100) = false := decide_eq_false h100
        obtain ⟨B, hB⟩ : ∃ B, B = w2.heap.size := ⟨_, rfl⟩
        have hTB0 : T < B := by rw [hB]; exact H2.out.2.1.lt
        have hCB0 : C < B := by rw [hB]; exact H2.out.2.2.1.lt
        have hLB0 : L < B := by rw [hB]; exact H2.out.2.2.2.lt
        have hBw : w.heap.size ≤ B := by rw [hB]; exact HB2.out.size
        have hTB : T ≠ B := by omega
        have hCB : C ≠ B := by omega
        have hLB : L ≠ B := by omega
        have HBE := Lib.hid hB
        clear hB h100
        go_upto_region 9 with (refine store_obj rfl 44 (.tmp 9) (.tmp 66) rfl w2.heap.size 44 _ (rtC N q none 0 0) rfl rfl (Obj1.new w2 _ _) rfl rfl (by simp [rtC, Value.oneCell']) ?_; intro w3 ho3 hu3; have HO3 := Lib.hid ho3; have HU3 := Lib.hid hu3; clear ho3 hu3)
        rw [← HBE.out] at HO3 HU3 ⊢
        have HPL := Lib.hid (show PlSt w N q T C L B w3 from ⟨tnNew N q, 0, none, 0, 0, (H2.out.below (bl_alloc (Below.refl _ _) _)).upd HU3.out hTB hCB hLB, tnNew_ok hN1 hqb, tidy_new N q, rfl, HO3.out, SlR.nil _, (fun _ e => by cases e), bl_upd (bl_next HB2.out (bl_alloc (Below.refl _ _) _)) HU3.out hBw⟩)
        clear HO3 HU3 HBE H2 HB2
        go_wp2_with fail
        go_loopw [69] (fun i wr => ∃ (k : Nat), k ≤ n ∧ i = .int .i64 k ∧ PlSt w N q T C L B wr) (fun i _ => n - (intOf i).toNat)
        case atStart => exact ⟨0, Nat.zero_le _, rfl, HPL.out⟩
        case round =>
          obtain ⟨k, hk, rfl, t, m, A1, n1, c1, htn, hok, htd, hqq, hob, hsl1, hge, hbl⟩ := hrel
          have hn1 : n1 ≤ 1000 := by
            have h1 := hsl1.1
            rw [rcs_length] at h1
            have h2 := hok.len
            have h3 := hok.1.2
            omega
          have HTN := Lib.hid htn
          have HOK := Lib.hid hok
          have HTDY := Lib.hid htd
          have HQ := Lib.hid hqq
          have HOB := Lib.hid hob
          have HSL1 := Lib.hid hsl1
          have HGE := Lib.hid hge
          have HBL := Lib.hid hbl
          have HLN := Lib.hid htn.1.1
          have HRC := Lib.hid (show okR q (rcs t) by have := hok.okR; rwa [hqq] at this)
          clear htn hok htd hqq hob hsl1 hge hbl HPL
          by_cases hlt : k < n
          · have hk0 : (0 : Int) ≤ (k : Int) := Int.natCast_nonneg k
            have hk1 : (k : Int) < (n : Int) := by omega
            obtain ⟨b, off, kd, y, a, ma, da, lh, rfl, c0', c1', c2', hslh, wkd, wy⟩ := HS.out.act15 k hlt
            have hbw : b < w.heap.size := by have := cell_lt c0'; simpa using this
            have c0 := bl_keeps HBL.out c0'
            have c1q := bl_keeps HBL.out c1'
            have c2q := bl_keeps HBL.out c2'
            have hkd := u8_range wkd
            have hy := i8_rangeP wy
            have b2 : IntKind.i64.wrap y = y := IntWalk.i64_in _ (by omega)
            have HSLH := Lib.hid hslh
            clear hslh wkd wy
            obtain ⟨kq, rfl⟩ := Int.eq_ofNat_of_zero_le hkd.1
            obtain ⟨kr, hkr⟩ : ∃ kr, kr = kq % 5 := ⟨_, rfl⟩
            have d1 : (kq : Int).tmod 5 = (kr : Int) := by rw [Int.tmod_eq_emod_of_nonneg (by omega)]; omega
            have d2 : (kq : Int) % 5 = (kr : Int) := by omega
            have d3 : IntKind.u8.wrap (kr : Int) = (kr : Int) := IntWalk.u8_in _ (by omega)
            clear hkr
            by_cases hkd0 : kr = 0
            · subst hkd0
              go_upto_region 21 with (fail)
              go_wp2_with fail
              refine (wake2_w T C L N m t HOK.out y _ HTN.out).mono ?_
              rintro e W ⟨rfl, m2, ht2, hok2, hu2⟩
              obtain ⟨t2, ht2e⟩ : ∃ t2, t2 = wkT t y := ⟨_, rfl⟩
              rw [← ht2e] at ht2 hok2
              have HT := Lib.hid ht2
              have HOK2 := Lib.hid hok2
              have HTD2 := Lib.hid (show tidy t2 by rw [ht2e]; exact HTDY.out.wk y)
              have HQ2 := Lib.hid (show t2.q = q by rw [ht2e, wkT_q]; exact HQ.out)
              have HT2E := Lib.hid ht2e
              have HO := Lib.hid (HOB.out.upd3 hu2 (Ne.symm hTB) (Ne.symm hCB) (Ne.symm hLB))
              have HB := Lib.hid (bl_upd3 HBL.out hu2 hT hC hL)
              have HS1 := Lib.hid (HSL1.out.upd3 hu2 (fun ad e => by have := HGE.out ad e; omega))
              clear ht2 hok2 hu2 ht2e HOB HBL HSL1 HTN
              go_upto_region 22 with (fail)
              refine wp_region_held_drew (S := fun w' => w'.cell? ⟨b, off + k * 3 + 1, none⟩ = some (.int .i8 y)) (by kernel_rfl) (bl_keeps HB.out c1') (fun hHeld => ?_)
              have HX := Lib.hid hHeld
              clear hHeld
              generalize hWd : World.drew _ = W at HX ⊢
              have ho : Obj1 W B (rtC N q A1 n1 c1) 44 := by rw [← hWd]; exact HO.out
              have ht : TnO W T C L N m2 t2 := by rw [← hWd]; exact HT.out
              have hbl : Below w.heap.size w W := by rw [← hWd]; exact bl_drewN HB.out 1
              have hs1 : SlR rcC W A1 n1 c1 (rcs t) := by rw [← hWd]; exact HS1.out
              clear HO HT HB HS1 hWd
              have HO := Lib.hid ho
              have HT := Lib.hid ht
              have HB := Lib.hid hbl
              have HS1 := Lib.hid hs1
              clear ho ht hbl hs1
              refine wpAnyH_take (i := 1) (v := ?_) rfl (by kernel_rfl) (by kernel_rfl) (by kernel_rfl) (fun _ _ _ h => h) (Or.inl ⟨by rfl, ?_⟩) HX.out ?_
              rotate_left
              · intro w' hSw; go_simp
                try with_reducible rfl
              go_simp
              refine wpAnyH_take (i := 2) (v := ?_) rfl (by kernel_rfl) (by kernel_rfl) (by kernel_rfl) (fun _ _ _ h => h) (Or.inl ⟨by rfl, ?_⟩) HX.out ?_
              rotate_left
              · intro w' hSw; go_simp
                try with_reducible rfl
              go_simp
              refine wpAnyH_take (i := 3) (v := ?_) rfl (by kernel_rfl) (by kernel_rfl) (by kernel_rfl) (fun _ _ _ h => h) (Or.inl ⟨by rfl, ?_⟩) HX.out ?_
              rotate_left
              · intro w' hSw; go_simp
                try with_reducible rfl
              go_simp
              refine wpAnyH_take (i := 4) (v := ?_) rfl (by kernel_rfl) (by kernel_rfl) (by kernel_rfl) (fun _ _ _ h => h) (Or.inl ⟨by rfl, ?_⟩) HX.out ?_
              rotate_left
              · intro w' hSw; go_simp
                try with_reducible rfl
              go_simp
              refine wpAnyH_take (i := 5) (v := ?_) rfl (by kernel_rfl) (by kernel_rfl) (by kernel_rfl) (fun _ _ _ h => h) (Or.inl ⟨by rfl, ?_⟩) HX.out ?_
              rotate_left
              · intro w' hSw; go_simp
                try with_reducible rfl
              go_simp
              refine wpAnyH_take (i := 6) (v := ?_) rfl (by kernel_rfl) (by kernel_rfl) (by kernel_rfl) (fun _ _ _ h => h) (Or.inl ⟨by rfl, ?_⟩) HX.out ?_
              rotate_left
              · intro w' hSw; go_simp
                try with_reducible rfl
              go_simp
              refine wpAnyH_ready (rs := [0]) (by kernel_rfl) (by simp) ?_
              refine AllReadyH.cons rfl (fun K hK => ?_) AllReadyH.nil
              refine gwanted rfl ?_
              refine wp_load_row 44 (.tmp 9) rfl B rfl 44 (rtC N q A1 n1 c1) (0, 0) _ HO.out Try.underlying44 rfl rfl ?_
              have hX := HX.out
              refine hK.out _ _ (hX) (fun hHeld => ?_)
              clear HX hK K
              have HX := Lib.hid hHeld
              clear hHeld
              go_simp
              refine wpAnyH_ready (rs := [7]) (by kernel_rfl) (by simp) ?_
              refine AllReadyH.cons rfl (fun K hK => ?_) AllReadyH.nil
              go_simp
              refine (rwake2_w N q A1 n1 c1 t HOK.out HLN.out y hn1 _ HS1.out).mono ?_
              rintro e W ⟨A2, n2, c2, rfl, h2, hor, hb⟩
              rw [← HT2E.out] at h2
              have hX : (fun w' : World => w'.cell? ⟨b, off + k * 3 + 1, none⟩ = some (.int .i8 y)) W := bl_keeps hb HX.out
              have ho := HO.out.below hb
              have ht := HT.out.below hb
              have hbl := bl_next HB.out hb
              have hge : ∀ ad, A2 = some ad → B < ad.block := fun ad e => by
                rcases hor with h' | h'
                · exact HGE.out ad (by rw [← h']; exact e)
                · exact Nat.lt_of_lt_of_le HO.out.lt (h' ad e)
              clear HO HT HB HS1 HGE hb hor
              have HO := Lib.hid ho
              have HT := Lib.hid ht
              have HB := Lib.hid hbl
              have H2 := Lib.hid h2
              have HGE := Lib.hid hge
              clear ho ht hbl h2 hge
              (try dsimp only)
              refine hK.out _ _ (hX) (fun hHeld => ?_)
              clear HX hK K
              have HX := Lib.hid hHeld
              clear hHeld
              go_simp
              refine wpAnyH_take (i := 8) (v := ?_) rfl (by kernel_rfl) (by kernel_rfl) (by kernel_rfl) (fun _ _ _ h => h) (Or.inl ⟨by rfl, ?_⟩) HX.out ?_
              rotate_left
              · intro w' hSw; go_simp
                try with_reducible rfl
              go_simp
              refine wpAnyH_take (i := 9) (v := ?_) rfl (by kernel_rfl) (by kernel_rfl) (by kernel_rfl) (fun _ _ _ h => h) (Or.inl ⟨by rfl, ?_⟩) HX.out ?_
              rotate_left
              · intro w' hSw; go_simp
                try with_reducible rfl
              go_simp
              refine wpAnyH_take (i := 10) (v := ?_) rfl (by kernel_rfl) (by kernel_rfl) (by kernel_rfl) (fun _ _ _ h => h) (Or.inl ⟨by rfl, ?_⟩) HX.out ?_
              rotate_left
              · intro w' hSw; go_simp
                try with_reducible rfl
              go_simp
              refine wpAnyH_ready (rs := [11]) (by kernel_rfl) (by simp) ?_
              refine AllReadyH.cons rfl (fun K hK => ?_) AllReadyH.nil
              refine gwanted rfl ?_
              refine wp_storeO 44 (.tmp 9) (.tmp 130) rfl B 44 (rtC N q A1 n1 c1) (rtC N q A2 n2 c2) rfl rfl HO.out rfl rfl (by simp [rtC, Value.oneCell']) ?_
              intro W hob hu
              have hX : (fun w' : World => w'.cell? ⟨b, off + k * 3 + 1, none⟩ = some (.int .i8 y)) W := keep_upd hu HX.out (by show b ≠ B; omega)
              have hbl := bl_upd HB.out hu hBw
              have h2 := H2.out.upd hu (fun ad e => Nat.ne_of_gt (HGE.out ad e))
              have ht := HT.out.upd hu hTB hCB hLB
              clear HB H2 HT HO hu
              have HB := Lib.hid hbl
              have H2 := Lib.hid h2
              have HT := Lib.hid ht
              have HO := Lib.hid hob
              clear hbl h2 ht hob
              refine hK.out _ _ (hX) (fun hHeld => ?_)
              clear HX hK K
              have HX := Lib.hid hHeld
              clear hHeld
              go_simp
              refine wpAnyH_take (i := 12) (v := ?_) rfl (by kernel_rfl) (by kernel_rfl) (by kernel_rfl) (fun _ _ _ h => h) (Or.inl ⟨by rfl, ?_⟩) HX.out ?_
              rotate_left
              · intro w' hSw; go_simp
                try with_reducible rfl
              go_simp
              refine wpAnyH_done (by kernel_rfl) ?_ _
              have hn2 : n2 ≤ 1000 := by
                have h1 := H2.out.1
                rw [rcs_length] at h1
                have h2 := HOK2.out.len
                have h3 := HOK2.out.1.2
                omega
              have hn2m : n2 = m2 := by
                have h1 := H2.out.1
                rw [rcs_length] at h1
                have h2 := HT.out.1.2
                omega
              have HNM := Lib.hid hn2m
              have hm2 : m2 ≤ 1000 := by omega
              clear hn2m
              go_upto_region 26 with (fail)
              refine wp_region_held_drew (S := fun w' => Obj1 w' B (rtC N q A2 n2 c2) 44) (by kernel_rfl) (HO.out) (fun hHeld => ?_)
              have HX := Lib.hid hHeld
              clear hHeld
              generalize hWd : World.drew _ = W at HX ⊢
              have ht : TnO W T C L N m2 t2 := by rw [← hWd]; exact HT.out
              have hbl : Below w.heap.size w W := by rw [← hWd]; exact bl_drewN HB.out 1
              have h2 : SlR rcC W A2 n2 c2 (rcs t2) := by rw [← hWd]; exact H2.out
              clear HT HB H2 hWd HO
              have HT := Lib.hid ht
              have HB := Lib.hid hbl
              have H2 := Lib.hid h2
              clear ht hbl h2
              refine wpAnyH_take (i := 0) (v := ?_) rfl (by kernel_rfl) (by kernel_rfl) (by kernel_rfl) (fun _ _ _ h => h) (Or.inl ⟨by rfl, ?_⟩) HX.out ?_
              rotate_left
              · intro w' hSw; go_simp
                try with_reducible rfl
              go_simp
              refine wpAnyH_take (i := 1) (v := ?_) rfl (by kernel_rfl) (by kernel_rfl) (by kernel_rfl) (fun _ _ _ h => h) (Or.inl ⟨by rfl, ?_⟩) HX.out ?_
              rotate_left
              · intro w' hSw; go_simp
                try with_reducible rfl
              go_simp
              refine wpAnyH_take (i := 2) (v := ?_) rfl (by kernel_rfl) (by kernel_rfl) (by kernel_rfl) (fun _ _ _ h => h) (Or.inl ⟨by rfl, ?_⟩) HX.out ?_
              rotate_left
              · intro w' hSw; go_simp
                try with_reducible rfl
              go_simp
              refine wpAnyH_take (i := 3) (v := ?_) rfl (by kernel_rfl) (by kernel_rfl) (by kernel_rfl) (fun _ _ _ h => h) (Or.inl ⟨by rfl, ?_⟩) HX.out ?_
              rotate_left
              · intro w' hSw; go_simp
                try with_reducible rfl
              go_simp
              refine wpAnyH_take (i := 4) (v := ?_) rfl (by kernel_rfl) (by kernel_rfl) (by kernel_rfl) (fun _ _ _ h => h) (Or.inl ⟨by rfl, ?_⟩) HX.out ?_
              rotate_left
              · intro w' hSw; go_simp
                try with_reducible rfl
              go_simp
              refine wpAnyH_take (i := 6) (v := .agg (rtC N q A2 n2 c2)) rfl (by kernel_rfl) (by kernel_rfl) (by kernel_rfl) (fun _ _ _ h => h) (Or.inl ⟨by rfl, ?_⟩) HX.out ?_
              · intro w' hSw
                have hld := run_loadVar_row (P := Try.prog) w' B 44 44 (rtC N q A2 n2 c2) (0, 0) _ hSw Try.underlying44 rfl rfl
                simp [execOp, Act.eval, Instr.loadAt, Instr.sureAddr, Sem.run_bind, hld, Result.andThen]
              go_simp
              refine wpAnyH_ready (rs := [5]) (by kernel_rfl) (by simp) ?_
              refine AllReadyH.cons rfl (fun K hK => ?_) AllReadyH.nil
              go_simp
              refine (tawake_w T C L N m2 t2 hN129 _ HT.out).mono ?_
              rintro e W ⟨v5, rfl, ho5, hb⟩
              have hX : Obj1 W B (rtC N q A2 n2 c2) 44 := HX.out.below hb
              have ht := HT.out.below hb
              have hbl := bl_next HB.out hb
              have h2 := H2.out.below hb
              clear HT HB H2 hb
              have HT := Lib.hid ht
              have HB := Lib.hid hbl
              have H2 := Lib.hid h2
              obtain ⟨A5, c5, rfl, hrd5⟩ := own_Rd ho5
              have HR5 := Lib.hid hrd5
              clear ht hbl h2 ho5 hrd5
              dsimp only
              refine hK.out _ _ (hX) (fun hHeld => ?_)
              clear HX hK K
              have HX := Lib.hid hHeld
              clear hHeld
              go_simp
              refine wpAnyH_ready (rs := [7]) (by kernel_rfl) (by simp) ?_
              refine AllReadyH.cons rfl (fun K hK => ?_) AllReadyH.nil
              go_simp
              refine (rawake_w N q A2 n2 c2 (rcs t2) hn2 _ H2.out).mono ?_
              rintro e W ⟨A6, c6, rfl, hrd6, hb⟩
              have hX : Obj1 W B (rtC N q A2 n2 c2) 44 := HX.out.below hb
              have ht := HT.out.below hb
              have hbl := bl_next HB.out hb
              have h2 := H2.out.below hb
              have h5 := HR5.out.below hb
              rw [rcs_names] at hrd6
              clear HT HB H2 HR5 hb
              have HT := Lib.hid ht
              have HB := Lib.hid hbl
              have H2 := Lib.hid h2
              have HR5 := Lib.hid h5
              have HR6 := Lib.hid hrd6
              clear ht hbl h2 h5 hrd6
              dsimp only
              refine hK.out _ _ (hX) (fun hHeld => ?_)
              clear HX hK K
              have HX := Lib.hid hHeld
              clear hHeld
              go_simp
              refine wpAnyH_ready (rs := [8]) (by kernel_rfl) (by simp) ?_
              refine AllReadyH.cons rfl (fun K hK => ?_) AllReadyH.nil
              go_simp
              rw [HNM.out]
              refine (intsN_w A5 A6 m2 c5 c6 t2.line HT.out.1.2 (by omega) _ HR5.out HR6.out).mono ?_
              rintro e w8 ⟨rfl, qq, hq⟩
              have hb : Below W.heap.size W w8 := by rw [hq]; exact bl_drewN (Below.refl W.heap.size W) qq
              have hX : Obj1 w8 B (rtC N q A2 n2 c2) 44 := HX.out.below hb
              have ht := HT.out.below hb
              have hbl := bl_next HB.out hb
              have h2 := H2.out.below hb
              clear HT HB H2 HR5 HR6 hb hq
              have HT := Lib.hid ht
              have HB := Lib.hid hbl
              have H2 := Lib.hid h2
              clear ht hbl h2
              dsimp only
              refine hK.out _ _ (hX) (fun hHeld => ?_)
              clear HX hK K
              have HX := Lib.hid hHeld
              clear hHeld
              go_simp
              refine wpAnyH_take (i := 9) (v := ?_) rfl (by kernel_rfl) (by kernel_rfl) (by kernel_rfl) (fun _ _ _ h => h) (Or.inl ⟨by rfl, ?_⟩) HX.out ?_
              rotate_left
              · intro w' hSw; go_simp
                try with_reducible rfl
              go_simp
              refine wpAnyH_take (i := 10) (v := ?_) rfl (by kernel_rfl) (by kernel_rfl) (by kernel_rfl) (fun _ _ _ h => h) (Or.inl ⟨by rfl, ?_⟩) HX.out ?_
              rotate_left
              · intro w' hSw; go_simp
                try with_reducible rfl
              go_simp
              refine wpAnyH_done (by kernel_rfl) ?_ _
              go_wp2_with fail
              go_loopw [16] (fun i wq => ∃ ci : Int, -1 ≤ ci ∧ ci ≤ 21 ∧ i = .int .i64 ci ∧ TnO wq T C L N m2 t2 ∧ Obj1 wq B (rtC N q A2 n2 c2) 44 ∧ SlR rcC wq A2 n2 c2 (rcs t2) ∧ Below w.heap.size w wq) (fun i _ => (21 - intOf i).toNat)
              case atStart => exact ⟨-1, by omega, by omega, rfl, HT.out, HX.out, H2.out, HB.out⟩
              case round =>
                obtain ⟨ci, hci0, hci1, rfl, ht, ho, h2, hbl⟩ := hrel
                clear HT HX H2 HB
                have HT := Lib.hid ht
                have HO := Lib.hid ho
                have H2 := Lib.hid h2
                have HB := Lib.hid hbl
                have HDE := Lib.hid (de_eq HOK2.out HTD2.out ci)
                clear ht ho h2 hbl
                by_cases hmin : (N : Int) ≤ 20
                · have hm1 : decide ((N : Int) ≤ 20) = true := decide_eq_true hmin
                  have hm2 : ¬ (20 : Int) < (N : Int) := by omega
                  by_cases hci : ci ≤ (N : Int)
                  · have hcd : decide (ci ≤ (N : Int)) = true := decide_eq_true hci
                    have hw1 : IntKind.i64.wrap (ci + 1) = ci + 1 := IntWalk.i64_in _ (by omega)
                    go_wp2_with fail
                    refine wp_region_held_drew (S := fun w' => Obj1 w' B (rtC N q A2 n2 c2) 44) (by kernel_rfl) (HO.out) (fun hHeld => ?_)
                    have HX := Lib.hid hHeld
                    clear hHeld
                    generalize hWd : World.drew _ = W at HX ⊢
                    have ht : TnO W T C L N m2 t2 := by rw [← hWd]; exact HT.out
                    have hbl : Below w.heap.size w W := by rw [← hWd]; exact bl_drewN HB.out 1
                    have h2 : SlR rcC W A2 n2 c2 (rcs t2) := by rw [← hWd]; exact H2.out
                    clear HT HB H2 hWd HO
                    have HT := Lib.hid ht
                    have HB := Lib.hid hbl
                    have H2 := Lib.hid h2
                    clear ht hbl h2
                    refine wpAnyH_take (i := 0) (v := ?_) rfl (by kernel_rfl) (by kernel_rfl) (by kernel_rfl) (fun _ _ _ h => h) (Or.inl ⟨by rfl, ?_⟩) HX.out ?_
                    rotate_left
                    · intro w' hSw; go_simp
                      try with_reducible rfl
                    go_simp
                    refine wpAnyH_take (i := 1) (v := ?_) rfl (by kernel_rfl) (by kernel_rfl) (by kernel_rfl) (fun _ _ _ h => h) (Or.inl ⟨by rfl, ?_⟩) HX.out ?_
                    rotate_left
                    · intro w' hSw; go_simp
                      try with_reducible rfl
                    go_simp
                    refine wpAnyH_take (i := 3) (v := .agg (rtC N q A2 n2 c2)) rfl (by kernel_rfl) (by kernel_rfl) (by kernel_rfl) (fun _ _ _ h => h) (Or.inl ⟨by rfl, ?_⟩) HX.out ?_
                    · intro w' hSw
                      have hld := run_loadVar_row (P := Try.prog) w' B 44 44 (rtC N q A2 n2 c2) (0, 0) _ hSw Try.underlying44 rfl rfl
                      simp [execOp, Act.eval, Instr.loadAt, Instr.sureAddr, Sem.run_bind, hld, Result.andThen]
                    go_simp
                    refine wpAnyH_take (i := 4) (v := ?_) rfl (by kernel_rfl) (by kernel_rfl) (by kernel_rfl) (fun _ _ _ h => h) (Or.inl ⟨by rfl, ?_⟩) HX.out ?_
                    rotate_left
                    · intro w' hSw; go_simp
                      try with_reducible rfl
                    go_simp
                    refine wpAnyH_ready (rs := [2]) (by kernel_rfl) (by simp) ?_
                    refine AllReadyH.cons rfl (fun K hK => ?_) AllReadyH.nil
                    go_simp
                    refine (deficit_w T C L N m2 t2 hN129 ci _ HT.out).mono ?_
                    rintro e W ⟨rfl, rfl⟩
                    have hX : Obj1 W B (rtC N q A2 n2 c2) 44 := HX.out
                    dsimp only
                    refine hK.out _ _ (hX) (fun hHeld => ?_)
                    clear HX hK K
                    have HX := Lib.hid hHeld
                    clear hHeld
                    go_simp
                    refine wpAnyH_ready (rs := [5]) (by kernel_rfl) (by simp) ?_
                    refine AllReadyH.cons rfl (fun K hK => ?_) AllReadyH.nil
                    go_simp
                    refine (rde_w N q A2 n2 c2 (rcs t2) ci hn2 _ H2.out).mono ?_
                    rintro e W ⟨rfl, hb⟩
                    rw [HDE.out]
                    have hX : Obj1 W B (rtC N q A2 n2 c2) 44 := HX.out.below hb
                    have ht := HT.out.below hb
                    have hbl := bl_next HB.out hb
                    have h2 := H2.out.below hb
                    clear HT HB H2 hb
                    have HT := Lib.hid ht
                    have HB := Lib.hid hbl
                    have H2 := Lib.hid h2
                    clear ht hbl h2
                    dsimp only
                    refine hK.out _ _ (hX) (fun hHeld => ?_)
                    clear HX hK K
                    have HX := Lib.hid hHeld
                    clear hHeld
                    go_simp
                    refine wpAnyH_take (i := 6) (v := ?_) rfl (by kernel_rfl) (by kernel_rfl) (by kernel_rfl) (fun _ _ _ h => h) (Or.inl ⟨by rfl, ?_⟩) HX.out ?_
                    rotate_left
                    · intro w' hSw; go_simp
                      try with_reducible rfl
                    go_simp
                    refine wpAnyH_done (by kernel_rfl) ?_ _
                    go_wp2_with fail
                    go_roundw
                    case rel => exact ⟨ci + 1, by omega, by omega, by go_num, HT.out, HX.out, H2.out, HB.out⟩
                    case measure => simp [intOf]; omega
                  · have hcd : decide (ci ≤ (N : Int)) = false := decide_eq_false hci
                    go_wp2_with fail
                    go_roundw
                    case measure => simp [intOf]; omega
                    case rel => exact ⟨k + 1, by omega, by go_num, t2, m2, A2, n2, c2, HT.out, HOK2.out, HTD2.out, HQ2.out, HO.out, H2.out, HGE.out, HB.out⟩
                · have hm1 : decide ((N : Int) ≤ 20) = false := decide_eq_false hmin
                  have hm2 : (20 : Int) < (N : Int) := by omega
                  by_cases hci : ci ≤ 20
                  · have hcd : decide (ci ≤ 20) = true := decide_eq_true hci
                    have hw1 : IntKind.i64.wrap (ci + 1) = ci + 1 := IntWalk.i64_in _ (by omega)
                    go_wp2_with fail
                    refine wp_region_held_drew (S := fun w' => Obj1 w' B (rtC N q A2 n2 c2) 44) (by kernel_rfl) (HO.out) (fun hHeld => ?_)
                    have HX := Lib.hid hHeld
                    clear hHeld
                    generalize hWd : World.drew _ = W at HX ⊢
                    have ht : TnO W T C L N m2 t2 := by rw [← hWd]; exact HT.out
                    have hbl : Below w.heap.size w W := by rw [← hWd]; exact bl_drewN HB.out 1
                    have h2 : SlR rcC W A2 n2 c2 (rcs t2) := by rw [← hWd]; exact H2.out
                    clear HT HB H2 hWd HO
                    have HT := Lib.hid ht
                    have HB := Lib.hid hbl
                    have H2 := Lib.hid h2
                    clear ht hbl h2
                    refine wpAnyH_take (i := 0) (v := ?_) rfl (by kernel_rfl) (by kernel_rfl) (by kernel_rfl) (fun _ _ _ h => h) (Or.inl ⟨by rfl, ?_⟩) HX.out ?_
                    rotate_left
                    · intro w' hSw; go_simp
                      try with_reducible rfl
                    go_simp
                    refine wpAnyH_take (i := 1) (v := ?_) rfl (by kernel_rfl) (by kernel_rfl) (by kernel_rfl) (fun _ _ _ h => h) (Or.inl ⟨by rfl, ?_⟩) HX.out ?_
                    rotate_left
                    · intro w' hSw; go_simp
                      try with_reducible rfl
                    go_simp
                    refine wpAnyH_take (i := 3) (v := .agg (rtC N q A2 n2 c2)) rfl (by kernel_rfl) (by kernel_rfl) (by kernel_rfl) (fun _ _ _ h => h) (Or.inl ⟨by rfl, ?_⟩) HX.out ?_
                    · intro w' hSw
                      have hld := run_loadVar_row (P := Try.prog) w' B 44 44 (rtC N q A2 n2 c2) (0, 0) _ hSw Try.underlying44 rfl rfl
                      simp [execOp, Act.eval, Instr.loadAt, Instr.sureAddr, Sem.run_bind, hld, Result.andThen]
                    go_simp
                    refine wpAnyH_take (i := 4) (v := ?_) rfl (by kernel_rfl) (by kernel_rfl) (by kernel_rfl) (fun _ _ _ h => h) (Or.inl ⟨by rfl, ?_⟩) HX.out ?_
                    rotate_left
                    · intro w' hSw; go_simp
                      try with_reducible rfl
                    go_simp
                    refine wpAnyH_ready (rs := [2]) (by kernel_rfl) (by simp) ?_
                    refine AllReadyH.cons rfl (fun K hK => ?_) AllReadyH.nil
                    go_simp
                    refine (deficit_w T C L N m2 t2 hN129 ci _ HT.out).mono ?_
                    rintro e W ⟨rfl, rfl⟩
                    have hX : Obj1 W B (rtC N q A2 n2 c2) 44 := HX.out
                    dsimp only
                    refine hK.out _ _ (hX) (fun hHeld => ?_)
                    clear HX hK K
                    have HX := Lib.hid hHeld
                    clear hHeld
                    go_simp
                    refine wpAnyH_ready (rs := [5]) (by kernel_rfl) (by simp) ?_
                    refine AllReadyH.cons rfl (fun K hK => ?_) AllReadyH.nil
                    go_simp
                    refine (rde_w N q A2 n2 c2 (rcs t2) ci hn2 _ H2.out).mono ?_
                    rintro e W ⟨rfl, hb⟩
                    rw [HDE.out]
                    have hX : Obj1 W B (rtC N q A2 n2 c2) 44 := HX.out.below hb
                    have ht := HT.out.below hb
                    have hbl := bl_next HB.out hb
                    have h2 := H2.out.below hb
                    clear HT HB H2 hb
                    have HT := Lib.hid ht
                    have HB := Lib.hid hbl
                    have H2 := Lib.hid h2
                    clear ht hbl h2
                    dsimp only
                    refine hK.out _ _ (hX) (fun hHeld => ?_)
                    clear HX hK K
                    have HX := Lib.hid hHeld
                    clear hHeld
                    go_simp
                    refine wpAnyH_take (i := 6) (v := ?_) rfl (by kernel_rfl) (by kernel_rfl) (by kernel_rfl) (fun _ _ _ h => h) (Or.inl ⟨by rfl, ?_⟩) HX.out ?_
                    rotate_left
                    · intro w' hSw; go_simp
                      try with_reducible rfl
                    go_simp
                    refine wpAnyH_done (by kernel_rfl) ?_ _
                    go_wp2_with fail
                    go_roundw
                    case rel => exact ⟨ci + 1, by omega, by omega, by go_num, HT.out, HX.out, H2.out, HB.out⟩
                    case measure => simp [intOf]; omega
                  · have hcd : decide (ci ≤ 20) = false := decide_eq_false hci
                    go_wp2_with fail
                    go_roundw
                    case measure => simp [intOf]; omega
                    case rel => exact ⟨k + 1, by omega, by go_num, t2, m2, A2, n2, c2, HT.out, HOK2.out, HTD2.out, HQ2.out, HO.out, H2.out, HGE.out, HB.out⟩
            · by_cases hkd1 : kr = 1
              · subst hkd1
                go_upto_region 21 with (fail)
                go_wp2_with fail
                refine (wake2_w T C L N m t HOK.out y _ HTN.out).mono ?_
                rintro e W ⟨rfl, m2, ht2, hok2, hu2⟩
                obtain ⟨t2, ht2e⟩ : ∃ t2, t2 = wkT t y := ⟨_, rfl⟩
                rw [← ht2e] at ht2 hok2
                have HT := Lib.hid ht2
                have HOK2 := Lib.hid hok2
                have HTD2 := Lib.hid (show tidy t2 by rw [ht2e]; exact HTDY.out.wk y)
                have HQ2 := Lib.hid (show t2.q = q by rw [ht2e, wkT_q]; exact HQ.out)
                have HT2E := Lib.hid ht2e
                have HO := Lib.hid (HOB.out.upd3 hu2 (Ne.symm hTB) (Ne.symm hCB) (Ne.symm hLB))
                have HB := Lib.hid (bl_upd3 HBL.out hu2 hT hC hL)
                have HS1 := Lib.hid (HSL1.out.upd3 hu2 (fun ad e => by have := HGE.out ad e; omega))
                clear ht2 hok2 hu2 ht2e HOB HBL HSL1 HTN
                go_upto_region 22 with (fail)
                refine wp_region_held_drew (S := fun w' => w'.cell? ⟨b, off + k * 3 + 1, none⟩ = some (.int .i8 y)) (by kernel_rfl) (bl_keeps HB.out c1') (fun hHeld => ?_)
                have HX := Lib.hid hHeld
                clear hHeld
                generalize hWd : World.drew _ = W at HX ⊢
                have ho : Obj1 W B (rtC N q A1 n1 c1) 44 := by rw [← hWd]; exact HO.out
                have ht : TnO W T C L N m2 t2 := by rw [← hWd]; exact HT.out
                have hbl : Below w.heap.size w W := by rw [← hWd]; exact bl_drewN HB.out 1
                have hs1 : SlR rcC W A1 n1 c1 (rcs t) := by rw [← hWd]; exact HS1.out
                clear HO HT HB HS1 hWd
                have HO := Lib.hid ho
                have HT := Lib.hid ht
                have HB := Lib.hid hbl
                have HS1 := Lib.hid hs1
                clear ho ht hbl hs1
                refine wpAnyH_take (i := 1) (v := ?_) rfl (by kernel_rfl) (by kernel_rfl) (by kernel_rfl) (fun _ _ _ h => h) (Or.inl ⟨by rfl, ?_⟩) HX.out ?_
                rotate_left
                · intro w' hSw; go_simp
                  try with_reducible rfl
                go_simp
                refine wpAnyH_take (i := 2) (v := ?_) rfl (by kernel_rfl) (by kernel_rfl) (by kernel_rfl) (fun _ _ _ h => h) (Or.inl ⟨by rfl, ?_⟩) HX.out ?_
                rotate_left
                · intro w' hSw; go_simp
                  try with_reducible rfl
                go_simp
                refine wpAnyH_take (i := 3) (v := ?_) rfl (by kernel_rfl) (by kernel_rfl) (by kernel_rfl) (fun _ _ _ h => h) (Or.inl ⟨by rfl, ?_⟩) HX.out ?_
                rotate_left
                · intro w' hSw; go_simp
                  try with_reducible rfl
                go_simp
                refine wpAnyH_take (i := 4) (v := ?_) rfl (by kernel_rfl) (by kernel_rfl) (by kernel_rfl) (fun _ _ _ h => h) (Or.inl ⟨by rfl, ?_⟩) HX.out ?_
                rotate_left
                · intro w' hSw; go_simp
                  try with_reducible rfl
                go_simp
                refine wpAnyH_take (i := 5) (v := ?_) rfl (by kernel_rfl) (by kernel_rfl) (by kernel_rfl) (fun _ _ _ h => h) (Or.inl ⟨by rfl, ?_⟩) HX.out ?_
                rotate_left
                · intro w' hSw; go_simp
                  try with_reducible rfl
                go_simp
                refine wpAnyH_take (i := 6) (v := ?_) rfl (by kernel_rfl) (by kernel_rfl) (by kernel_rfl) (fun _ _ _ h => h) (Or.inl ⟨by rfl, ?_⟩) HX.out ?_
                rotate_left
                · intro w' hSw; go_simp
                  try with_reducible rfl
                go_simp
                refine wpAnyH_ready (rs := [0]) (by kernel_rfl) (by simp) ?_
                refine AllReadyH.cons rfl (fun K hK => ?_) AllReadyH.nil
                refine gwanted rfl ?_
                refine wp_load_row 44 (.tmp 9) rfl B rfl 44 (rtC N q A1 n1 c1) (0, 0) _ HO.out Try.underlying44 rfl rfl ?_
                have hX := HX.out
                refine hK.out _ _ (hX) (fun hHeld => ?_)
                clear HX hK K
                have HX := Lib.hid hHeld
                clear hHeld
                go_simp
                refine wpAnyH_ready (rs := [7]) (by kernel_rfl) (by simp) ?_
                refine AllReadyH.cons rfl (fun K hK => ?_) AllReadyH.nil
                go_simp
                refine (rwake2_w N q A1 n1 c1 t HOK.out HLN.out y hn1 _ HS1.out).mono ?_
                rintro e W ⟨A2, n2, c2, rfl, h2, hor, hb⟩
                rw [← HT2E.out] at h2
                have hX : (fun w' : World => w'.cell? ⟨b, off + k * 3 + 1, none⟩ = some (.int .i8 y)) W := bl_keeps hb HX.out
                have ho := HO.out.below hb
                have ht := HT.out.below hb
                have hbl := bl_next HB.out hb
                have hge : ∀ ad, A2 = some ad → B < ad.block := fun ad e => by
                  rcases hor with h' | h'
                  · exact HGE.out ad (by rw [← h']; exact e)
                  · exact Nat.lt_of_lt_of_le HO.out.lt (h' ad e)
                clear HO HT HB HS1 HGE hb hor
                have HO := Lib.hid ho
                have HT := Lib.hid ht
                have HB := Lib.hid hbl
                have H2 := Lib.hid h2
                have HGE := Lib.hid hge
                clear ho ht hbl h2 hge
                (try dsimp only)
                refine hK.out _ _ (hX) (fun hHeld => ?_)
                clear HX hK K
                have HX := Lib.hid hHeld
                clear hHeld
                go_simp
                refine wpAnyH_take (i := 8) (v := ?_) rfl (by kernel_rfl) (by kernel_rfl) (by kernel_rfl) (fun _ _ _ h => h) (Or.inl ⟨by rfl, ?_⟩) HX.out ?_
                rotate_left
                · intro w' hSw; go_simp
                  try with_reducible rfl
                go_simp
                refine wpAnyH_take (i := 9) (v := ?_) rfl (by kernel_rfl) (by kernel_rfl) (by kernel_rfl) (fun _ _ _ h => h) (Or.inl ⟨by rfl, ?_⟩) HX.out ?_
                rotate_left
                · intro w' hSw; go_simp
                  try with_reducible rfl
                go_simp
                refine wpAnyH_take (i := 10) (v := ?_) rfl (by kernel_rfl) (by kernel_rfl) (by kernel_rfl) (fun _ _ _ h => h) (Or.inl ⟨by rfl, ?_⟩) HX.out ?_
                rotate_left
                · intro w' hSw; go_simp
                  try with_reducible rfl
                go_simp
                refine wpAnyH_ready (rs := [11]) (by kernel_rfl) (by simp) ?_
                refine AllReadyH.cons rfl (fun K hK => ?_) AllReadyH.nil
                refine gwanted rfl ?_
                refine wp_storeO 44 (.tmp 9) (.tmp 130) rfl B 44 (rtC N q A1 n1 c1) (rtC N q A2 n2 c2) rfl rfl HO.out rfl rfl (by simp [rtC, Value.oneCell']) ?_
                intro W hob hu
                have hX : (fun w' : World => w'.cell? ⟨b, off + k * 3 + 1, none⟩ = some (.int .i8 y)) W := keep_upd hu HX.out (by show b ≠ B; omega)
                have hbl := bl_upd HB.out hu hBw
                have h2 := H2.out.upd hu (fun ad e => Nat.ne_of_gt (HGE.out ad e))
                have ht := HT.out.upd hu hTB hCB hLB
                clear HB H2 HT HO hu
                have HB := Lib.hid hbl
                have H2 := Lib.hid h2
                have HT := Lib.hid ht
                have HO := Lib.hid hob
                clear hbl h2 ht hob
                refine hK.out _ _ (hX) (fun hHeld => ?_)
                clear HX hK K
                have HX := Lib.hid hHeld
                clear hHeld
                go_simp
                refine wpAnyH_take (i := 12) (v := ?_) rfl (by kernel_rfl) (by kernel_rfl) (by kernel_rfl) (fun _ _ _ h => h) (Or.inl ⟨by rfl, ?_⟩) HX.out ?_
                rotate_left
                · intro w' hSw; go_simp
                  try with_reducible rfl
                go_simp
                refine wpAnyH_done (by kernel_rfl) ?_ _
                have hn2 : n2 ≤ 1000 := by
                  have h1 := H2.out.1
                  rw [rcs_length] at h1
                  have h2 := HOK2.out.len
                  have h3 := HOK2.out.1.2
                  omega
                have hn2m : n2 = m2 := by
                  have h1 := H2.out.1
                  rw [rcs_length] at h1
                  have h2 := HT.out.1.2
                  omega
                have HNM := Lib.hid hn2m
                have hm2 : m2 ≤ 1000 := by omega
                clear hn2m
                go_upto_region 26 with (fail)
                refine wp_region_held_drew (S := fun w' => Obj1 w' B (rtC N q A2 n2 c2) 44) (by kernel_rfl) (HO.out) (fun hHeld => ?_)
                have HX := Lib.hid hHeld
                clear hHeld
                generalize hWd : World.drew _ = W at HX ⊢
                have ht : TnO W T C L N m2 t2 := by rw [← hWd]; exact HT.out
                have hbl : Below w.heap.size w W := by rw [← hWd]; exact bl_drewN HB.out 1
                have h2 : SlR rcC W A2 n2 c2 (rcs t2) := by rw [← hWd]; exact H2.out
                clear HT HB H2 hWd HO
                have HT := Lib.hid ht
                have HB := Lib.hid hbl
                have H2 := Lib.hid h2
                clear ht hbl h2
                refine wpAnyH_take (i := 0) (v := ?_) rfl (by kernel_rfl) (by kernel_rfl) (by kernel_rfl) (fun _ _ _ h => h) (Or.inl ⟨by rfl, ?_⟩) HX.out ?_
                rotate_left
                · intro w' hSw; go_simp
                  try with_reducible rfl
                go_simp
                refine wpAnyH_take (i := 1) (v := ?_) rfl (by kernel_rfl) (by kernel_rfl) (by kernel_rfl) (fun _ _ _ h => h) (Or.inl ⟨by rfl, ?_⟩) HX.out ?_
                rotate_left
                · intro w' hSw; go_simp
                  try with_reducible rfl
                go_simp
                refine wpAnyH_take (i := 2) (v := ?_) rfl (by kernel_rfl) (by kernel_rfl) (by kernel_rfl) (fun _ _ _ h => h) (Or.inl ⟨by rfl, ?_⟩) HX.out ?_
                rotate_left
                · intro w' hSw; go_simp
                  try with_reducible rfl
                go_simp
                refine wpAnyH_take (i := 3) (v := ?_) rfl (by kernel_rfl) (by kernel_rfl) (by kernel_rfl) (fun _ _ _ h => h) (Or.inl ⟨by rfl, ?_⟩) HX.out ?_
                rotate_left
                · intro w' hSw; go_simp
                  try with_reducible rfl
                go_simp
                refine wpAnyH_take (i := 4) (v := ?_) rfl (by kernel_rfl) (by kernel_rfl) (by kernel_rfl) (fun _ _ _ h => h) (Or.inl ⟨by rfl, ?_⟩) HX.out ?_
                rotate_left
                · intro w' hSw; go_simp
                  try with_reducible rfl
                go_simp
                refine wpAnyH_take (i := 6) (v := .agg (rtC N q A2 n2 c2)) rfl (by kernel_rfl) (by kernel_rfl) (by kernel_rfl) (fun _ _ _ h => h) (Or.inl ⟨by rfl, ?_⟩) HX.out ?_
                · intro w' hSw
                  have hld := run_loadVar_row (P := Try.prog) w' B 44 44 (rtC N q A2 n2 c2) (0, 0) _ hSw Try.underlying44 rfl rfl
                  simp [execOp, Act.eval, Instr.loadAt, Instr.sureAddr, Sem.run_bind, hld, Result.andThen]
                go_simp
                refine wpAnyH_ready (rs := [5]) (by kernel_rfl) (by simp) ?_
                refine AllReadyH.cons rfl (fun K hK => ?_) AllReadyH.nil
                go_simp
                refine (tawake_w T C L N m2 t2 hN129 _ HT.out).mono ?_
                rintro e W ⟨v5, rfl, ho5, hb⟩
                have hX : Obj1 W B (rtC N q A2 n2 c2) 44 := HX.out.below hb
                have ht := HT.out.below hb
                have hbl := bl_next HB.out hb
                have h2 := H2.out.below hb
                clear HT HB H2 hb
                have HT := Lib.hid ht
                have HB := Lib.hid hbl
                have H2 := Lib.hid h2
                obtain ⟨A5, c5, rfl, hrd5⟩ := own_Rd ho5
                have HR5 := Lib.hid hrd5
                clear ht hbl h2 ho5 hrd5
                dsimp only
                refine hK.out _ _ (hX) (fun hHeld => ?_)
                clear HX hK K
                have HX := Lib.hid hHeld
                clear hHeld
                go_simp
                refine wpAnyH_ready (rs := [7]) (by kernel_rfl) (by simp) ?_
                refine AllReadyH.cons rfl (fun K hK => ?_) AllReadyH.nil
                go_simp
                refine (rawake_w N q A2 n2 c2 (rcs t2) hn2 _ H2.out).mono ?_
                rintro e W ⟨A6, c6, rfl, hrd6, hb⟩
                have hX : Obj1 W B (rtC N q A2 n2 c2) 44 := HX.out.below hb
                have ht := HT.out.below hb
                have hbl := bl_next HB.out hb
                have h2 := H2.out.below hb
                have h5 := HR5.out.below hb
                rw [rcs_names] at hrd6
                clear HT HB H2 HR5 hb
                have HT := Lib.hid ht
                have HB := Lib.hid hbl
                have H2 := Lib.hid h2
                have HR5 := Lib.hid h5
                have HR6 := Lib.hid hrd6
                clear ht hbl h2 h5 hrd6
                dsimp only
                refine hK.out _ _ (hX) (fun hHeld => ?_)
                clear HX hK K
                have HX := Lib.hid hHeld
                clear hHeld
                go_simp
                refine wpAnyH_ready (rs := [8]) (by kernel_rfl) (by simp) ?_
                refine AllReadyH.cons rfl (fun K hK => ?_) AllReadyH.nil
                go_simp
                rw [HNM.out]
                refine (intsN_w A5 A6 m2 c5 c6 t2.line HT.out.1.2 (by omega) _ HR5.out HR6.out).mono ?_
                rintro e w8 ⟨rfl, qq, hq⟩
                have hb : Below W.heap.size W w8 := by rw [hq]; exact bl_drewN (Below.refl W.heap.size W) qq
                have hX : Obj1 w8 B (rtC N q A2 n2 c2) 44 := HX.out.below hb
                have ht := HT.out.below hb
                have hbl := bl_next HB.out hb
                have h2 := H2.out.below hb
                clear HT HB H2 HR5 HR6 hb hq
                have HT := Lib.hid ht
                have HB := Lib.hid hbl
                have H2 := Lib.hid h2
                clear ht hbl h2
                dsimp only
                refine hK.out _ _ (hX) (fun hHeld => ?_)
                clear HX hK K
                have HX := Lib.hid hHeld
                clear hHeld
                go_simp
                refine wpAnyH_take (i := 9) (v := ?_) rfl (by kernel_rfl) (by kernel_rfl) (by kernel_rfl) (fun _ _ _ h => h) (Or.inl ⟨by rfl, ?_⟩) HX.out ?_
                rotate_left
                · intro w' hSw; go_simp
                  try with_reducible rfl
                go_simp
                refine wpAnyH_take (i := 10) (v := ?_) rfl (by kernel_rfl) (by kernel_rfl) (by kernel_rfl) (fun _ _ _ h => h) (Or.inl ⟨by rfl, ?_⟩) HX.out ?_
                rotate_left
                · intro w' hSw; go_simp
                  try with_reducible rfl
                go_simp
                refine wpAnyH_done (by kernel_rfl) ?_ _
                go_wp2_with fail
                go_loopw [16] (fun i wq => ∃ ci : Int, -1 ≤ ci ∧ ci ≤ 21 ∧ i = .int .i64 ci ∧ TnO wq T C L N m2 t2 ∧ Obj1 wq B (rtC N q A2 n2 c2) 44 ∧ SlR rcC wq A2 n2 c2 (rcs t2) ∧ Below w.heap.size w wq) (fun i _ => (21 - intOf i).toNat)
                case atStart => exact ⟨-1, by omega, by omega, rfl, HT.out, HX.out, H2.out, HB.out⟩
                case round =>
                  obtain ⟨ci, hci0, hci1, rfl, ht, ho, h2, hbl⟩ := hrel
                  clear HT HX H2 HB
                  have HT := Lib.hid ht
                  have HO := Lib.hid ho
                  have H2 := Lib.hid h2
                  have HB := Lib.hid hbl
                  have HDE := Lib.hid (de_eq HOK2.out HTD2.out ci)
                  clear ht ho h2 hbl
                  by_cases hmin : (N : Int) ≤ 20
                  · have hm1 : decide ((N : Int) ≤ 20) = true := decide_eq_true hmin
                    have hm2 : ¬ (20 : Int) < (N : Int) := by omega
                    by_cases hci : ci ≤ (N : Int)
                    · have hcd : decide (ci ≤ (N : Int)) = true := decide_eq_true hci
                      have hw1 : IntKind.i64.wrap (ci + 1) = ci + 1 := IntWalk.i64_in _ (by omega)
                      go_wp2_with fail
                      refine wp_region_held_drew (S := fun w' => Obj1 w' B (rtC N q A2 n2 c2) 44) (by kernel_rfl) (HO.out) (fun hHeld => ?_)
                      have HX := Lib.hid hHeld
                      clear hHeld
                      generalize hWd : World.drew _ = W at HX ⊢
                      have ht : TnO W T C L N m2 t2 := by rw [← hWd]; exact HT.out
                      have hbl : Below w.heap.size w W := by rw [← hWd]; exact bl_drewN HB.out 1
                      have h2 : SlR rcC W A2 n2 c2 (rcs t2) := by rw [← hWd]; exact H2.out
                      clear HT HB H2 hWd HO
                      have HT := Lib.hid ht
                      have HB := Lib.hid hbl
                      have H2 := Lib.hid h2
                      clear ht hbl h2
                      refine wpAnyH_take (i := 0) (v := ?_) rfl (by kernel_rfl) (by kernel_rfl) (by kernel_rfl) (fun _ _ _ h => h) (Or.inl ⟨by rfl, ?_⟩) HX.out ?_
                      rotate_left
                      · intro w' hSw; go_simp
                        try with_reducible rfl
                      go_simp
                      refine wpAnyH_take (i := 1) (v := ?_) rfl (by kernel_rfl) (by kernel_rfl) (by kernel_rfl) (fun _ _ _ h => h) (Or.inl ⟨by rfl, ?_⟩) HX.out ?_
                      rotate_left
                      · intro w' hSw; go_simp
                        try with_reducible rfl
                      go_simp
                      refine wpAnyH_take (i := 3) (v := .agg (rtC N q A2 n2 c2)) rfl (by kernel_rfl) (by kernel_rfl) (by kernel_rfl) (fun _ _ _ h => h) (Or.inl ⟨by rfl, ?_⟩) HX.out ?_
                      · intro w' hSw
                        have hld := run_loadVar_row (P := Try.prog) w' B 44 44 (rtC N q A2 n2 c2) (0, 0) _ hSw Try.underlying44 rfl rfl
                        simp [execOp, Act.eval, Instr.loadAt, Instr.sureAddr, Sem.run_bind, hld, Result.andThen]
                      go_simp
                      refine wpAnyH_take (i := 4) (v := ?_) rfl (by kernel_rfl) (by kernel_rfl) (by kernel_rfl) (fun _ _ _ h => h) (Or.inl ⟨by rfl, ?_⟩) HX.out ?_
                      rotate_left
                      · intro w' hSw; go_simp
                        try with_reducible rfl
                      go_simp
                      refine wpAnyH_ready (rs := [2]) (by kernel_rfl) (by simp) ?_
                      refine AllReadyH.cons rfl (fun K hK => ?_) AllReadyH.nil
                      go_simp
                      refine (deficit_w T C L N m2 t2 hN129 ci _ HT.out).mono ?_
                      rintro e W ⟨rfl, rfl⟩
                      have hX : Obj1 W B (rtC N q A2 n2 c2) 44 := HX.out
                      dsimp only
                      refine hK.out _ _ (hX) (fun hHeld => ?_)
                      clear HX hK K
                      have HX := Lib.hid hHeld
                      clear hHeld
                      go_simp
                      refine wpAnyH_ready (rs := [5]) (by kernel_rfl) (by simp) ?_
                      refine AllReadyH.cons rfl (fun K hK => ?_) AllReadyH.nil
                      go_simp
                      refine (rde_w N q A2 n2 c2 (rcs t2) ci hn2 _ H2.out).mono ?_
                      rintro e W ⟨rfl, hb⟩
                      rw [HDE.out]
                      have hX : Obj1 W B (rtC N q A2 n2 c2) 44 := HX.out.below hb
                      have ht := HT.out.below hb
                      have hbl := bl_next HB.out hb
                      have h2 := H2.out.below hb
                      clear HT HB H2 hb
                      have HT := Lib.hid ht
                      have HB := Lib.hid hbl
                      have H2 := Lib.hid h2
                      clear ht hbl h2
                      dsimp only
                      refine hK.out _ _ (hX) (fun hHeld => ?_)
                      clear HX hK K
                      have HX := Lib.hid hHeld
                      clear hHeld
                      go_simp
                      refine wpAnyH_take (i := 6) (v := ?_) rfl (by kernel_rfl) (by kernel_rfl) (by kernel_rfl) (fun _ _ _ h => h) (Or.inl ⟨by rfl, ?_⟩) HX.out ?_
                      rotate_left
                      · intro w' hSw; go_simp
                        try with_reducible rfl
                      go_simp
                      refine wpAnyH_done (by kernel_rfl) ?_ _
                      go_wp2_with fail
                      go_roundw
                      case rel => exact ⟨ci + 1, by omega, by omega, by go_num, HT.out, HX.out, H2.out, HB.out⟩
                      case measure => simp [intOf]; omega
                    · have hcd : decide (ci ≤ (N : Int)) = false := decide_eq_false hci
                      go_wp2_with fail
                      go_roundw
                      case measure => simp [intOf]; omega
                      case rel => exact ⟨k + 1, by omega, by go_num, t2, m2, A2, n2, c2, HT.out, HOK2.out, HTD2.out, HQ2.out, HO.out, H2.out, HGE.out, HB.out⟩
                  · have hm1 : decide ((N : Int) ≤ 20) = false := decide_eq_false hmin
                    have hm2 : (20 : Int) < (N : Int) := by omega
                    by_cases hci : ci ≤ 20
                    · have hcd : decide (ci ≤ 20) = true := decide_eq_true hci
                      have hw1 : IntKind.i64.wrap (ci + 1) = ci + 1 := IntWalk.i64_in _ (by omega)
                      go_wp2_with fail
                      refine wp_region_held_drew (S := fun w' => Obj1 w' B (rtC N q A2 n2 c2) 44) (by kernel_rfl) (HO.out) (fun hHeld => ?_)
                      have HX := Lib.hid hHeld
                      clear hHeld
                      generalize hWd : World.drew _ = W at HX ⊢
                      have ht : TnO W T C L N m2 t2 := by rw [← hWd]; exact HT.out
                      have hbl : Below w.heap.size w W := by rw [← hWd]; exact bl_drewN HB.out 1
                      have h2 : SlR rcC W A2 n2 c2 (rcs t2) := by rw [← hWd]; exact H2.out
                      clear HT HB H2 hWd HO
                      have HT := Lib.hid ht
                      have HB := Lib.hid hbl
                      have H2 := Lib.hid h2
                      clear ht hbl h2
                      refine wpAnyH_take (i := 0) (v := ?_) rfl (by kernel_rfl) (by kernel_rfl) (by kernel_rfl) (fun _ _ _ h => h) (Or.inl ⟨by rfl, ?_⟩) HX.out ?_
                      rotate_left
                      · intro w' hSw; go_simp
                        try with_reducible rfl
                      go_simp
                      refine wpAnyH_take (i := 1) (v := ?_) rfl (by kernel_rfl) (by kernel_rfl) (by kernel_rfl) (fun _ _ _ h => h) (Or.inl ⟨by rfl, ?_⟩) HX.out ?_
                      rotate_left
                      · intro w' hSw; go_simp
                        try with_reducible rfl
                      go_simp
                      refine wpAnyH_take (i := 3) (v := .agg (rtC N q A2 n2 c2)) rfl (by kernel_rfl) (by kernel_rfl) (by kernel_rfl) (fun _ _ _ h => h) (Or.inl ⟨by rfl, ?_⟩) HX.out ?_
                      · intro w' hSw
                        have hld := run_loadVar_row (P := Try.prog) w' B 44 44 (rtC N q A2 n2 c2) (0, 0) _ hSw Try.underlying44 rfl rfl
                        simp [execOp, Act.eval, Instr.loadAt, Instr.sureAddr, Sem.run_bind, hld, Result.andThen]
                      go_simp
                      refine wpAnyH_take (i := 4) (v := ?_) rfl (by kernel_rfl) (by kernel_rfl) (by kernel_rfl) (fun _ _ _ h => h) (Or.inl ⟨by rfl, ?_⟩) HX.out ?_
                      rotate_left
                      · intro w' hSw; go_simp
                        try with_reducible rfl
                      go_simp
                      refine wpAnyH_ready (rs := [2]) (by kernel_rfl) (by simp) ?_
                      refine AllReadyH.cons rfl (fun K hK => ?_) AllReadyH.nil
                      go_simp
                      refine (deficit_w T C L N m2 t2 hN129 ci _ HT.out).mono ?_
                      rintro e W ⟨rfl, rfl⟩
                      have hX : Obj1 W B (rtC N q A2 n2 c2) 44 := HX.out
                      dsimp only
                      refine hK.out _ _ (hX) (fun hHeld => ?_)
                      clear HX hK K
                      have HX := Lib.hid hHeld
                      clear hHeld
                      go_simp
                      refine wpAnyH_ready (rs := [5]) (by kernel_rfl) (by simp) ?_
                      refine AllReadyH.cons rfl (fun K hK => ?_) AllReadyH.nil
                      go_simp
                      refine (rde_w N q A2 n2 c2 (rcs t2) ci hn2 _ H2.out).mono ?_
                      rintro e W ⟨rfl, hb⟩
                      rw [HDE.out]
                      have hX : Obj1 W B (rtC N q A2 n2 c2) 44 := HX.out.below hb
                      have ht := HT.out.below hb
                      have hbl := bl_next HB.out hb
                      have h2 := H2.out.below hb
                      clear HT HB H2 hb
                      have HT := Lib.hid ht
                      have HB := Lib.hid hbl
                      have H2 := Lib.hid h2
                      clear ht hbl h2
                      dsimp only
                      refine hK.out _ _ (hX) (fun hHeld => ?_)
                      clear HX hK K
                      have HX := Lib.hid hHeld
                      clear hHeld
                      go_simp
                      refine wpAnyH_take (i := 6) (v := ?_) rfl (by kernel_rfl) (by kernel_rfl) (by kernel_rfl) (fun _ _ _ h => h) (Or.inl ⟨by rfl, ?_⟩) HX.out ?_
                      rotate_left
                      · intro w' hSw; go_simp
                        try with_reducible rfl
                      go_simp
                      refine wpAnyH_done (by kernel_rfl) ?_ _
                      go_wp2_with fail
                      go_roundw
                      case rel => exact ⟨ci + 1, by omega, by omega, by go_num, HT.out, HX.out, H2.out, HB.out⟩
                      case measure => simp [intOf]; omega
                    · have hcd : decide (ci ≤ 20) = false := decide_eq_false hci
                      go_wp2_with fail
                      go_roundw
                      case measure => simp [intOf]; omega
                      case rel => exact ⟨k + 1, by omega, by go_num, t2, m2, A2, n2, c2, HT.out, HOK2.out, HTD2.out, HQ2.out, HO.out, H2.out, HGE.out, HB.out⟩
              · by_cases hkd2 : kr = 2
                · subst hkd2
                  go_upto_region 24 with (fail)
                  go_wp2_with fail
                  refine (sleep2_w T C L N m t HOK.out y _ HTN.out).mono ?_
                  rintro e W ⟨rfl, m2, ht2, hok2, hu2⟩
                  obtain ⟨t2, ht2e⟩ : ∃ t2, t2 = slT t y := ⟨_, rfl⟩
                  rw [← ht2e] at ht2 hok2
                  have HT := Lib.hid ht2
                  have HOK2 := Lib.hid hok2
                  have HTD2 := Lib.hid (show tidy t2 by rw [ht2e]; exact HTDY.out.sl y)
                  have HQ2 := Lib.hid (show t2.q = q by rw [ht2e, slT_q]; exact HQ.out)
                  have HT2E := Lib.hid ht2e
                  have HO := Lib.hid (HOB.out.upd3 hu2 (Ne.symm hTB) (Ne.symm hCB) (Ne.symm hLB))
                  have HB := Lib.hid (bl_upd3 HBL.out hu2 hT hC hL)
                  have HS1 := Lib.hid (HSL1.out.upd3 hu2 (fun ad e => by have := HGE.out ad e; omega))
                  clear ht2 hok2 hu2 ht2e HOB HBL HSL1 HTN
                  go_upto_region 25 with (fail)
                  refine wp_region_held_drew (S := fun w' => w'.cell? ⟨b, off + k * 3 + 1, none⟩ = some (.int .i8 y)) (by kernel_rfl) (bl_keeps HB.out c1') (fun hHeld => ?_)
                  have HX := Lib.hid hHeld
                  clear hHeld
                  generalize hWd : World.drew _ = W at HX ⊢
                  have ho : Obj1 W B (rtC N q A1 n1 c1) 44 := by rw [← hWd]; exact HO.out
                  have ht : TnO W T C L N m2 t2 := by rw [← hWd]; exact HT.out
                  have hbl : Below w.heap.size w W := by rw [← hWd]; exact bl_drewN HB.out 1
                  have hs1 : SlR rcC W A1 n1 c1 (rcs t) := by rw [← hWd]; exact HS1.out
                  clear HO HT HB HS1 hWd
                  have HO := Lib.hid ho
                  have HT := Lib.hid ht
                  have HB := Lib.hid hbl
                  have HS1 := Lib.hid hs1
                  clear ho ht hbl hs1
                  refine wpAnyH_take (i := 1) (v := ?_) rfl (by kernel_rfl) (by kernel_rfl) (by kernel_rfl) (fun _ _ _ h => h) (Or.inl ⟨by rfl, ?_⟩) HX.out ?_
                  rotate_left
                  · intro w' hSw; go_simp
                    try with_reducible rfl
                  go_simp
                  refine wpAnyH_take (i := 2) (v := ?_) rfl (by kernel_rfl) (by kernel_rfl) (by kernel_rfl) (fun _ _ _ h => h) (Or.inl ⟨by rfl, ?_⟩) HX.out ?_
                  rotate_left
                  · intro w' hSw; go_simp
                    try with_reducible rfl
                  go_simp
                  refine wpAnyH_take (i := 3) (v := ?_) rfl (by kernel_rfl) (by kernel_rfl) (by kernel_rfl) (fun _ _ _ h => h) (Or.inl ⟨by rfl, ?_⟩) HX.out ?_
                  rotate_left
                  · intro w' hSw; go_simp
                    try with_reducible rfl
                  go_simp
                  refine wpAnyH_take (i := 4) (v := ?_) rfl (by kernel_rfl) (by kernel_rfl) (by kernel_rfl) (fun _ _ _ h => h) (Or.inl ⟨by rfl, ?_⟩) HX.out ?_
                  rotate_left
                  · intro w' hSw; go_simp
                    try with_reducible rfl
                  go_simp
                  refine wpAnyH_take (i := 5) (v := ?_) rfl (by kernel_rfl) (by kernel_rfl) (by kernel_rfl) (fun _ _ _ h => h) (Or.inl ⟨by rfl, ?_⟩) HX.out ?_
                  rotate_left
                  · intro w' hSw; go_simp
                    try with_reducible rfl
                  go_simp
                  refine wpAnyH_take (i := 6) (v := ?_) rfl (by kernel_rfl) (by kernel_rfl) (by kernel_rfl) (fun _ _ _ h => h) (Or.inl ⟨by rfl, ?_⟩) HX.out ?_
                  rotate_left
                  · intro w' hSw; go_simp
                    try with_reducible rfl
                  go_simp
                  refine wpAnyH_ready (rs := [0]) (by kernel_rfl) (by simp) ?_
                  refine AllReadyH.cons rfl (fun K hK => ?_) AllReadyH.nil
                  refine gwanted rfl ?_
                  refine wp_load_row 44 (.tmp 9) rfl B rfl 44 (rtC N q A1 n1 c1) (0, 0) _ HO.out Try.underlying44 rfl rfl ?_
                  have hX := HX.out
                  refine hK.out _ _ (hX) (fun hHeld => ?_)
                  clear HX hK K
                  have HX := Lib.hid hHeld
                  clear hHeld
                  go_simp
                  refine wpAnyH_ready (rs := [7]) (by kernel_rfl) (by simp) ?_
                  refine AllReadyH.cons rfl (fun K hK => ?_) AllReadyH.nil
                  go_simp
                  refine (rsleep2_w N q A1 n1 c1 t HOK.out y hn1 _ HS1.out).mono ?_
                  rintro e W ⟨A2, n2, c2, rfl, h2, hor, hb⟩
                  rw [← HT2E.out] at h2
                  have hX : (fun w' : World => w'.cell? ⟨b, off + k * 3 + 1, none⟩ = some (.int .i8 y)) W := bl_keeps hb HX.out
                  have ho := HO.out.below hb
                  have ht := HT.out.below hb
                  have hbl := bl_next HB.out hb
                  have hge : ∀ ad, A2 = some ad → B < ad.block := fun ad e => by
                    rcases hor with h' | h'
                    · exact HGE.out ad (by rw [← h']; exact e)
                    · exact Nat.lt_of_lt_of_le HO.out.lt (h' ad e)
                  clear HO HT HB HS1 HGE hb hor
                  have HO := Lib.hid ho
                  have HT := Lib.hid ht
                  have HB := Lib.hid hbl
                  have H2 := Lib.hid h2
                  have HGE := Lib.hid hge
                  clear ho ht hbl h2 hge
                  (try dsimp only)
                  refine hK.out _ _ (hX) (fun hHeld => ?_)
                  clear HX hK K
                  have HX := Lib.hid hHeld
                  clear hHeld
                  go_simp
                  refine wpAnyH_take (i := 8) (v := ?_) rfl (by kernel_rfl) (by kernel_rfl) (by kernel_rfl) (fun _ _ _ h => h) (Or.inl ⟨by rfl, ?_⟩) HX.out ?_
                  rotate_left
                  · intro w' hSw; go_simp
                    try with_reducible rfl
                  go_simp
                  refine wpAnyH_take (i := 9) (v := ?_) rfl (by kernel_rfl) (by kernel_rfl) (by kernel_rfl) (fun _ _ _ h => h) (Or.inl ⟨by rfl, ?_⟩) HX.out ?_
                  rotate_left
                  · intro w' hSw; go_simp
                    try with_reducible rfl
                  go_simp
                  refine wpAnyH_take (i := 10) (v := ?_) rfl (by kernel_rfl) (by kernel_rfl) (by kernel_rfl) (fun _ _ _ h => h) (Or.inl ⟨by rfl, ?_⟩) HX.out ?_
                  rotate_left
                  · intro w' hSw; go_simp
                    try with_reducible rfl
                  go_simp
                  refine wpAnyH_ready (rs := [11]) (by kernel_rfl) (by simp) ?_
                  refine AllReadyH.cons rfl (fun K hK => ?_) AllReadyH.nil
                  refine gwanted rfl ?_
                  refine wp_storeO 44 (.tmp 9) (.tmp 151) rfl B 44 (rtC N q A1 n1 c1) (rtC N q A2 n2 c2) rfl rfl HO.out rfl rfl (by simp [rtC, Value.oneCell']) ?_
                  intro W hob hu
                  have hX : (fun w' : World => w'.cell? ⟨b, off + k * 3 + 1, none⟩ = some (.int .i8 y)) W := keep_upd hu HX.out (by show b ≠ B; omega)
                  have hbl := bl_upd HB.out hu hBw
                  have h2 := H2.out.upd hu (fun ad e => Nat.ne_of_gt (HGE.out ad e))
                  have ht := HT.out.upd hu hTB hCB hLB
                  clear HB H2 HT HO hu
                  have HB := Lib.hid hbl
                  have H2 := Lib.hid h2
                  have HT := Lib.hid ht
                  have HO := Lib.hid hob
                  clear hbl h2 ht hob
                  refine hK.out _ _ (hX) (fun hHeld => ?_)
                  clear HX hK K
                  have HX := Lib.hid hHeld
                  clear hHeld
                  go_simp
                  refine wpAnyH_take (i := 12) (v := ?_) rfl (by kernel_rfl) (by kernel_rfl) (by kernel_rfl) (fun _ _ _ h => h) (Or.inl ⟨by rfl, ?_⟩) HX.out ?_
                  rotate_left
                  · intro w' hSw; go_simp
                    try with_reducible rfl
                  go_simp
                  refine wpAnyH_done (by kernel_rfl) ?_ _
                  have hn2 : n2 ≤ 1000 := by
                    have h1 := H2.out.1
                    rw [rcs_length] at h1
                    have h2 := HOK2.out.len
                    have h3 := HOK2.out.1.2
                    omega
                  have hn2m : n2 = m2 := by
                    have h1 := H2.out.1
                    rw [rcs_length] at h1
                    have h2 := HT.out.1.2
                    omega
                  have HNM := Lib.hid hn2m
                  have hm2 : m2 ≤ 1000 := by omega
                  clear hn2m
                  go_upto_region 26 with (fail)
                  refine wp_region_held_drew (S := fun w' => Obj1 w' B (rtC N q A2 n2 c2) 44) (by kernel_rfl) (HO.out) (fun hHeld => ?_)
                  have HX := Lib.hid hHeld
                  clear hHeld
                  generalize hWd : World.drew _ = W at HX ⊢
                  have ht : TnO W T C L N m2 t2 := by rw [← hWd]; exact HT.out
                  have hbl : Below w.heap.size w W := by rw [← hWd]; exact bl_drewN HB.out 1
                  have h2 : SlR rcC W A2 n2 c2 (rcs t2) := by rw [← hWd]; exact H2.out
                  clear HT HB H2 hWd HO
                  have HT := Lib.hid ht
                  have HB := Lib.hid hbl
                  have H2 := Lib.hid h2
                  clear ht hbl h2
                  refine wpAnyH_take (i := 0) (v := ?_) rfl (by kernel_rfl) (by kernel_rfl) (by kernel_rfl) (fun _ _ _ h => h) (Or.inl ⟨by rfl, ?_⟩) HX.out ?_
                  rotate_left
                  · intro w' hSw; go_simp
                    try with_reducible rfl
                  go_simp
                  refine wpAnyH_take (i := 1) (v := ?_) rfl (by kernel_rfl) (by kernel_rfl) (by kernel_rfl) (fun _ _ _ h => h) (Or.inl ⟨by rfl, ?_⟩) HX.out ?_
                  rotate_left
                  · intro w' hSw; go_simp
                    try with_reducible rfl
                  go_simp
                  refine wpAnyH_take (i := 2) (v := ?_) rfl (by kernel_rfl) (by kernel_rfl) (by kernel_rfl) (fun _ _ _ h => h) (Or.inl ⟨by rfl, ?_⟩) HX.out ?_
                  rotate_left
                  · intro w' hSw; go_simp
                    try with_reducible rfl
                  go_simp
                  refine wpAnyH_take (i := 3) (v := ?_) rfl (by kernel_rfl) (by kernel_rfl) (by kernel_rfl) (fun _ _ _ h => h) (Or.inl ⟨by rfl, ?_⟩) HX.out ?_
                  rotate_left
                  · intro w' hSw; go_simp
                    try with_reducible rfl
                  go_simp
                  refine wpAnyH_take (i := 4) (v := ?_) rfl (by kernel_rfl) (by kernel_rfl) (by kernel_rfl) (fun _ _ _ h => h) (Or.inl ⟨by rfl, ?_⟩) HX.out ?_
                  rotate_left
                  · intro w' hSw; go_simp
                    try with_reducible rfl
                  go_simp
                  refine wpAnyH_take (i := 6) (v := .agg (rtC N q A2 n2 c2)) rfl (by kernel_rfl) (by kernel_rfl) (by kernel_rfl) (fun _ _ _ h => h) (Or.inl ⟨by rfl, ?_⟩) HX.out ?_
                  · intro w' hSw
                    have hld := run_loadVar_row (P := Try.prog) w' B 44 44 (rtC N q A2 n2 c2) (0, 0) _ hSw Try.underlying44 rfl rfl
                    simp [execOp, Act.eval, Instr.loadAt, Instr.sureAddr, Sem.run_bind, hld, Result.andThen]
                  go_simp
                  refine wpAnyH_ready (rs := [5]) (by kernel_rfl) (by simp) ?_
                  refine AllReadyH.cons rfl (fun K hK => ?_) AllReadyH.nil
                  go_simp
                  refine (tawake_w T C L N m2 t2 hN129 _ HT.out).mono ?_
                  rintro e W ⟨v5, rfl, ho5, hb⟩
                  have hX : Obj1 W B (rtC N q A2 n2 c2) 44 := HX.out.below hb
                  have ht := HT.out.below hb
                  have hbl := bl_next HB.out hb
                  have h2 := H2.out.below hb
                  clear HT HB H2 hb
                  have HT := Lib.hid ht
                  have HB := Lib.hid hbl
                  have H2 := Lib.hid h2
                  obtain ⟨A5, c5, rfl, hrd5⟩ := own_Rd ho5
                  have HR5 := Lib.hid hrd5
                  clear ht hbl h2 ho5 hrd5
                  dsimp only
                  refine hK.out _ _ (hX) (fun hHeld => ?_)
                  clear HX hK K
                  have HX := Lib.hid hHeld
                  clear hHeld
                  go_simp
                  refine wpAnyH_ready (rs := [7]) (by kernel_rfl) (by simp) ?_
                  refine AllReadyH.cons rfl (fun K hK => ?_) AllReadyH.nil
                  go_simp
                  refine (rawake_w N q A2 n2 c2 (rcs t2) hn2 _ H2.out).mono ?_
                  rintro e W ⟨A6, c6, rfl, hrd6, hb⟩
                  have hX : Obj1 W B (rtC N q A2 n2 c2) 44 := HX.out.below hb
                  have ht := HT.out.below hb
                  have hbl := bl_next HB.out hb
                  have h2 := H2.out.below hb
                  have h5 := HR5.out.below hb
                  rw [rcs_names] at hrd6
                  clear HT HB H2 HR5 hb
                  have HT := Lib.hid ht
                  have HB := Lib.hid hbl
                  have H2 := Lib.hid h2
                  have HR5 := Lib.hid h5
                  have HR6 := Lib.hid hrd6
                  clear ht hbl h2 h5 hrd6
                  dsimp only
                  refine hK.out _ _ (hX) (fun hHeld => ?_)
                  clear HX hK K
                  have HX := Lib.hid hHeld
                  clear hHeld
                  go_simp
                  refine wpAnyH_ready (rs := [8]) (by kernel_rfl) (by simp) ?_
                  refine AllReadyH.cons rfl (fun K hK => ?_) AllReadyH.nil
                  go_simp
                  rw [HNM.out]
                  refine (intsN_w A5 A6 m2 c5 c6 t2.line HT.out.1.2 (by omega) _ HR5.out HR6.out).mono ?_
                  rintro e w8 ⟨rfl, qq, hq⟩
                  have hb : Below W.heap.size W w8 := by rw [hq]; exact bl_drewN (Below.refl W.heap.size W) qq
                  have hX : Obj1 w8 B (rtC N q A2 n2 c2) 44 := HX.out.below hb
                  have ht := HT.out.below hb
                  have hbl := bl_next HB.out hb
                  have h2 := H2.out.below hb
                  clear HT HB H2 HR5 HR6 hb hq
                  have HT := Lib.hid ht
                  have HB := Lib.hid hbl
                  have H2 := Lib.hid h2
                  clear ht hbl h2
                  dsimp only
                  refine hK.out _ _ (hX) (fun hHeld => ?_)
                  clear HX hK K
                  have HX := Lib.hid hHeld
                  clear hHeld
                  go_simp
                  refine wpAnyH_take (i := 9) (v := ?_) rfl (by kernel_rfl) (by kernel_rfl) (by kernel_rfl) (fun _ _ _ h => h) (Or.inl ⟨by rfl, ?_⟩) HX.out ?_
                  rotate_left
                  · intro w' hSw; go_simp
                    try with_reducible rfl
                  go_simp
                  refine wpAnyH_take (i := 10) (v := ?_) rfl (by kernel_rfl) (by kernel_rfl) (by kernel_rfl) (fun _ _ _ h => h) (Or.inl ⟨by rfl, ?_⟩) HX.out ?_
                  rotate_left
                  · intro w' hSw; go_simp
                    try with_reducible rfl
                  go_simp
                  refine wpAnyH_done (by kernel_rfl) ?_ _
                  go_wp2_with fail
                  go_loopw [16] (fun i wq => ∃ ci : Int, -1 ≤ ci ∧ ci ≤ 21 ∧ i = .int .i64 ci ∧ TnO wq T C L N m2 t2 ∧ Obj1 wq B (rtC N q A2 n2 c2) 44 ∧ SlR rcC wq A2 n2 c2 (rcs t2) ∧ Below w.heap.size w wq) (fun i _ => (21 - intOf i).toNat)
                  case atStart => exact ⟨-1, by omega, by omega, rfl, HT.out, HX.out, H2.out, HB.out⟩
                  case round =>
                    obtain ⟨ci, hci0, hci1, rfl, ht, ho, h2, hbl⟩ := hrel
                    clear HT HX H2 HB
                    have HT := Lib.hid ht
                    have HO := Lib.hid ho
                    have H2 := Lib.hid h2
                    have HB := Lib.hid hbl
                    have HDE := Lib.hid (de_eq HOK2.out HTD2.out ci)
                    clear ht ho h2 hbl
                    by_cases hmin : (N : Int) ≤ 20
                    · have hm1 : decide ((N : Int) ≤ 20) = true := decide_eq_true hmin
                      have hm2 : ¬ (20 : Int) < (N : Int) := by omega
                      by_cases hci : ci ≤ (N : Int)
                      · have hcd : decide (ci ≤ (N : Int)) = true := decide_eq_true hci
                        have hw1 : IntKind.i64.wrap (ci + 1) = ci + 1 := IntWalk.i64_in _ (by omega)
                        go_wp2_with fail
                        refine wp_region_held_drew (S := fun w' => Obj1 w' B (rtC N q A2 n2 c2) 44) (by kernel_rfl) (HO.out) (fun hHeld => ?_)
                        have HX := Lib.hid hHeld
                        clear hHeld
                        generalize hWd : World.drew _ = W at HX ⊢
                        have ht : TnO W T C L N m2 t2 := by rw [← hWd]; exact HT.out
                        have hbl : Below w.heap.size w W := by rw [← hWd]; exact bl_drewN HB.out 1
                        have h2 : SlR rcC W A2 n2 c2 (rcs t2) := by rw [← hWd]; exact H2.out
                        clear HT HB H2 hWd HO
                        have HT := Lib.hid ht
                        have HB := Lib.hid hbl
                        have H2 := Lib.hid h2
                        clear ht hbl h2
                        refine wpAnyH_take (i := 0) (v := ?_) rfl (by kernel_rfl) (by kernel_rfl) (by kernel_rfl) (fun _ _ _ h => h) (Or.inl ⟨by rfl, ?_⟩) HX.out ?_
                        rotate_left
                        · intro w' hSw; go_simp
                          try with_reducible rfl
                        go_simp
                        refine wpAnyH_take (i := 1) (v := ?_) rfl (by kernel_rfl) (by kernel_rfl) (by kernel_rfl) (fun _ _ _ h => h) (Or.inl ⟨by rfl, ?_⟩) HX.out ?_
                        rotate_left
                        · intro w' hSw; go_simp
                          try with_reducible rfl
                        go_simp
                        refine wpAnyH_take (i := 3) (v := .agg (rtC N q A2 n2 c2)) rfl (by kernel_rfl) (by kernel_rfl) (by kernel_rfl) (fun _ _ _ h => h) (Or.inl ⟨by rfl, ?_⟩) HX.out ?_
                        · intro w' hSw
                          have hld := run_loadVar_row (P := Try.prog) w' B 44 44 (rtC N q A2 n2 c2) (0, 0) _ hSw Try.underlying44 rfl rfl
                          simp [execOp, Act.eval, Instr.loadAt, Instr.sureAddr, Sem.run_bind, hld, Result.andThen]
                        go_simp
                        refine wpAnyH_take (i := 4) (v := ?_) rfl (by kernel_rfl) (by kernel_rfl) (by kernel_rfl) (fun _ _ _ h => h) (Or.inl ⟨by rfl, ?_⟩) HX.out ?_
                        rotate_left
                        · intro w' hSw; go_simp
                          try with_reducible rfl
                        go_simp
                        refine wpAnyH_ready (rs := [2]) (by kernel_rfl) (by simp) ?_
                        refine AllReadyH.cons rfl (fun K hK => ?_) AllReadyH.nil
                        go_simp
                        refine (deficit_w T C L N m2 t2 hN129 ci _ HT.out).mono ?_
                        rintro e W ⟨rfl, rfl⟩
                        have hX : Obj1 W B (rtC N q A2 n2 c2) 44 := HX.out
                        dsimp only
                        refine hK.out _ _ (hX) (fun hHeld => ?_)
                        clear HX hK K
                        have HX := Lib.hid hHeld
                        clear hHeld
                        go_simp
                        refine wpAnyH_ready (rs := [5]) (by kernel_rfl) (by simp) ?_
                        refine AllReadyH.cons rfl (fun K hK => ?_) AllReadyH.nil
                        go_simp
                        refine (rde_w N q A2 n2 c2 (rcs t2) ci hn2 _ H2.out).mono ?_
                        rintro e W ⟨rfl, hb⟩
                        rw [HDE.out]
                        have hX : Obj1 W B (rtC N q A2 n2 c2) 44 := HX.out.below hb
                        have ht := HT.out.below hb
                        have hbl := bl_next HB.out hb
                        have h2 := H2.out.below hb
                        clear HT HB H2 hb
                        have HT := Lib.hid ht
                        have HB := Lib.hid hbl
                        have H2 := Lib.hid h2
                        clear ht hbl h2
                        dsimp only
                        refine hK.out _ _ (hX) (fun hHeld => ?_)
                        clear HX hK K
                        have HX := Lib.hid hHeld
                        clear hHeld
                        go_simp
                        refine wpAnyH_take (i := 6) (v := ?_) rfl (by kernel_rfl) (by kernel_rfl) (by kernel_rfl) (fun _ _ _ h => h) (Or.inl ⟨by rfl, ?_⟩) HX.out ?_
                        rotate_left
                        · intro w' hSw; go_simp
                          try with_reducible rfl
                        go_simp
                        refine wpAnyH_done (by kernel_rfl) ?_ _
                        go_wp2_with fail
                        go_roundw
                        case rel => exact ⟨ci + 1, by omega, by omega, by go_num, HT.out, HX.out, H2.out, HB.out⟩
                        case measure => simp [intOf]; omega
                      · have hcd : decide (ci ≤ (N : Int)) = false := decide_eq_false hci
                        go_wp2_with fail
                        go_roundw
                        case measure => simp [intOf]; omega
                        case rel => exact ⟨k + 1, by omega, by go_num, t2, m2, A2, n2, c2, HT.out, HOK2.out, HTD2.out, HQ2.out, HO.out, H2.out, HGE.out, HB.out⟩
                    · have hm1 : decide ((N : Int) ≤ 20) = false := decide_eq_false hmin
                      have hm2 : (20 : Int) < (N : Int) := by omega
                      by_cases hci : ci ≤ 20
                      · have hcd : decide (ci ≤ 20) = true := decide_eq_true hci
                        have hw1 : IntKind.i64.wrap (ci + 1) = ci + 1 := IntWalk.i64_in _ (by omega)
                        go_wp2_with fail
                        refine wp_region_held_drew (S := fun w' => Obj1 w' B (rtC N q A2 n2 c2) 44) (by kernel_rfl) (HO.out) (fun hHeld => ?_)
                        have HX := Lib.hid hHeld
                        clear hHeld
                        generalize hWd : World.drew _ = W at HX ⊢
                        have ht : TnO W T C L N m2 t2 := by rw [← hWd]; exact HT.out
                        have hbl : Below w.heap.size w W := by rw [← hWd]; exact bl_drewN HB.out 1
                        have h2 : SlR rcC W A2 n2 c2 (rcs t2) := by rw [← hWd]; exact H2.out
                        clear HT HB H2 hWd HO
                        have HT := Lib.hid ht
                        have HB := Lib.hid hbl
                        have H2 := Lib.hid h2
                        clear ht hbl h2
                        refine wpAnyH_take (i := 0) (v := ?_) rfl (by kernel_rfl) (by kernel_rfl) (by kernel_rfl) (fun _ _ _ h => h) (Or.inl ⟨by rfl, ?_⟩) HX.out ?_
                        rotate_left
                        · intro w' hSw; go_simp
                          try with_reducible rfl
                        go_simp
                        refine wpAnyH_take (i := 1) (v := ?_) rfl (by kernel_rfl) (by kernel_rfl) (by kernel_rfl) (fun _ _ _ h => h) (Or.inl ⟨by rfl, ?_⟩) HX.out ?_
                        rotate_left
                        · intro w' hSw; go_simp
                          try with_reducible rfl
                        go_simp
                        refine wpAnyH_take (i := 3) (v := .agg (rtC N q A2 n2 c2)) rfl (by kernel_rfl) (by kernel_rfl) (by kernel_rfl) (fun _ _ _ h => h) (Or.inl ⟨by rfl, ?_⟩) HX.out ?_
                        · intro w' hSw
                          have hld := run_loadVar_row (P := Try.prog) w' B 44 44 (rtC N q A2 n2 c2) (0, 0) _ hSw Try.underlying44 rfl rfl
                          simp [execOp, Act.eval, Instr.loadAt, Instr.sureAddr, Sem.run_bind, hld, Result.andThen]
                        go_simp
                        refine wpAnyH_take (i := 4) (v := ?_) rfl (by kernel_rfl) (by kernel_rfl) (by kernel_rfl) (fun _ _ _ h => h) (Or.inl ⟨by rfl, ?_⟩) HX.out ?_
                        rotate_left
                        · intro w' hSw; go_simp
                          try with_reducible rfl
                        go_simp
                        refine wpAnyH_ready (rs := [2]) (by kernel_rfl) (by simp) ?_
                        refine AllReadyH.cons rfl (fun K hK => ?_) AllReadyH.nil
                        go_simp
                        refine (deficit_w T C L N m2 t2 hN129 ci _ HT.out).mono ?_
                        rintro e W ⟨rfl, rfl⟩
                        have hX : Obj1 W B (rtC N q A2 n2 c2) 44 := HX.out
                        dsimp only
                        refine hK.out _ _ (hX) (fun hHeld => ?_)
                        clear HX hK K
                        have HX := Lib.hid hHeld
                        clear hHeld
                        go_simp
                        refine wpAnyH_ready (rs := [5]) (by kernel_rfl) (by simp) ?_
                        refine AllReadyH.cons rfl (fun K hK => ?_) AllReadyH.nil
                        go_simp
                        refine (rde_w N q A2 n2 c2 (rcs t2) ci hn2 _ H2.out).mono ?_
                        rintro e W ⟨rfl, hb⟩
                        rw [HDE.out]
                        have hX : Obj1 W B (rtC N q A2 n2 c2) 44 := HX.out.below hb
                        have ht := HT.out.below hb
                        have hbl := bl_next HB.out hb
                        have h2 := H2.out.below hb
                        clear HT HB H2 hb
                        have HT := Lib.hid ht
                        have HB := Lib.hid hbl
                        have H2 := Lib.hid h2
                        clear ht hbl h2
                        dsimp only
                        refine hK.out _ _ (hX) (fun hHeld => ?_)
                        clear HX hK K
                        have HX := Lib.hid hHeld
                        clear hHeld
                        go_simp
                        refine wpAnyH_take (i := 6) (v := ?_) rfl (by kernel_rfl) (by kernel_rfl) (by kernel_rfl) (fun _ _ _ h => h) (Or.inl ⟨by rfl, ?_⟩) HX.out ?_
                        rotate_left
                        · intro w' hSw; go_simp
                          try with_reducible rfl
                        go_simp
                        refine wpAnyH_done (by kernel_rfl) ?_ _
                        go_wp2_with fail
                        go_roundw
                        case rel => exact ⟨ci + 1, by omega, by omega, by go_num, HT.out, HX.out, H2.out, HB.out⟩
                        case measure => simp [intOf]; omega
                      · have hcd : decide (ci ≤ 20) = false := decide_eq_false hci
                        go_wp2_with fail
                        go_roundw
                        case measure => simp [intOf]; omega
                        case rel => exact ⟨k + 1, by omega, by go_num, t2, m2, A2, n2, c2, HT.out, HOK2.out, HTD2.out, HQ2.out, HO.out, H2.out, HGE.out, HB.out⟩
                · have k0 : ¬ (kr : Int) = 0 := by omega
                  have k1 : ¬ (kr : Int) = 1 := by omega
                  have k2 : ¬ (kr : Int) = 2 := by omega
                  have k0d : decide ((kr : Int) = 0) = false := decide_eq_false k0
                  have k1d : decide ((kr : Int) = 1) = false := decide_eq_false k1
                  have k2d : decide ((kr : Int) = 2) = false := decide_eq_false k2
                  have k0b : ((kr : Int) == 0) = false := by simp; omega
                  have k1b : ((kr : Int) == 1) = false := by simp; omega
                  have k2b : ((kr : Int) == 2) = false := by simp; omega
                  go_upto_region 14 with (fail)
                  go_wp2_with fail
                  refine (pickE_w T C L N m t HOK.out a ma da lh HSLH.out.1 _ HTN.out (fun w' hu => HSLH.out.heads (Nat.le_refl _) ⟨hT, hC, hL⟩ HBL.out hu)).mono ?_
                  rintro e W ⟨t2, r, m2, hpk, rfl, ht2, hok2, hu2⟩
                  have HT := Lib.hid ht2
                  have HOK2 := Lib.hid hok2
                  have HTD2 := Lib.hid (hpk.tidy HOK.out HTDY.out)
                  have HQ2 := Lib.hid (show t2.q = q by rw [hpk.q]; exact HQ.out)
                  have HRP := Lib.hid (show RPk (hdOf lh) q (rcs t) (rcs t2) r by
                    have := hpk.rpk (fun c => by unfold hdOf; split <;> omega) HOK.out
                    rwa [HQ.out] at this)
                  have HO := Lib.hid (HOB.out.upd3 hu2 (Ne.symm hTB) (Ne.symm hCB) (Ne.symm hLB))
                  have HB := Lib.hid (bl_upd3 HBL.out hu2 hT hC hL)
                  have HS1 := Lib.hid (HSL1.out.upd3 hu2 (fun ad e => by have := HGE.out ad e; omega))
                  clear ht2 hok2 hu2 hpk HOB HBL HSL1 HTN
                  cases r with
                  | none =>
                    simp only [pickV]
                    go_upto_region 16 with (fail)
                    refine wp_region_held_drew (S := fun w' => w'.cell? ⟨b, off + k * 3 + 2, none⟩ = some (.slice a ma da)) (by kernel_rfl) (bl_keeps HB.out c2') (fun hHeld => ?_)
                    have HX := Lib.hid hHeld
                    clear hHeld
                    generalize hWd : World.drew _ = W at HX ⊢
                    have ho : Obj1 W B (rtC N q A1 n1 c1) 44 := by rw [← hWd]; exact HO.out
                    have ht : TnO W T C L N m2 t2 := by rw [← hWd]; exact HT.out
                    have hbl : Below w.heap.size w W := by rw [← hWd]; exact bl_drewN HB.out 1
                    have hs1 : SlR rcC W A1 n1 c1 (rcs t) := by rw [← hWd]; exact HS1.out
                    clear HO HT HB HS1 hWd
                    have HO := Lib.hid ho
                    have HT := Lib.hid ht
                    have HB := Lib.hid hbl
                    have HS1 := Lib.hid hs1
                    clear ho ht hbl hs1
                    refine wpAnyH_take (i := 1) (v := ?_) rfl (by kernel_rfl) (by kernel_rfl) (by kernel_rfl) (fun _ _ _ h => h) (Or.inl ⟨by rfl, ?_⟩) HX.out ?_
                    rotate_left
                    · intro w' hSw; go_simp
                      try with_reducible rfl
                    go_simp
                    refine wpAnyH_take (i := 2) (v := ?_) rfl (by kernel_rfl) (by kernel_rfl) (by kernel_rfl) (fun _ _ _ h => h) (Or.inl ⟨by rfl, ?_⟩) HX.out ?_
                    rotate_left
                    · intro w' hSw; go_simp
                      try with_reducible rfl
                    go_simp
                    refine wpAnyH_take (i := 3) (v := ?_) rfl (by kernel_rfl) (by kernel_rfl) (by kernel_rfl) (fun _ _ _ h => h) (Or.inl ⟨by rfl, ?_⟩) HX.out ?_
                    rotate_left
                    · intro w' hSw; go_simp
                      try with_reducible rfl
                    go_simp
                    refine wpAnyH_take (i := 4) (v := ?_) rfl (by kernel_rfl) (by kernel_rfl) (by kernel_rfl) (fun _ _ _ h => h) (Or.inl ⟨by rfl, ?_⟩) HX.out ?_
                    rotate_left
                    · intro w' hSw; go_simp
                      try with_reducible rfl
                    go_simp
                    refine wpAnyH_take (i := 5) (v := ?_) rfl (by kernel_rfl) (by kernel_rfl) (by kernel_rfl) (fun _ _ _ h => h) (Or.inl ⟨by rfl, ?_⟩) HX.out ?_
                    rotate_left
                    · intro w' hSw; go_simp
                      try with_reducible rfl
                    go_simp
                    refine wpAnyH_ready (rs := [0]) (by kernel_rfl) (by simp) ?_
                    refine AllReadyH.cons rfl (fun K hK => ?_) AllReadyH.nil
                    refine gwanted rfl ?_
                    refine wp_load_row 44 (.tmp 9) rfl B rfl 44 (rtC N q A1 n1 c1) (0, 0) _ HO.out Try.underlying44 rfl rfl ?_
                    have hX := HX.out
                    refine hK.out _ _ (hX) (fun hHeld => ?_)
                    clear HX hK K
                    have HX := Lib.hid hHeld
                    clear hHeld
                    go_simp
                    refine wpAnyH_ready (rs := [6]) (by kernel_rfl) (by simp) ?_
                    refine AllReadyH.cons rfl (fun K hK => ?_) AllReadyH.nil
                    go_simp
                    refine (rpick_w N q A1 n1 c1 (rcs t) hn1 hqb HRC.out a ma da lh HSLH.out.1 _ HS1.out (RdI.of (by have := HSLH.out.1; have := HSLH.out.2.1; have := HSLH.out.2.2.1; omega) (Rd.below HSLH.out.2.2.2.1 HB.out))).mono ?_
                    rintro e W ⟨l', r', hpk', A2, n2, c2, rfl, h2, hor, hb⟩
                    obtain ⟨rfl, rfl⟩ := RPk.det HRP.out hpk'
                    clear hpk'
                    simp only [rV]
                    have hX : (fun w' : World => w'.cell? ⟨b, off + k * 3 + 2, none⟩ = some (.slice a ma da)) W := bl_keeps hb HX.out
                    have ho := HO.out.below hb
                    have ht := HT.out.below hb
                    have hbl := bl_next HB.out hb
                    have hge : ∀ ad, A2 = some ad → B < ad.block := fun ad e => by
                      rcases hor with h' | h'
                      · exact HGE.out ad (by rw [← h']; exact e)
                      · exact Nat.lt_of_lt_of_le HO.out.lt (h' ad e)
                    clear HO HT HB HS1 HGE hb hor
                    have HO := Lib.hid ho
                    have HT := Lib.hid ht
                    have HB := Lib.hid hbl
                    have H2 := Lib.hid h2
                    have HGE := Lib.hid hge
                    clear ho ht hbl h2 hge
                    (try dsimp only)
                    refine hK.out _ _ (hX) (fun hHeld => ?_)
                    clear HX hK K
                    have HX := Lib.hid hHeld
                    clear hHeld
                    go_simp
                    refine wpAnyH_take (i := 7) (v := ?_) rfl (by kernel_rfl) (by kernel_rfl) (by kernel_rfl) (fun _ _ _ h => h) (Or.inl ⟨by rfl, ?_⟩) HX.out ?_
                    rotate_left
                    · intro w' hSw; go_simp
                      try with_reducible rfl
                    go_simp
                    refine wpAnyH_take (i := 8) (v := ?_) rfl (by kernel_rfl) (by kernel_rfl) (by kernel_rfl) (fun _ _ _ h => h) (Or.inl ⟨by rfl, ?_⟩) HX.out ?_
                    rotate_left
                    · intro w' hSw; go_simp
                      try with_reducible rfl
                    go_simp
                    refine wpAnyH_take (i := 9) (v := ?_) rfl (by kernel_rfl) (by kernel_rfl) (by kernel_rfl) (fun _ _ _ h => h) (Or.inl ⟨by rfl, ?_⟩) HX.out ?_
                    rotate_left
                    · intro w' hSw; go_simp
                      try with_reducible rfl
                    go_simp
                    refine wpAnyH_ready (rs := [10]) (by kernel_rfl) (by simp) ?_
                    refine AllReadyH.cons rfl (fun K hK => ?_) AllReadyH.nil
                    refine gwanted rfl ?_
                    refine wp_storeO 44 (.tmp 9) (.tmp 98) rfl B 44 (rtC N q A1 n1 c1) (rtC N q A2 n2 c2) rfl rfl HO.out rfl rfl (by simp [rtC, Value.oneCell']) ?_
                    intro W hob hu
                    have hX : (fun w' : World => w'.cell? ⟨b, off + k * 3 + 2, none⟩ = some (.slice a ma da)) W := keep_upd hu HX.out (by show b ≠ B; omega)
                    have hbl := bl_upd HB.out hu hBw
                    have h2 := H2.out.upd hu (fun ad e => Nat.ne_of_gt (HGE.out ad e))
                    have ht := HT.out.upd hu hTB hCB hLB
                    clear HB H2 HT HO hu
                    have HB := Lib.hid hbl
                    have H2 := Lib.hid h2
                    have HT := Lib.hid ht
                    have HO := Lib.hid hob
                    clear hbl h2 ht hob
                    refine hK.out _ _ (hX) (fun hHeld => ?_)
                    clear HX hK K
                    have HX := Lib.hid hHeld
                    clear hHeld
                    go_simp
                    refine wpAnyH_take (i := 11) (v := ?_) rfl (by kernel_rfl) (by kernel_rfl) (by kernel_rfl) (fun _ _ _ h => h) (Or.inl ⟨by rfl, ?_⟩) HX.out ?_
                    rotate_left
                    · intro w' hSw; go_simp
                      try with_reducible rfl
                    go_simp
                    refine wpAnyH_done (by kernel_rfl) ?_ _
                    have hn2 : n2 ≤ 1000 := by
                      have h1 := H2.out.1
                      rw [rcs_length] at h1
                      have h2 := HOK2.out.len
                      have h3 := HOK2.out.1.2
                      omega
                    have hn2m : n2 = m2 := by
                      have h1 := H2.out.1
                      rw [rcs_length] at h1
                      have h2 := HT.out.1.2
                      omega
                    have HNM := Lib.hid hn2m
                    have hm2 : m2 ≤ 1000 := by omega
                    clear hn2m
                    go_upto_region 26 with (fail)
                    refine wp_region_held_drew (S := fun w' => Obj1 w' B (rtC N q A2 n2 c2) 44) (by kernel_rfl) (HO.out) (fun hHeld => ?_)
                    have HX := Lib.hid hHeld
                    clear hHeld
                    generalize hWd : World.drew _ = W at HX ⊢
                    have ht : TnO W T C L N m2 t2 := by rw [← hWd]; exact HT.out
                    have hbl : Below w.heap.size w W := by rw [← hWd]; exact bl_drewN HB.out 1
                    have h2 : SlR rcC W A2 n2 c2 (rcs t2) := by rw [← hWd]; exact H2.out
                    clear HT HB H2 hWd HO
                    have HT := Lib.hid ht
                    have HB := Lib.hid hbl
                    have H2 := Lib.hid h2
                    clear ht hbl h2
                    refine wpAnyH_take (i := 0) (v := ?_) rfl (by kernel_rfl) (by kernel_rfl) (by kernel_rfl) (fun _ _ _ h => h) (Or.inl ⟨by rfl, ?_⟩) HX.out ?_
                    rotate_left
                    · intro w' hSw; go_simp
                      try with_reducible rfl
                    go_simp
                    refine wpAnyH_take (i := 1) (v := ?_) rfl (by kernel_rfl) (by kernel_rfl) (by kernel_rfl) (fun _ _ _ h => h) (Or.inl ⟨by rfl, ?_⟩) HX.out ?_
                    rotate_left
                    · intro w' hSw; go_simp
                      try with_reducible rfl
                    go_simp
                    refine wpAnyH_take (i := 2) (v := ?_) rfl (by kernel_rfl) (by kernel_rfl) (by kernel_rfl) (fun _ _ _ h => h) (Or.inl ⟨by rfl, ?_⟩) HX.out ?_
                    rotate_left
                    · intro w' hSw; go_simp
                      try with_reducible rfl
                    go_simp
                    refine wpAnyH_take (i := 3) (v := ?_) rfl (by kernel_rfl) (by kernel_rfl) (by kernel_rfl) (fun _ _ _ h => h) (Or.inl ⟨by rfl, ?_⟩) HX.out ?_
                    rotate_left
                    · intro w' hSw; go_simp
                      try with_reducible rfl
                    go_simp
                    refine wpAnyH_take (i := 4) (v := ?_) rfl (by kernel_rfl) (by kernel_rfl) (by kernel_rfl) (fun _ _ _ h => h) (Or.inl ⟨by rfl, ?_⟩) HX.out ?_
                    rotate_left
                    · intro w' hSw; go_simp
                      try with_reducible rfl
                    go_simp
                    refine wpAnyH_take (i := 6) (v := .agg (rtC N q A2 n2 c2)) rfl (by kernel_rfl) (by kernel_rfl) (by kernel_rfl) (fun _ _ _ h => h) (Or.inl ⟨by rfl, ?_⟩) HX.out ?_
                    · intro w' hSw
                      have hld := run_loadVar_row (P := Try.prog) w' B 44 44 (rtC N q A2 n2 c2) (0, 0) _ hSw Try.underlying44 rfl rfl
                      simp [execOp, Act.eval, Instr.loadAt, Instr.sureAddr, Sem.run_bind, hld, Result.andThen]
                    go_simp
                    refine wpAnyH_ready (rs := [5]) (by kernel_rfl) (by simp) ?_
                    refine AllReadyH.cons rfl (fun K hK => ?_) AllReadyH.nil
                    go_simp
                    refine (tawake_w T C L N m2 t2 hN129 _ HT.out).mono ?_
                    rintro e W ⟨v5, rfl, ho5, hb⟩
                    have hX : Obj1 W B (rtC N q A2 n2 c2) 44 := HX.out.below hb
                    have ht := HT.out.below hb
                    have hbl := bl_next HB.out hb
                    have h2 := H2.out.below hb
                    clear HT HB H2 hb
                    have HT := Lib.hid ht
                    have HB := Lib.hid hbl
                    have H2 := Lib.hid h2
                    obtain ⟨A5, c5, rfl, hrd5⟩ := own_Rd ho5
                    have HR5 := Lib.hid hrd5
                    clear ht hbl h2 ho5 hrd5
                    dsimp only
                    refine hK.out _ _ (hX) (fun hHeld => ?_)
                    clear HX hK K
                    have HX := Lib.hid hHeld
                    clear hHeld
                    go_simp
                    refine wpAnyH_ready (rs := [7]) (by kernel_rfl) (by simp) ?_
                    refine AllReadyH.cons rfl (fun K hK => ?_) AllReadyH.nil
                    go_simp
                    refine (rawake_w N q A2 n2 c2 (rcs t2) hn2 _ H2.out).mono ?_
                    rintro e W ⟨A6, c6, rfl, hrd6, hb⟩
                    have hX : Obj1 W B (rtC N q A2 n2 c2) 44 := HX.out.below hb
                    have ht := HT.out.below hb
                    have hbl := bl_next HB.out hb
                    have h2 := H2.out.below hb
                    have h5 := HR5.out.below hb
                    rw [rcs_names] at hrd6
                    clear HT HB H2 HR5 hb
                    have HT := Lib.hid ht
                    have HB := Lib.hid hbl
                    have H2 := Lib.hid h2
                    have HR5 := Lib.hid h5
                    have HR6 := Lib.hid hrd6
                    clear ht hbl h2 h5 hrd6
                    dsimp only
                    refine hK.out _ _ (hX) (fun hHeld => ?_)
                    clear HX hK K
                    have HX := Lib.hid hHeld
                    clear hHeld
                    go_simp
                    refine wpAnyH_ready (rs := [8]) (by kernel_rfl) (by simp) ?_
                    refine AllReadyH.cons rfl (fun K hK => ?_) AllReadyH.nil
                    go_simp
                    rw [HNM.out]
                    refine (intsN_w A5 A6 m2 c5 c6 t2.line HT.out.1.2 (by omega) _ HR5.out HR6.out).mono ?_
                    rintro e w8 ⟨rfl, qq, hq⟩
                    have hb : Below W.heap.size W w8 := by rw [hq]; exact bl_drewN (Below.refl W.heap.size W) qq
                    have hX : Obj1 w8 B (rtC N q A2 n2 c2) 44 := HX.out.below hb
                    have ht := HT.out.below hb
                    have hbl := bl_next HB.out hb
                    have h2 := H2.out.below hb
                    clear HT HB H2 HR5 HR6 hb hq
                    have HT := Lib.hid ht
                    have HB := Lib.hid hbl
                    have H2 := Lib.hid h2
                    clear ht hbl h2
                    dsimp only
                    refine hK.out _ _ (hX) (fun hHeld => ?_)
                    clear HX hK K
                    have HX := Lib.hid hHeld
                    clear hHeld
                    go_simp
                    refine wpAnyH_take (i := 9) (v := ?_) rfl (by kernel_rfl) (by kernel_rfl) (by kernel_rfl) (fun _ _ _ h => h) (Or.inl ⟨by rfl, ?_⟩) HX.out ?_
                    rotate_left
                    · intro w' hSw; go_simp
                      try with_reducible rfl
                    go_simp
                    refine wpAnyH_take (i := 10) (v := ?_) rfl (by kernel_rfl) (by kernel_rfl) (by kernel_rfl) (fun _ _ _ h => h) (Or.inl ⟨by rfl, ?_⟩) HX.out ?_
                    rotate_left
                    · intro w' hSw; go_simp
                      try with_reducible rfl
                    go_simp
                    refine wpAnyH_done (by kernel_rfl) ?_ _
                    go_wp2_with fail
                    go_loopw [16] (fun i wq => ∃ ci : Int, -1 ≤ ci ∧ ci ≤ 21 ∧ i = .int .i64 ci ∧ TnO wq T C L N m2 t2 ∧ Obj1 wq B (rtC N q A2 n2 c2) 44 ∧ SlR rcC wq A2 n2 c2 (rcs t2) ∧ Below w.heap.size w wq) (fun i _ => (21 - intOf i).toNat)
                    case atStart => exact ⟨-1, by omega, by omega, rfl, HT.out, HX.out, H2.out, HB.out⟩
                    case round =>
                      obtain ⟨ci, hci0, hci1, rfl, ht, ho, h2, hbl⟩ := hrel
                      clear HT HX H2 HB
                      have HT := Lib.hid ht
                      have HO := Lib.hid ho
                      have H2 := Lib.hid h2
                      have HB := Lib.hid hbl
                      have HDE := Lib.hid (de_eq HOK2.out HTD2.out ci)
                      clear ht ho h2 hbl
                      by_cases hmin : (N : Int) ≤ 20
                      · have hm1 : decide ((N : Int) ≤ 20) = true := decide_eq_true hmin
                        have hm2 : ¬ (20 : Int) < (N : Int) := by omega
                        by_cases hci : ci ≤ (N : Int)
                        · have hcd : decide (ci ≤ (N : Int)) = true := decide_eq_true hci
                          have hw1 : IntKind.i64.wrap (ci + 1) = ci + 1 := IntWalk.i64_in _ (by omega)
                          go_wp2_with fail
                          refine wp_region_held_drew (S := fun w' => Obj1 w' B (rtC N q A2 n2 c2) 44) (by kernel_rfl) (HO.out) (fun hHeld => ?_)
                          have HX := Lib.hid hHeld
                          clear hHeld
                          generalize hWd : World.drew _ = W at HX ⊢
                          have ht : TnO W T C L N m2 t2 := by rw [← hWd]; exact HT.out
                          have hbl : Below w.heap.size w W := by rw [← hWd]; exact bl_drewN HB.out 1
                          have h2 : SlR rcC W A2 n2 c2 (rcs t2) := by rw [← hWd]; exact H2.out
                          clear HT HB H2 hWd HO
                          have HT := Lib.hid ht
                          have HB := Lib.hid hbl
                          have H2 := Lib.hid h2
                          clear ht hbl h2
                          refine wpAnyH_take (i := 0) (v := ?_) rfl (by kernel_rfl) (by kernel_rfl) (by kernel_rfl) (fun _ _ _ h => h) (Or.inl ⟨by rfl, ?_⟩) HX.out ?_
                          rotate_left
                          · intro w' hSw; go_simp
                            try with_reducible rfl
                          go_simp
                          refine wpAnyH_take (i := 1) (v := ?_) rfl (by kernel_rfl) (by kernel_rfl) (by kernel_rfl) (fun _ _ _ h => h) (Or.inl ⟨by rfl, ?_⟩) HX.out ?_
                          rotate_left
                          · intro w' hSw; go_simp
                            try with_reducible rfl
                          go_simp
                          refine wpAnyH_take (i := 3) (v := .agg (rtC N q A2 n2 c2)) rfl (by kernel_rfl) (by kernel_rfl) (by kernel_rfl) (fun _ _ _ h => h) (Or.inl ⟨by rfl, ?_⟩) HX.out ?_
                          · intro w' hSw
                            have hld := run_loadVar_row (P := Try.prog) w' B 44 44 (rtC N q A2 n2 c2) (0, 0) _ hSw Try.underlying44 rfl rfl
                            simp [execOp, Act.eval, Instr.loadAt, Instr.sureAddr, Sem.run_bind, hld, Result.andThen]
                          go_simp
                          refine wpAnyH_take (i := 4) (v := ?_) rfl (by kernel_rfl) (by kernel_rfl) (by kernel_rfl) (fun _ _ _ h => h) (Or.inl ⟨by rfl, ?_⟩) HX.out ?_
                          rotate_left
                          · intro w' hSw; go_simp
                            try with_reducible rfl
                          go_simp
                          refine wpAnyH_ready (rs := [2]) (by kernel_rfl) (by simp) ?_
                          refine AllReadyH.cons rfl (fun K hK => ?_) AllReadyH.nil
                          go_simp
                          refine (deficit_w T C L N m2 t2 hN129 ci _ HT.out).mono ?_
                          rintro e W ⟨rfl, rfl⟩
                          have hX : Obj1 W B (rtC N q A2 n2 c2) 44 := HX.out
                          dsimp only
                          refine hK.out _ _ (hX) (fun hHeld => ?_)
                          clear HX hK K
                          have HX := Lib.hid hHeld
                          clear hHeld
                          go_simp
                          refine wpAnyH_ready (rs := [5]) (by kernel_rfl) (by simp) ?_
                          refine AllReadyH.cons rfl (fun K hK => ?_) AllReadyH.nil
                          go_simp
                          refine (rde_w N q A2 n2 c2 (rcs t2) ci hn2 _ H2.out).mono ?_
                          rintro e W ⟨rfl, hb⟩
                          rw [HDE.out]
                          have hX : Obj1 W B (rtC N q A2 n2 c2) 44 := HX.out.below hb
                          have ht := HT.out.below hb
                          have hbl := bl_next HB.out hb
                          have h2 := H2.out.below hb
                          clear HT HB H2 hb
                          have HT := Lib.hid ht
                          have HB := Lib.hid hbl
                          have H2 := Lib.hid h2
                          clear ht hbl h2
                          dsimp only
                          refine hK.out _ _ (hX) (fun hHeld => ?_)
                          clear HX hK K
                          have HX := Lib.hid hHeld
                          clear hHeld
                          go_simp
                          refine wpAnyH_take (i := 6) (v := ?_) rfl (by kernel_rfl) (by kernel_rfl) (by kernel_rfl) (fun _ _ _ h => h) (Or.inl ⟨by rfl, ?_⟩) HX.out ?_
                          rotate_left
                          · intro w' hSw; go_simp
                            try with_reducible rfl
                          go_simp
                          refine wpAnyH_done (by kernel_rfl) ?_ _
                          go_wp2_with fail
                          go_roundw
                          case rel => exact ⟨ci + 1, by omega, by omega, by go_num, HT.out, HX.out, H2.out, HB.out⟩
                          case measure => simp [intOf]; omega
                        · have hcd : decide (ci ≤ (N : Int)) = false := decide_eq_false hci
                          go_wp2_with fail
                          go_roundw
                          case measure => simp [intOf]; omega
                          case rel => exact ⟨k + 1, by omega, by go_num, t2, m2, A2, n2, c2, HT.out, HOK2.out, HTD2.out, HQ2.out, HO.out, H2.out, HGE.out, HB.out⟩
                      · have hm1 : decide ((N : Int) ≤ 20) = false := decide_eq_false hmin
                        have hm2 : (20 : Int) < (N : Int) := by omega
                        by_cases hci : ci ≤ 20
                        · have hcd : decide (ci ≤ 20) = true := decide_eq_true hci
                          have hw1 : IntKind.i64.wrap (ci + 1) = ci + 1 := IntWalk.i64_in _ (by omega)
                          go_wp2_with fail
                          refine wp_region_held_drew (S := fun w' => Obj1 w' B (rtC N q A2 n2 c2) 44) (by kernel_rfl) (HO.out) (fun hHeld => ?_)
                          have HX := Lib.hid hHeld
                          clear hHeld
                          generalize hWd : World.drew _ = W at HX ⊢
                          have ht : TnO W T C L N m2 t2 := by rw [← hWd]; exact HT.out
                          have hbl : Below w.heap.size w W := by rw [← hWd]; exact bl_drewN HB.out 1
                          have h2 : SlR rcC W A2 n2 c2 (rcs t2) := by rw [← hWd]; exact H2.out
                          clear HT HB H2 hWd HO
                          have HT := Lib.hid ht
                          have HB := Lib.hid hbl
                          have H2 := Lib.hid h2
                          clear ht hbl h2
                          refine wpAnyH_take (i := 0) (v := ?_) rfl (by kernel_rfl) (by kernel_rfl) (by kernel_rfl) (fun _ _ _ h => h) (Or.inl ⟨by rfl, ?_⟩) HX.out ?_
                          rotate_left
                          · intro w' hSw; go_simp
                            try with_reducible rfl
                          go_simp
                          refine wpAnyH_take (i := 1) (v := ?_) rfl (by kernel_rfl) (by kernel_rfl) (by kernel_rfl) (fun _ _ _ h => h) (Or.inl ⟨by rfl, ?_⟩) HX.out ?_
                          rotate_left
                          · intro w' hSw; go_simp
                            try with_reducible rfl
                          go_simp
                          refine wpAnyH_take (i := 3) (v := .agg (rtC N q A2 n2 c2)) rfl (by kernel_rfl) (by kernel_rfl) (by kernel_rfl) (fun _ _ _ h => h) (Or.inl ⟨by rfl, ?_⟩) HX.out ?_
                          · intro w' hSw
                            have hld := run_loadVar_row (P := Try.prog) w' B 44 44 (rtC N q A2 n2 c2) (0, 0) _ hSw Try.underlying44 rfl rfl
                            simp [execOp, Act.eval, Instr.loadAt, Instr.sureAddr, Sem.run_bind, hld, Result.andThen]
                          go_simp
                          refine wpAnyH_take (i := 4) (v := ?_) rfl (by kernel_rfl) (by kernel_rfl) (by kernel_rfl) (fun _ _ _ h => h) (Or.inl ⟨by rfl, ?_⟩) HX.out ?_
                          rotate_left
                          · intro w' hSw; go_simp
                            try with_reducible rfl
                          go_simp
                          refine wpAnyH_ready (rs := [2]) (by kernel_rfl) (by simp) ?_
                          refine AllReadyH.cons rfl (fun K hK => ?_) AllReadyH.nil
                          go_simp
                          refine (deficit_w T C L N m2 t2 hN129 ci _ HT.out).mono ?_
                          rintro e W ⟨rfl, rfl⟩
                          have hX : Obj1 W B (rtC N q A2 n2 c2) 44 := HX.out
                          dsimp only
                          refine hK.out _ _ (hX) (fun hHeld => ?_)
                          clear HX hK K
                          have HX := Lib.hid hHeld
                          clear hHeld
                          go_simp
                          refine wpAnyH_ready (rs := [5]) (by kernel_rfl) (by simp) ?_
                          refine AllReadyH.cons rfl (fun K hK => ?_) AllReadyH.nil
                          go_simp
                          refine (rde_w N q A2 n2 c2 (rcs t2) ci hn2 _ H2.out).mono ?_
                          rintro e W ⟨rfl, hb⟩
                          rw [HDE.out]
                          have hX : Obj1 W B (rtC N q A2 n2 c2) 44 := HX.out.below hb
                          have ht := HT.out.below hb
                          have hbl := bl_next HB.out hb
                          have h2 := H2.out.below hb
                          clear HT HB H2 hb
                          have HT := Lib.hid ht
                          have HB := Lib.hid hbl
                          have H2 := Lib.hid h2
                          clear ht hbl h2
                          dsimp only
                          refine hK.out _ _ (hX) (fun hHeld => ?_)
                          clear HX hK K
                          have HX := Lib.hid hHeld
                          clear hHeld
                          go_simp
                          refine wpAnyH_take (i := 6) (v := ?_) rfl (by kernel_rfl) (by kernel_rfl) (by kernel_rfl) (fun _ _ _ h => h) (Or.inl ⟨by rfl, ?_⟩) HX.out ?_
                          rotate_left
                          · intro w' hSw; go_simp
                            try with_reducible rfl
                          go_simp
                          refine wpAnyH_done (by kernel_rfl) ?_ _
                          go_wp2_with fail
                          go_roundw
                          case rel => exact ⟨ci + 1, by omega, by omega, by go_num, HT.out, HX.out, H2.out, HB.out⟩
                          case measure => simp [intOf]; omega
                        · have hcd : decide (ci ≤ 20) = false := decide_eq_false hci
                          go_wp2_with fail
                          go_roundw
                          case measure => simp [intOf]; omega
                          case rel => exact ⟨k + 1, by omega, by go_num, t2, m2, A2, n2, c2, HT.out, HOK2.out, HTD2.out, HQ2.out, HO.out, H2.out, HGE.out, HB.out⟩
                  | some pc =>
                    have hpc : (0 : Int) ≤ (pc : Int) := Int.natCast_nonneg pc
                    have hpc1 : ¬ (pc : Int) < 0 := by omega
                    simp only [pickV]
                    go_upto_region 16 with (fail)
                    refine wp_region_held_drew (S := fun w' => w'.cell? ⟨b, off + k * 3 + 2, none⟩ = some (.slice a ma da)) (by kernel_rfl) (bl_keeps HB.out c2') (fun hHeld => ?_)
                    have HX := Lib.hid hHeld
                    clear hHeld
                    generalize hWd : World.drew _ = W at HX ⊢
                    have ho : Obj1 W B (rtC N q A1 n1 c1) 44 := by rw [← hWd]; exact HO.out
                    have ht : TnO W T C L N m2 t2 := by rw [← hWd]; exact HT.out
                    have hbl : Below w.heap.size w W := by rw [← hWd]; exact bl_drewN HB.out 1
                    have hs1 : SlR rcC W A1 n1 c1 (rcs t) := by rw [← hWd]; exact HS1.out
                    clear HO HT HB HS1 hWd
                    have HO := Lib.hid ho
                    have HT := Lib.hid ht
                    have HB := Lib.hid hbl
                    have HS1 := Lib.hid hs1
                    clear ho ht hbl hs1
                    refine wpAnyH_take (i := 1) (v := ?_) rfl (by kernel_rfl) (by kernel_rfl) (by kernel_rfl) (fun _ _ _ h => h) (Or.inl ⟨by rfl, ?_⟩) HX.out ?_
                    rotate_left
                    · intro w' hSw; go_simp
                      try with_reducible rfl
                    go_simp
                    refine wpAnyH_take (i := 2) (v := ?_) rfl (by kernel_rfl) (by kernel_rfl) (by kernel_rfl) (fun _ _ _ h => h) (Or.inl ⟨by rfl, ?_⟩) HX.out ?_
                    rotate_left
                    · intro w' hSw; go_simp
                      try with_reducible rfl
                    go_simp
                    refine wpAnyH_take (i := 3) (v := ?_) rfl (by kernel_rfl) (by kernel_rfl) (by kernel_rfl) (fun _ _ _ h => h) (Or.inl ⟨by rfl, ?_⟩) HX.out ?_
                    rotate_left
                    · intro w' hSw; go_simp
                      try with_reducible rfl
                    go_simp
                    refine wpAnyH_take (i := 4) (v := ?_) rfl (by kernel_rfl) (by kernel_rfl) (by kernel_rfl) (fun _ _ _ h => h) (Or.inl ⟨by rfl, ?_⟩) HX.out ?_
                    rotate_left
                    · intro w' hSw; go_simp
                      try with_reducible rfl
                    go_simp
                    refine wpAnyH_take (i := 5) (v := ?_) rfl (by kernel_rfl) (by kernel_rfl) (by kernel_rfl) (fun _ _ _ h => h) (Or.inl ⟨by rfl, ?_⟩) HX.out ?_
                    rotate_left
                    · intro w' hSw; go_simp
                      try with_reducible rfl
                    go_simp
                    refine wpAnyH_ready (rs := [0]) (by kernel_rfl) (by simp) ?_
                    refine AllReadyH.cons rfl (fun K hK => ?_) AllReadyH.nil
                    refine gwanted rfl ?_
                    refine wp_load_row 44 (.tmp 9) rfl B rfl 44 (rtC N q A1 n1 c1) (0, 0) _ HO.out Try.underlying44 rfl rfl ?_
                    have hX := HX.out
                    refine hK.out _ _ (hX) (fun hHeld => ?_)
                    clear HX hK K
                    have HX := Lib.hid hHeld
                    clear hHeld
                    go_simp
                    refine wpAnyH_ready (rs := [6]) (by kernel_rfl) (by simp) ?_
                    refine AllReadyH.cons rfl (fun K hK => ?_) AllReadyH.nil
                    go_simp
                    refine (rpick_w N q A1 n1 c1 (rcs t) hn1 hqb HRC.out a ma da lh HSLH.out.1 _ HS1.out (RdI.of (by have := HSLH.out.1; have := HSLH.out.2.1; have := HSLH.out.2.2.1; omega) (Rd.below HSLH.out.2.2.2.1 HB.out))).mono ?_
                    rintro e W ⟨l', r', hpk', A2, n2, c2, rfl, h2, hor, hb⟩
                    obtain ⟨rfl, rfl⟩ := RPk.det HRP.out hpk'
                    clear hpk'
                    simp only [rV]
                    have hX : (fun w' : World => w'.cell? ⟨b, off + k * 3 + 2, none⟩ = some (.slice a ma da)) W := bl_keeps hb HX.out
                    have ho := HO.out.below hb
                    have ht := HT.out.below hb
                    have hbl := bl_next HB.out hb
                    have hge : ∀ ad, A2 = some ad → B < ad.block := fun ad e => by
                      rcases hor with h' | h'
                      · exact HGE.out ad (by rw [← h']; exact e)
                      · exact Nat.lt_of_lt_of_le HO.out.lt (h' ad e)
                    clear HO HT HB HS1 HGE hb hor
                    have HO := Lib.hid ho
                    have HT := Lib.hid ht
                    have HB := Lib.hid hbl
                    have H2 := Lib.hid h2
                    have HGE := Lib.hid hge
                    clear ho ht hbl h2 hge
                    (try dsimp only)
                    refine hK.out _ _ (hX) (fun hHeld => ?_)
                    clear HX hK K
                    have HX := Lib.hid hHeld
                    clear hHeld
                    go_simp
                    refine wpAnyH_take (i := 7) (v := ?_) rfl (by kernel_rfl) (by kernel_rfl) (by kernel_rfl) (fun _ _ _ h => h) (Or.inl ⟨by rfl, ?_⟩) HX.out ?_
                    rotate_left
                    · intro w' hSw; go_simp
                      try with_reducible rfl
                    go_simp
                    refine wpAnyH_take (i := 8) (v := ?_) rfl (by kernel_rfl) (by kernel_rfl) (by kernel_rfl) (fun _ _ _ h => h) (Or.inl ⟨by rfl, ?_⟩) HX.out ?_
                    rotate_left
                    · intro w' hSw; go_simp
                      try with_reducible rfl
                    go_simp
                    refine wpAnyH_take (i := 9) (v := ?_) rfl (by kernel_rfl) (by kernel_rfl) (by kernel_rfl) (fun _ _ _ h => h) (Or.inl ⟨by rfl, ?_⟩) HX.out ?_
                    rotate_left
                    · intro w' hSw; go_simp
                      try with_reducible rfl
                    go_simp
                    refine wpAnyH_ready (rs := [10]) (by kernel_rfl) (by simp) ?_
                    refine AllReadyH.cons rfl (fun K hK => ?_) AllReadyH.nil
                    refine gwanted rfl ?_
                    refine wp_storeO 44 (.tmp 9) (.tmp 98) rfl B 44 (rtC N q A1 n1 c1) (rtC N q A2 n2 c2) rfl rfl HO.out rfl rfl (by simp [rtC, Value.oneCell']) ?_
                    intro W hob hu
                    have hX : (fun w' : World => w'.cell? ⟨b, off + k * 3 + 2, none⟩ = some (.slice a ma da)) W := keep_upd hu HX.out (by show b ≠ B; omega)
                    have hbl := bl_upd HB.out hu hBw
                    have h2 := H2.out.upd hu (fun ad e => Nat.ne_of_gt (HGE.out ad e))
                    have ht := HT.out.upd hu hTB hCB hLB
                    clear HB H2 HT HO hu
                    have HB := Lib.hid hbl
                    have H2 := Lib.hid h2
                    have HT := Lib.hid ht
                    have HO := Lib.hid hob
                    clear hbl h2 ht hob
                    refine hK.out _ _ (hX) (fun hHeld => ?_)
                    clear HX hK K
                    have HX := Lib.hid hHeld
                    clear hHeld
                    go_simp
                    refine wpAnyH_take (i := 11) (v := ?_) rfl (by kernel_rfl) (by kernel_rfl) (by kernel_rfl) (fun _ _ _ h => h) (Or.inl ⟨by rfl, ?_⟩) HX.out ?_
                    rotate_left
                    · intro w' hSw; go_simp
                      try with_reducible rfl
                    go_simp
                    refine wpAnyH_done (by kernel_rfl) ?_ _
                    have hn2 : n2 ≤ 1000 := by
                      have h1 := H2.out.1
                      rw [rcs_length] at h1
                      have h2 := HOK2.out.len
                      have h3 := HOK2.out.1.2
                      omega
                    have hn2m : n2 = m2 := by
                      have h1 := H2.out.1
                      rw [rcs_length] at h1
                      have h2 := HT.out.1.2
                      omega
                    have HNM := Lib.hid hn2m
                    have hm2 : m2 ≤ 1000 := by omega
                    clear hn2m
                    go_upto_region 26 with (fail)
                    refine wp_region_held_drew (S := fun w' => Obj1 w' B (rtC N q A2 n2 c2) 44) (by kernel_rfl) (HO.out) (fun hHeld => ?_)
                    have HX := Lib.hid hHeld
                    clear hHeld
                    generalize hWd : World.drew _ = W at HX ⊢
                    have ht : TnO W T C L N m2 t2 := by rw [← hWd]; exact HT.out
                    have hbl : Below w.heap.size w W := by rw [← hWd]; exact bl_drewN HB.out 1
                    have h2 : SlR rcC W A2 n2 c2 (rcs t2) := by rw [← hWd]; exact H2.out
                    clear HT HB H2 hWd HO
                    have HT := Lib.hid ht
                    have HB := Lib.hid hbl
                    have H2 := Lib.hid h2
                    clear ht hbl h2
                    refine wpAnyH_take (i := 0) (v := ?_) rfl (by kernel_rfl) (by kernel_rfl) (by kernel_rfl) (fun _ _ _ h => h) (Or.inl ⟨by rfl, ?_⟩) HX.out ?_
                    rotate_left
                    · intro w' hSw; go_simp
                      try with_reducible rfl
                    go_simp
                    refine wpAnyH_take (i := 1) (v := ?_) rfl (by kernel_rfl) (by kernel_rfl) (by kernel_rfl) (fun _ _ _ h => h) (Or.inl ⟨by rfl, ?_⟩) HX.out ?_
                    rotate_left
                    · intro w' hSw; go_simp
                      try with_reducible rfl
                    go_simp
                    refine wpAnyH_take (i := 2) (v := ?_) rfl (by kernel_rfl) (by kernel_rfl) (by kernel_rfl) (fun _ _ _ h => h) (Or.inl ⟨by rfl, ?_⟩) HX.out ?_
                    rotate_left
                    · intro w' hSw; go_simp
                      try with_reducible rfl
                    go_simp
                    refine wpAnyH_take (i := 3) (v := ?_) rfl (by kernel_rfl) (by kernel_rfl) (by kernel_rfl) (fun _ _ _ h => h) (Or.inl ⟨by rfl, ?_⟩) HX.out ?_
                    rotate_left
                    · intro w' hSw; go_simp
                      try with_reducible rfl
                    go_simp
                    refine wpAnyH_take (i := 4) (v := ?_) rfl (by kernel_rfl) (by kernel_rfl) (by kernel_rfl) (fun _ _ _ h => h) (Or.inl ⟨by rfl, ?_⟩) HX.out ?_
                    rotate_left
                    · intro w' hSw; go_simp
                      try with_reducible rfl
                    go_simp
                    refine wpAnyH_take (i := 6) (v := .agg (rtC N q A2 n2 c2)) rfl (by kernel_rfl) (by kernel_rfl) (by kernel_rfl) (fun _ _ _ h => h) (Or.inl ⟨by rfl, ?_⟩) HX.out ?_
                    · intro w' hSw
                      have hld := run_loadVar_row (P := Try.prog) w' B 44 44 (rtC N q A2 n2 c2) (0, 0) _ hSw Try.underlying44 rfl rfl
                      simp [execOp, Act.eval, Instr.loadAt, Instr.sureAddr, Sem.run_bind, hld, Result.andThen]
                    go_simp
                    refine wpAnyH_ready (rs := [5]) (by kernel_rfl) (by simp) ?_
                    refine AllReadyH.cons rfl (fun K hK => ?_) AllReadyH.nil
                    go_simp
                    refine (tawake_w T C L N m2 t2 hN129 _ HT.out).mono ?_
                    rintro e W ⟨v5, rfl, ho5, hb⟩
                    have hX : Obj1 W B (rtC N q A2 n2 c2) 44 := HX.out.below hb
                    have ht := HT.out.below hb
                    have hbl := bl_next HB.out hb
                    have h2 := H2.out.below hb
                    clear HT HB H2 hb
                    have HT := Lib.hid ht
                    have HB := Lib.hid hbl
                    have H2 := Lib.hid h2
                    obtain ⟨A5, c5, rfl, hrd5⟩ := own_Rd ho5
                    have HR5 := Lib.hid hrd5
                    clear ht hbl h2 ho5 hrd5
                    dsimp only
                    refine hK.out _ _ (hX) (fun hHeld => ?_)
                    clear HX hK K
                    have HX := Lib.hid hHeld
                    clear hHeld
                    go_simp
                    refine wpAnyH_ready (rs := [7]) (by kernel_rfl) (by simp) ?_
                    refine AllReadyH.cons rfl (fun K hK => ?_) AllReadyH.nil
                    go_simp
                    refine (rawake_w N q A2 n2 c2 (rcs t2) hn2 _ H2.out).mono ?_
                    rintro e W ⟨A6, c6, rfl, hrd6, hb⟩
                    have hX : Obj1 W B (rtC N q A2 n2 c2) 44 := HX.out.below hb
                    have ht := HT.out.below hb
                    have hbl := bl_next HB.out hb
                    have h2 := H2.out.below hb
                    have h5 := HR5.out.below hb
                    rw [rcs_names] at hrd6
                    clear HT HB H2 HR5 hb
                    have HT := Lib.hid ht
                    have HB := Lib.hid hbl
                    have H2 := Lib.hid h2
                    have HR5 := Lib.hid h5
                    have HR6 := Lib.hid hrd6
                    clear ht hbl h2 h5 hrd6
                    dsimp only
                    refine hK.out _ _ (hX) (fun hHeld => ?_)
                    clear HX hK K
                    have HX := Lib.hid hHeld
                    clear hHeld
                    go_simp
                    refine wpAnyH_ready (rs := [8]) (by kernel_rfl) (by simp) ?_
                    refine AllReadyH.cons rfl (fun K hK => ?_) AllReadyH.nil
                    go_simp
                    rw [HNM.out]
                    refine (intsN_w A5 A6 m2 c5 c6 t2.line HT.out.1.2 (by omega) _ HR5.out HR6.out).mono ?_
                    rintro e w8 ⟨rfl, qq, hq⟩
                    have hb : Below W.heap.size W w8 := by rw [hq]; exact bl_drewN (Below.refl W.heap.size W) qq
                    have hX : Obj1 w8 B (rtC N q A2 n2 c2) 44 := HX.out.below hb
                    have ht := HT.out.below hb
                    have hbl := bl_next HB.out hb
                    have h2 := H2.out.below hb
                    clear HT HB H2 HR5 HR6 hb hq
                    have HT := Lib.hid ht
                    have HB := Lib.hid hbl
                    have H2 := Lib.hid h2
                    clear ht hbl h2
                    dsimp only
                    refine hK.out _ _ (hX) (fun hHeld => ?_)
                    clear HX hK K
                    have HX := Lib.hid hHeld
                    clear hHeld
                    go_simp
                    refine wpAnyH_take (i := 9) (v := ?_) rfl (by kernel_rfl) (by kernel_rfl) (by kernel_rfl) (fun _ _ _ h => h) (Or.inl ⟨by rfl, ?_⟩) HX.out ?_
                    rotate_left
                    · intro w' hSw; go_simp
                      try with_reducible rfl
                    go_simp
                    refine wpAnyH_take (i := 10) (v := ?_) rfl (by kernel_rfl) (by kernel_rfl) (by kernel_rfl) (fun _ _ _ h => h) (Or.inl ⟨by rfl, ?_⟩) HX.out ?_
                    rotate_left
                    · intro w' hSw; go_simp
                      try with_reducible rfl
                    go_simp
                    refine wpAnyH_done (by kernel_rfl) ?_ _
                    go_wp2_with fail
                    go_loopw [16] (fun i wq => ∃ ci : Int, -1 ≤ ci ∧ ci ≤ 21 ∧ i = .int .i64 ci ∧ TnO wq T C L N m2 t2 ∧ Obj1 wq B (rtC N q A2 n2 c2) 44 ∧ SlR rcC wq A2 n2 c2 (rcs t2) ∧ Below w.heap.size w wq) (fun i _ => (21 - intOf i).toNat)
                    case atStart => exact ⟨-1, by omega, by omega, rfl, HT.out, HX.out, H2.out, HB.out⟩
                    case round =>
                      obtain ⟨ci, hci0, hci1, rfl, ht, ho, h2, hbl⟩ := hrel
                      clear HT HX H2 HB
                      have HT := Lib.hid ht
                      have HO := Lib.hid ho
                      have H2 := Lib.hid h2
                      have HB := Lib.hid hbl
                      have HDE := Lib.hid (de_eq HOK2.out HTD2.out ci)
                      clear ht ho h2 hbl
                      by_cases hmin : (N : Int) ≤ 20
                      · have hm1 : decide ((N : Int) ≤ 20) = true := decide_eq_true hmin
                        have hm2 : ¬ (20 : Int) < (N : Int) := by omega
                        by_cases hci : ci ≤ (N : Int)
                        · have hcd : decide (ci ≤ (N : Int)) = true := decide_eq_true hci
                          have hw1 : IntKind.i64.wrap (ci + 1) = ci + 1 := IntWalk.i64_in _ (by omega)
                          go_wp2_with fail
                          refine wp_region_held_drew (S := fun w' => Obj1 w' B (rtC N q A2 n2 c2) 44) (by kernel_rfl) (HO.out) (fun hHeld => ?_)
                          have HX := Lib.hid hHeld
                          clear hHeld
                          generalize hWd : World.drew _ = W at HX ⊢
                          have ht : TnO W T C L N m2 t2 := by rw [← hWd]; exact HT.out
                          have hbl : Below w.heap.size w W := by rw [← hWd]; exact bl_drewN HB.out 1
                          have h2 : SlR rcC W A2 n2 c2 (rcs t2) := by rw [← hWd]; exact H2.out
                          clear HT HB H2 hWd HO
                          have HT := Lib.hid ht
                          have HB := Lib.hid hbl
                          have H2 := Lib.hid h2
                          clear ht hbl h2
                          refine wpAnyH_take (i := 0) (v := ?_) rfl (by kernel_rfl) (by kernel_rfl) (by kernel_rfl) (fun _ _ _ h => h) (Or.inl ⟨by rfl, ?_⟩) HX.out ?_
                          rotate_left
                          · intro w' hSw; go_simp
                            try with_reducible rfl
                          go_simp
                          refine wpAnyH_take (i := 1) (v := ?_) rfl (by kernel_rfl) (by kernel_rfl) (by kernel_rfl) (fun _ _ _ h => h) (Or.inl ⟨by rfl, ?_⟩) HX.out ?_
                          rotate_left
                          · intro w' hSw; go_simp
                            try with_reducible rfl
                          go_simp
                          refine wpAnyH_take (i := 3) (v := .agg (rtC N q A2 n2 c2)) rfl (by kernel_rfl) (by kernel_rfl) (by kernel_rfl) (fun _ _ _ h => h) (Or.inl ⟨by rfl, ?_⟩) HX.out ?_
                          · intro w' hSw
                            have hld := run_loadVar_row (P := Try.prog) w' B 44 44 (rtC N q A2 n2 c2) (0, 0) _ hSw Try.underlying44 rfl rfl
                            simp [execOp, Act.eval, Instr.loadAt, Instr.sureAddr, Sem.run_bind, hld, Result.andThen]
                          go_simp
                          refine wpAnyH_take (i := 4) (v := ?_) rfl (by kernel_rfl) (by kernel_rfl) (by kernel_rfl) (fun _ _ _ h => h) (Or.inl ⟨by rfl, ?_⟩) HX.out ?_
                          rotate_left
                          · intro w' hSw; go_simp
                            try with_reducible rfl
                          go_simp
                          refine wpAnyH_ready (rs := [2]) (by kernel_rfl) (by simp) ?_
                          refine AllReadyH.cons rfl (fun K hK => ?_) AllReadyH.nil
                          go_simp
                          refine (deficit_w T C L N m2 t2 hN129 ci _ HT.out).mono ?_
                          rintro e W ⟨rfl, rfl⟩
                          have hX : Obj1 W B (rtC N q A2 n2 c2) 44 := HX.out
                          dsimp only
                          refine hK.out _ _ (hX) (fun hHeld => ?_)
                          clear HX hK K
                          have HX := Lib.hid hHeld
                          clear hHeld
                          go_simp
                          refine wpAnyH_ready (rs := [5]) (by kernel_rfl) (by simp) ?_
                          refine AllReadyH.cons rfl (fun K hK => ?_) AllReadyH.nil
                          go_simp
                          refine (rde_w N q A2 n2 c2 (rcs t2) ci hn2 _ H2.out).mono ?_
                          rintro e W ⟨rfl, hb⟩
                          rw [HDE.out]
                          have hX : Obj1 W B (rtC N q A2 n2 c2) 44 := HX.out.below hb
                          have ht := HT.out.below hb
                          have hbl := bl_next HB.out hb
                          have h2 := H2.out.below hb
                          clear HT HB H2 hb
                          have HT := Lib.hid ht
                          have HB := Lib.hid hbl
                          have H2 := Lib.hid h2
                          clear ht hbl h2
                          dsimp only
                          refine hK.out _ _ (hX) (fun hHeld => ?_)
                          clear HX hK K
                          have HX := Lib.hid hHeld
                          clear hHeld
                          go_simp
                          refine wpAnyH_take (i := 6) (v := ?_) rfl (by kernel_rfl) (by kernel_rfl) (by kernel_rfl) (fun _ _ _ h => h) (Or.inl ⟨by rfl, ?_⟩) HX.out ?_
                          rotate_left
                          · intro w' hSw; go_simp
                            try with_reducible rfl
                          go_simp
                          refine wpAnyH_done (by kernel_rfl) ?_ _
                          go_wp2_with fail
                          go_roundw
                          case rel => exact ⟨ci + 1, by omega, by omega, by go_num, HT.out, HX.out, H2.out, HB.out⟩
                          case measure => simp [intOf]; omega
                        · have hcd : decide (ci ≤ (N : Int)) = false := decide_eq_false hci
                          go_wp2_with fail
                          go_roundw
                          case measure => simp [intOf]; omega
                          case rel => exact ⟨k + 1, by omega, by go_num, t2, m2, A2, n2, c2, HT.out, HOK2.out, HTD2.out, HQ2.out, HO.out, H2.out, HGE.out, HB.out⟩
                      · have hm1 : decide ((N : Int) ≤ 20) = false := decide_eq_false hmin
                        have hm2 : (20 : Int) < (N : Int) := by omega
                        by_cases hci : ci ≤ 20
                        · have hcd : decide (ci ≤ 20) = true := decide_eq_true hci
                          have hw1 : IntKind.i64.wrap (ci + 1) = ci + 1 := IntWalk.i64_in _ (by omega)
                          go_wp2_with fail
                          refine wp_region_held_drew (S := fun w' => Obj1 w' B (rtC N q A2 n2 c2) 44) (by kernel_rfl) (HO.out) (fun hHeld => ?_)
                          have HX := Lib.hid hHeld
                          clear hHeld
                          generalize hWd : World.drew _ = W at HX ⊢
                          have ht : TnO W T C L N m2 t2 := by rw [← hWd]; exact HT.out
                          have hbl : Below w.heap.size w W := by rw [← hWd]; exact bl_drewN HB.out 1
                          have h2 : SlR rcC W A2 n2 c2 (rcs t2) := by rw [← hWd]; exact H2.out
                          clear HT HB H2 hWd HO
                          have HT := Lib.hid ht
                          have HB := Lib.hid hbl
                          have H2 := Lib.hid h2
                          clear ht hbl h2
                          refine wpAnyH_take (i := 0) (v := ?_) rfl (by kernel_rfl) (by kernel_rfl) (by kernel_rfl) (fun _ _ _ h => h) (Or.inl ⟨by rfl, ?_⟩) HX.out ?_
                          rotate_left
                          · intro w' hSw; go_simp
                            try with_reducible rfl
                          go_simp
                          refine wpAnyH_take (i := 1) (v := ?_) rfl (by kernel_rfl) (by kernel_rfl) (by kernel_rfl) (fun _ _ _ h => h) (Or.inl ⟨by rfl, ?_⟩) HX.out ?_
                          rotate_left
                          · intro w' hSw; go_simp
                            try with_reducible rfl
                          go_simp
                          refine wpAnyH_take (i := 3) (v := .agg (rtC N q A2 n2 c2)) rfl (by kernel_rfl) (by kernel_rfl) (by kernel_rfl) (fun _ _ _ h => h) (Or.inl ⟨by rfl, ?_⟩) HX.out ?_
                          · intro w' hSw
                            have hld := run_loadVar_row (P := Try.prog) w' B 44 44 (rtC N q A2 n2 c2) (0, 0) _ hSw Try.underlying44 rfl rfl
                            simp [execOp, Act.eval, Instr.loadAt, Instr.sureAddr, Sem.run_bind, hld, Result.andThen]
                          go_simp
                          refine wpAnyH_take (i := 4) (v := ?_) rfl (by kernel_rfl) (by kernel_rfl) (by kernel_rfl) (fun _ _ _ h => h) (Or.inl ⟨by rfl, ?_⟩) HX.out ?_
                          rotate_left
                          · intro w' hSw; go_simp
                            try with_reducible rfl
                          go_simp
                          refine wpAnyH_ready (rs := [2]) (by kernel_rfl) (by simp) ?_
                          refine AllReadyH.cons rfl (fun K hK => ?_) AllReadyH.nil
                          go_simp
                          refine (deficit_w T C L N m2 t2 hN129 ci _ HT.out).mono ?_
                          rintro e W ⟨rfl, rfl⟩
                          have hX : Obj1 W B (rtC N q A2 n2 c2) 44 := HX.out
                          dsimp only
                          refine hK.out _ _ (hX) (fun hHeld => ?_)
                          clear HX hK K
                          have HX := Lib.hid hHeld
                          clear hHeld
                          go_simp
                          refine wpAnyH_ready (rs := [5]) (by kernel_rfl) (by simp) ?_
                          refine AllReadyH.cons rfl (fun K hK => ?_) AllReadyH.nil
                          go_simp
                          refine (rde_w N q A2 n2 c2 (rcs t2) ci hn2 _ H2.out).mono ?_
                          rintro e W ⟨rfl, hb⟩
                          rw [HDE.out]
                          have hX : Obj1 W B (rtC N q A2 n2 c2) 44 := HX.out.below hb
                          have ht := HT.out.below hb
                          have hbl := bl_next HB.out hb
                          have h2 := H2.out.below hb
                          clear HT HB H2 hb
                          have HT := Lib.hid ht
                          have HB := Lib.hid hbl
                          have H2 := Lib.hid h2
                          clear ht hbl h2
                          dsimp only
                          refine hK.out _ _ (hX) (fun hHeld => ?_)
                          clear HX hK K
                          have HX := Lib.hid hHeld
                          clear hHeld
                          go_simp
                          refine wpAnyH_take (i := 6) (v := ?_) rfl (by kernel_rfl) (by kernel_rfl) (by kernel_rfl) (fun _ _ _ h => h) (Or.inl ⟨by rfl, ?_⟩) HX.out ?_
                          rotate_left
                          · intro w' hSw; go_simp
                            try with_reducible rfl
                          go_simp
                          refine wpAnyH_done (by kernel_rfl) ?_ _
                          go_wp2_with fail
                          go_roundw
                          case rel => exact ⟨ci + 1, by omega, by omega, by go_num, HT.out, HX.out, H2.out, HB.out⟩
                          case measure => simp [intOf]; omega
                        · have hcd : decide (ci ≤ 20) = false := decide_eq_false hci
                          go_wp2_with fail
                          go_roundw
                          case measure => simp [intOf]; omega
                          case rel => exact ⟨k + 1, by omega, by go_num, t2, m2, A2, n2, c2, HT.out, HOK2.out, HTD2.out, HQ2.out, HO.out, H2.out, HGE.out, HB.out⟩
          · have hk1 : ¬ (k : Int) < (n : Int) := by omega
            go_wp2
            go_ret
            exact ⟨rfl, HBL.out⟩
end Go.Proofs.Ytlnfenjoagkpdaa
