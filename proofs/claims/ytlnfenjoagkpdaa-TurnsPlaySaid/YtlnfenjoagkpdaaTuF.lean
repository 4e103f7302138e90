/- The walk of Pick. -/
import Derived.Test.YtlnfenjoagkpdaaTuE
namespace Go.Proofs.Ytlnfenjoagkpdaa
open Go.RowKit
set_option linter.unusedVariables false
set_option linter.unusedSimpArgs false

theorem tnSet_self {t : Tn} {c : Nat} {x : Cl} (hx : t.l[c]? = some x) : tnSet t c x = t := by
  obtain ⟨hc, rfl⟩ := List.getElem?_eq_some_iff.1 hx
  unfold tnSet
  rw [List.set_getElem_self]

set_option maxRecDepth 100000 in
set_option maxHeartbeats 8000000 in
theorem pickE_w (T C L N m : Nat) (t : Tn) (hok : okTn t) (A : Option Addr) (n cp : Nat) (l : List Int) (hn : l.length = n) (w : World) (h : TnO w T C L N m t) (hne : ∀ w', Upd3 T C L w w' → RdI w' A l) :
    Calls Try.prog 14 #[.pointer (some ⟨T, 0, none⟩), .iface 37 (.agg #[.slice A n cp])] w fun e w' => ∃ t' r m', Pk (hdOf l) t t' r ∧ e = .returned (pickV r) ∧ TnO w' T C L N m' t' ∧ okTn t' ∧ Upd3 T C L w w' := by
  have hN129 : N ≤ 129 := by rw [← h.1.1]; exact hok.1.2
  have H := Lib.hid h
  have HNE := Lib.hid hne
  have HOK := Lib.hid hok
  have HN := Lib.hid hn
  clear h hne hok hn
  go_enter Try.func14, Try.ntmps14
  go_wp2_with fail
  go_loopg [] (meas (hdOf l) t) (fun kk wr => ∃ (t1 : Tn) (m1 : Nat), meas (hdOf l) t1 ≤ kk ∧ okTn t1 ∧ TnO wr T C L N m1 t1 ∧ Upd3 T C L w wr ∧ ∀ t' r, Pk (hdOf l) t1 t' r → Pk (hdOf l) t t' r)
  case atStart => exact ⟨t, m, Nat.le_refl _, HOK.out, H.out, Upd3.refl _ _ _ _, fun t' r h => h⟩
  case round =>
    obtain ⟨t1, m1, hme, hok1, ht1, hu1, hpk⟩ := hrel
    have H1 := Lib.hid ht1
    have HO1 := Lib.hid hok1
    have HU1 := Lib.hid hu1
    have HPK := Lib.hid hpk
    have HME := Lib.hid hme
    have HNE1 := Lib.hid ht1.ne
    clear ht1 hok1 hu1 hpk hme
    have c2 : wr.cell? ⟨T, 2, none⟩ = some (.slice (some ⟨L, 0, none⟩) m1 N) := H1.out.2.1.cell 2
    obtain ⟨ln, hln⟩ : ∃ ln, t1.line = ln := ⟨_, rfl⟩
    cases ln with
    | nil =>
      have hm0 : m1 = 0 := by rw [← H1.out.1.2, hln]; rfl
      subst hm0
      have HLN := Lib.hid hln
      clear hln
      go_wp2
      go_ret2
      exact ⟨t1, none, 0, HPK.out _ _ (Pk.none HLN.out), rfl, H1.out, HO1.out, HU1.out⟩
    | cons c rest =>
      have hm1 : rest.length + 1 = m1 := by rw [← H1.out.1.2, hln]; rfl
      obtain ⟨x, hx, hxa, hnc, hnd⟩ := HO1.out.cl hln
      have hcN : c < N := by rw [← H1.out.1.1]; exact (List.getElem?_eq_some_iff.1 hx).1
      have i0 : (0 : Int) < (m1 : Int) := by omega
      have i0n : 0 < m1 := by omega
      have r0 : wr.cell? ⟨L, 0, none⟩ = some (.int .i64 (c : Int)) := H1.out.2.2.2.cell (by rw [hln]; rfl)
      have HLN := Lib.hid hln
      have HX := Lib.hid hx
      have HM1 := Lib.hid hm1
      have HRR := Lib.hid (HNE.out _ HU1.out)
      clear hln hx hm1 hnc hnd
      have hq := HO1.out.2.2.2.1
      have hxb := HO1.out.2.2.2.2 x (List.mem_of_getElem? HX.out)
      have hc0 : (0 : Int) ≤ (c : Int) := Int.natCast_nonneg c
      have hc1 : (c : Int) < (N : Int) := by omega
      have hmeth : ∀ W : World, (method 229 37 (.agg #[.slice A n cp]) "Head").run Try.prog W = .ok (80, .agg #[.slice A n cp]) W := fun W => by kernel_rfl
      go_wp2_with fail
      refine (head_w A n cp l c HN.out _ HRR.out).mono ?_
      rintro e w2 ⟨rfl, hb2⟩
      have H2 := Lib.hid (H1.out.below hb2)
      have HU2 := Lib.hid (HU1.out.next hb2)
      clear hb2 c2 r0 hmeth
      go_upto_region 6 with (fail)
      generalize hnn : (if (9216 : Int) < headV l c then (9216 : Int) else headV l c) = nn
      have HD := Lib.hid (show hdOf l c = nn from hnn)
      have hnb : nn ≤ 9216 := by rw [← hnn]; split <;> omega
      clear hnn
      by_cases hz : nn < 1
      · have dz : decide (nn < 1) = true := decide_eq_true hz
        go_wp2_with fail
        refine (sleepYes_w T C L N m1 t1 HO1.out c (by rw [HLN.out]; simp) _ H2.out).mono ?_
        rintro e w3 ⟨rfl, h3, hu3⟩
        have H3 := Lib.hid h3
        have HU3 := Lib.hid (HU2.out.trans hu3)
        clear h3 hu3
        go_wp2_with fail
        go_roundg (meas (hdOf l) (tnSleep t1 c))
        case measure => exact Nat.lt_of_lt_of_le (meas_sleep _ HO1.out HLN.out) HME.out
        case rel => exact ⟨tnSleep t1 c, m1 - 1, Nat.le_refl _, HO1.out.sleep HLN.out, H3.out, HU3.out, fun t' r hp => HPK.out _ _ (Pk.sleep HLN.out (by rw [HD.out]; exact hz) hp)⟩
      · have dz : decide (nn < 1) = false := decide_eq_false hz
        have c1 : w2.cell? ⟨T, 1, none⟩ = some (.slice (some ⟨C, 0, none⟩) N N) := H2.out.2.1.cell 1
        by_cases hf : x.fr = true
        · have r1 : w2.cell? ⟨C, c * 3 + 1, none⟩ = some (.bool true) := by rw [← hf]; exact (H2.out.cl HX.out).2.1
          obtain ⟨de1, hde1⟩ : ∃ de1, de1 = x.de + t1.q := ⟨_, rfl⟩
          have hd9 := hxb.2.2 hf
          have a1 : IntKind.i64.wrap (x.de + t1.q) = de1 := by rw [← hde1]; exact IntWalk.i64_in _ (by omega)
          have HDN := Lib.hid (show deNew t1 x = de1 by unfold deNew; rw [if_pos hf, hde1])
          have hdb : 0 ≤ de1 ∧ de1 ≤ 9216 + t1.q := by omega
          clear hde1 hd9 hf
          go_wp2_with fail
          refine wp_region_held_drew (S := (fun w' => w'.cell? ⟨T, 0, none⟩ = some (.int .i64 t1.q))) (by kernel_rfl) ((H2.out.2.1.cell 0)) (fun hHeld => ?_)
          generalize hW0 : World.drew _ = W0 at hHeld ⊢
          have H4 := Lib.hid (show TnO W0 T C L N m1 t1 by rw [← hW0]; exact H2.out)
          have HU4 := Lib.hid (show Upd3 T C L w W0 by rw [← hW0]; exact HU2.out.next (bl_drewN (Below.refl _ _) 1))
          have r2 : W0.cell? ⟨C, c * 3 + 2, none⟩ = some (.int .i64 x.de) := (H4.out.cl HX.out).2.2
          have f2 : W0.frozen? ⟨C, c * 3 + 2, none⟩ = false := H4.out.2.2.1.free _
          have H5 := Lib.hid (H4.out.de HX.out de1)
          have HU5 := Lib.hid (HU4.out.trans (Upd3.of2 ((Upd.refl C W0).set (c * 3 + 2) (.int .i64 de1))))
          clear hW0
          refine wpAnyH_take (i := 0) (v := ?_) rfl (by kernel_rfl) (by kernel_rfl) (by kernel_rfl) (fun _ _ _ h => h) (Or.inl ⟨by rfl, ?_⟩) (by assumption) ?_
          rotate_left
          · intro w hSw; (try dsimp only at hSw); go_simp
            try with_reducible rfl
          refine wpAnyH_take (i := 1) (v := ?_) rfl (by kernel_rfl) (by kernel_rfl) (by kernel_rfl) (fun _ _ _ h => h) (Or.inl ⟨by rfl, ?_⟩) (by assumption) ?_
          rotate_left
          · intro w hSw; (try dsimp only at hSw); go_simp
            try with_reducible rfl
          go_simp
          refine wpAnyH_take (i := 2) (v := ?_) rfl (by kernel_rfl) (by kernel_rfl) (by kernel_rfl) (fun _ _ _ h => h) (Or.inl ⟨by rfl, ?_⟩) (by assumption) ?_
          rotate_left
          · intro w hSw; (try dsimp only at hSw); go_simp
            try with_reducible rfl
          refine wpAnyH_take (i := 4) (v := ?_) rfl (by kernel_rfl) (by kernel_rfl) (by kernel_rfl) (fun _ _ _ h => h) (Or.inl ⟨by rfl, ?_⟩) (by assumption) ?_
          rotate_left
          · intro w hSw; (try dsimp only at hSw); go_simp
            try with_reducible rfl
          go_simp
          refine wpAnyH_take (i := 5) (v := ?_) rfl (by kernel_rfl) (by kernel_rfl) (by kernel_rfl) (fun _ _ _ h => h) (Or.inl ⟨by rfl, ?_⟩) (by assumption) ?_
          rotate_left
          · intro w hSw; (try dsimp only at hSw); go_simp
            try with_reducible rfl
          refine wpAnyH_take (i := 6) (v := ?_) rfl (by kernel_rfl) (by kernel_rfl) (by kernel_rfl) (fun _ _ _ h => h) (Or.inl ⟨by rfl, ?_⟩) (by assumption) ?_
          rotate_left
          · intro w hSw; (try dsimp only at hSw); go_simp
            try with_reducible rfl
          go_simp
          refine wpAnyH_take (i := 7) (v := ?_) rfl (by kernel_rfl) (by kernel_rfl) (by kernel_rfl) (fun _ _ _ h => h) (Or.inl ⟨by rfl, ?_⟩) (by assumption) ?_
          rotate_left
          · intro w hSw; (try dsimp only at hSw); go_simp
            try with_reducible rfl
          go_simp
          refine wpAnyH_ready (rs := [3]) (by kernel_rfl) (by simp) ?_
          refine AllReadyH.cons rfl (fun K hK => ?_) ?_
          rotate_left
          · exact AllReadyH.nil
          go_simp
          refine hK.out _ _ (hHeld) (fun hHeld => ?_)
          clear hK K
          refine wpAnyH_take (i := 8) (v := ?_) rfl (by kernel_rfl) (by kernel_rfl) (by kernel_rfl) (fun _ _ _ h => h) (Or.inl ⟨by rfl, ?_⟩) (by assumption) ?_
          rotate_left
          · intro w hSw; (try dsimp only at hSw); go_simp
            try with_reducible rfl
          refine wpAnyH_take (i := 9) (v := ?_) rfl (by kernel_rfl) (by kernel_rfl) (by kernel_rfl) (fun _ _ _ h => h) (Or.inl ⟨by rfl, ?_⟩) (by assumption) ?_
          rotate_left
          · intro w hSw; (try dsimp only at hSw); go_simp
            try with_reducible rfl
          go_simp
          refine wpAnyH_take (i := 10) (v := ?_) rfl (by kernel_rfl) (by kernel_rfl) (by kernel_rfl) (fun _ _ _ h => h) (Or.inl ⟨by rfl, ?_⟩) (by assumption) ?_
          rotate_left
          · intro w hSw; (try dsimp only at hSw); go_simp
            try with_reducible rfl
          go_simp
          refine wpAnyH_ready (rs := [11]) (by kernel_rfl) (by simp) ?_
          refine AllReadyH.cons rfl (fun K hK => ?_) ?_
          rotate_left
          · exact AllReadyH.nil
          go_simp
          refine hK.out _ _ ((H5.out.2.1.cell 0)) (fun hHeld => ?_)
          clear hK K
          refine wpAnyH_done (by kernel_rfl) ?_ _
          generalize hW5 : World.setCell W0 _ _ = W5 at hHeld H5 HU5 ⊢
          clear hW5 r2 f2
          have r3 : W5.cell? ⟨C, c * 3 + 1, none⟩ = some (.bool x.fr) := (H5.out.cl (tnSet_at _ HX.out)).2.1
          have f3 : W5.frozen? ⟨C, c * 3 + 1, none⟩ = false := H5.out.2.2.1.free _
          have h6 := H5.out.fr (tnSet_at _ HX.out) false
          rw [tnSet_set] at h6
          have H6A := Lib.hid (show TnO (W5.setCell ⟨C, c * 3 + 1, none⟩ (.bool false)) T C L N m1 (tnSet t1 c ⟨x.aw, false, de1⟩) from h6)
          have HU6A := Lib.hid (HU5.out.trans (Upd3.of2 ((Upd.refl C W5).set (c * 3 + 1) (.bool false))))
          clear h6
          go_upto_region 12 with (fail)
          generalize hW6 : World.setCell W5 _ _ = W6 at H6A HU6A ⊢
          clear hW6 r3 f3
          have H6 := H6A
          have HU6 := HU6A
          have rD : W6.cell? ⟨C, c * 3 + 2, none⟩ = some (.int .i64 de1) := (H6.out.cl (tnSet_at _ HX.out)).2.2
          have fD : W6.frozen? ⟨C, c * 3 + 2, none⟩ = false := H6.out.2.2.1.free _
          by_cases hs : nn ≤ de1
          · have ds : decide (nn ≤ de1) = true := decide_eq_true hs
            have a2 : IntKind.i64.wrap (de1 - nn) = de1 - nn := IntWalk.i64_in _ (by omega)
            have h7 := H6.out.de (tnSet_at ⟨x.aw, false, de1⟩ HX.out) (de1 - nn)
            rw [tnSet_set] at h7
            have H7 := Lib.hid h7
            have HU7 := Lib.hid (HU6.out.trans (Upd3.of2 ((Upd.refl C W6).set (c * 3 + 2) (.int .i64 (de1 - nn)))))
            clear h7
            go_wp2
            go_ret2
            refine ⟨_, some c, HPK.out _ _ (Pk.serve HLN.out (by rw [HD.out]; omega) HX.out (by rw [HD.out, HDN.out]; exact hs)), rfl, ⟨m1, ?_⟩, ?_, HU7.out⟩
            · rw [HD.out, HDN.out]
              exact H7.out
            · rw [HD.out, HDN.out]
              exact HO1.out.set HX.out rfl ⟨by show 0 ≤ de1 - nn; omega, by show de1 - nn ≤ 9216 + t1.q; omega, fun h => by cases h⟩
          · have ds : decide (nn ≤ de1) = false := decide_eq_false hs
            have hok6 : okTn (tnSet t1 c ⟨x.aw, false, de1⟩) := HO1.out.set HX.out rfl ⟨by show 0 ≤ de1; omega, by show de1 ≤ 9216 + t1.q; omega, fun h => by cases h⟩
            have HO6 := Lib.hid hok6
            clear hok6
            go_wp2_with fail
            refine (last_w T C L N m1 (tnSet t1 c ⟨x.aw, false, de1⟩) c rest HLN.out ⟨x.aw, false, de1⟩ (tnSet_at _ HX.out) hN129 _ H6.out).mono ?_
            rintro e w8 ⟨rfl, h8, hu8⟩
            have H8 := Lib.hid h8
            have HU8 := Lib.hid (HU6.out.trans hu8)
            clear h8 hu8
            go_wp2_with fail
            go_roundg (meas (hdOf l) (tnLast (tnSet t1 c ⟨x.aw, false, de1⟩) c rest ⟨x.aw, false, de1⟩))
            case measure =>
              have h1 := meas_last (hdOf l) HO1.out HLN.out HX.out (by rw [HD.out, HDN.out]; omega)
              rw [HDN.out] at h1
              exact Nat.lt_of_lt_of_le h1 HME.out
            case rel => exact ⟨_, m1, Nat.le_refl _, HO6.out.last HLN.out (tnSet_at _ HX.out) (by show de1 ≤ 9216; omega), H8.out, HU8.out, fun t' r hp => HPK.out _ _ (Pk.last HLN.out (by rw [HD.out]; omega) HX.out (by rw [HD.out, HDN.out]; omega) (by rw [HDN.out]; exact hp))⟩
        · have hff : x.fr = false := by simpa using hf
          have r1 : w2.cell? ⟨C, c * 3 + 1, none⟩ = some (.bool false) := by rw [← hff]; exact (H2.out.cl HX.out).2.1
          obtain ⟨de1, hde1⟩ : ∃ de1, de1 = x.de := ⟨_, rfl⟩
          have HDN := Lib.hid (show deNew t1 x = de1 by unfold deNew; rw [if_neg hf, hde1])
          have hdb : 0 ≤ de1 ∧ de1 ≤ 9216 + t1.q := by omega
          have hxe : (⟨x.aw, false, de1⟩ : Cl) = x := by rw [hde1, ← hff]
          have H6A := Lib.hid (show TnO w2 T C L N m1 (tnSet t1 c ⟨x.aw, false, de1⟩) by rw [hxe, tnSet_self HX.out]; exact H2.out)
          clear hde1 hff hf hxe
          go_upto_region 12 with (fail)
          obtain ⟨W6, hW6⟩ : ∃ W6, W6 = w2 := ⟨_, rfl⟩
          have H6 := Lib.hid (show TnO W6 T C L N m1 (tnSet t1 c ⟨x.aw, false, de1⟩) by rw [hW6]; exact H6A.out)
          have HU6 := Lib.hid (show Upd3 T C L w W6 by rw [hW6]; exact HU2.out)
          rw [← hW6]
          clear hW6 r1 c1
          have rD : W6.cell? ⟨C, c * 3 + 2, none⟩ = some (.int .i64 de1) := (H6.out.cl (tnSet_at _ HX.out)).2.2
          have fD : W6.frozen? ⟨C, c * 3 + 2, none⟩ = false := H6.out.2.2.1.free _
          by_cases hs : nn ≤ de1
          · have ds : decide (nn ≤ de1) = true := decide_eq_true hs
            have a2 : IntKind.i64.wrap (de1 - nn) = de1 - nn := IntWalk.i64_in _ (by omega)
            have h7 := H6.out.de (tnSet_at ⟨x.aw, false, de1⟩ HX.out) (de1 - nn)
            rw [tnSet_set] at h7
            have H7 := Lib.hid h7
            have HU7 := Lib.hid (HU6.out.trans (Upd3.of2 ((Upd.refl C W6).set (c * 3 + 2) (.int .i64 (de1 - nn)))))
            clear h7
            go_wp2
            go_ret2
            refine ⟨_, some c, HPK.out _ _ (Pk.serve HLN.out (by rw [HD.out]; omega) HX.out (by rw [HD.out, HDN.out]; exact hs)), rfl, ⟨m1, ?_⟩, ?_, HU7.out⟩
            · rw [HD.out, HDN.out]
              exact H7.out
            · rw [HD.out, HDN.out]
              exact HO1.out.set HX.out rfl ⟨by show 0 ≤ de1 - nn; omega, by show de1 - nn ≤ 9216 + t1.q; omega, fun h => by cases h⟩
          · have ds : decide (nn ≤ de1) = false := decide_eq_false hs
            have hok6 : okTn (tnSet t1 c ⟨x.aw, false, de1⟩) := HO1.out.set HX.out rfl ⟨by show 0 ≤ de1; omega, by show de1 ≤ 9216 + t1.q; omega, fun h => by cases h⟩
            have HO6 := Lib.hid hok6
            clear hok6
            go_wp2_with fail
            refine (last_w T C L N m1 (tnSet t1 c ⟨x.aw, false, de1⟩) c rest HLN.out ⟨x.aw, false, de1⟩ (tnSet_at _ HX.out) hN129 _ H6.out).mono ?_
            rintro e w8 ⟨rfl, h8, hu8⟩
            have H8 := Lib.hid h8
            have HU8 := Lib.hid (HU6.out.trans hu8)
            clear h8 hu8
            go_wp2_with fail
            go_roundg (meas (hdOf l) (tnLast (tnSet t1 c ⟨x.aw, false, de1⟩) c rest ⟨x.aw, false, de1⟩))
            case measure =>
              have h1 := meas_last (hdOf l) HO1.out HLN.out HX.out (by rw [HD.out, HDN.out]; omega)
              rw [HDN.out] at h1
              exact Nat.lt_of_lt_of_le h1 HME.out
            case rel => exact ⟨_, m1, Nat.le_refl _, HO6.out.last HLN.out (tnSet_at _ HX.out) (by show de1 ≤ 9216; omega), H8.out, HU8.out, fun t' r hp => HPK.out _ _ (Pk.last HLN.out (by rw [HD.out]; omega) HX.out (by rw [HD.out, HDN.out]; omega) (by rw [HDN.out]; exact hp))⟩
/-- The same, where the heads lie beside the turns' blocks. -/
theorem pick_w (T C L N m : Nat) (t : Tn) (hok : okTn t) (A : Option Addr) (n cp : Nat) (l : List Int) (hn : l.length = n) (w : World) (h : TnO w T C L N m t) (hr : RdI w A l) (hne : ∀ ad, A = some ad → ad.block ≠ T ∧ ad.block ≠ C ∧ ad.block ≠ L) :
    Calls Try.prog 14 #[.pointer (some ⟨T, 0, none⟩), .iface 37 (.agg #[.slice A n cp])] w fun e w' => ∃ t' r m', Pk (hdOf l) t t' r ∧ e = .returned (pickV r) ∧ TnO w' T C L N m' t' ∧ okTn t' ∧ Upd3 T C L w w' :=
  pickE_w T C L N m t hok A n cp l hn w h (fun w' hu => hr.upd3 hu hne)
end Go.Proofs.Ytlnfenjoagkpdaa
