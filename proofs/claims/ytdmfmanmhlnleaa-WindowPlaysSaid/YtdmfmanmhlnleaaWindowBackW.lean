/- The walk of WindowBack: it answers true. -/
import Derived.Test.YtdmfmanmhlnleaaWnB
namespace Go.Proofs.Ytdmfmanmhlnleaa
open Go.RowKit
set_option linter.unusedVariables false
set_option linter.unusedSimpArgs false

theorem WdO.drewN {w : World} {B S L m : Nat} {d : Wd} (h : WdO w B S L m d) (n : Nat) : WdO (w.drewN n) B S L m d := h
theorem sk_one (R : Nat) (hR : 1 ≤ R ∧ R ≤ 64) (p : Px) (n : Int) (h : 0 ≤ n ∧ n ≤ 4611686018427387904) : (skAdd (skNew R) p n).l = [⟨p, n, 0⟩] := by
  rw [skAdd_new n (by simp [skNew, pxs]) (by simp [skNew]; omega), plus_in (by omega) h.1 (by omega), Int.zero_add]
  rfl
theorem sk_two {s : Sk} {p : Px} {n k : Int} (hl : s.l = [⟨p, n, 0⟩]) (hn : 0 ≤ n) (hk : 0 ≤ k) (h : n + k ≤ 4611686018427387904) : (skAdd s p k).l = [⟨p, n + k, 0⟩] := by
  obtain ⟨i, y, hy, hp, he⟩ := skAdd_found (s := s) (p := p) k (by simp [pxs, hl])
  rw [hl] at hy he
  match i, hy with
  | 0, hy =>
    simp at hy
    subst hy
    rw [he]
    simp [plus_in hn hk h]
theorem at_in {d : Wd} {now : Int} (h0 : 0 ≤ now) (h1 : now ≤ 4611686018427387903) : wdAt d now = now / d.ns := by
  unfold wdAt
  rw [show max 0 (min now 4611686018427387903) = now by omega]
theorem turn_new (R : Nat) (t thr : Int) (now : Int) (h0 : 0 ≤ now) (h1 : now ≤ 4611686018427387903) (ht : 1 ≤ t) : wdTurn (wdNew R t thr) now = ⟨skNew R, t, thr, now / t⟩ := by
  have ha : wdAt (wdNew R t thr) now = now / t := at_in h0 h1
  unfold wdTurn
  rw [ha]
  split
  · rfl
  · rename_i h
    have hq : 0 ≤ now / t := Int.ediv_nonneg h0 (by omega)
    have : now / t = 0 := by
      have : ¬ (0 : Int) < now / t := h
      omega
    rw [this]
    rfl
theorem at_mono {d : Wd} (hd : 1 ≤ d.ns) {a b : Int} (h : a ≤ b) : wdAt d a ≤ wdAt d b := by
  unfold wdAt
  exact Int.ediv_le_ediv (by omega) (by omega)
/-- The second moment is counted in the first one's window. -/
theorem back_law (R : Nat) (hR : 1 ≤ R ∧ R ≤ 64) (t at' bk n : Int) (ht : 1 ≤ t) (ha : 0 ≤ at' ∧ at' ≤ 1125899906842623) (hb : 0 ≤ bk) (p : Px) (hn : 0 ≤ n ∧ n ≤ 4294967295) :
    ∃ s, s.l = [⟨p, 2 * n, 0⟩] ∧ wdAdd (wdAdd (wdNew R t 4611686018427387903) at' p n) (at' - bk) p n = ⟨s, t, 4611686018427387903, at' / t⟩ := by
  have h1 : wdAdd (wdNew R t 4611686018427387903) at' p n = ⟨skAdd (skNew R) p n, t, 4611686018427387903, at' / t⟩ := by
    unfold wdAdd
    rw [turn_new R t _ at' ha.1 (by omega) ht]
  rw [h1]
  have h2 : wdTurn ⟨skAdd (skNew R) p n, t, 4611686018427387903, at' / t⟩ (at' - bk) = ⟨skAdd (skNew R) p n, t, 4611686018427387903, at' / t⟩ := by
    unfold wdTurn
    rw [if_neg]
    have hm := at_mono (d := ⟨skAdd (skNew R) p n, t, 4611686018427387903, at' / t⟩) ht (a := at' - bk) (b := at') (by omega)
    have he : wdAt ⟨skAdd (skNew R) p n, t, 4611686018427387903, at' / t⟩ at' = at' / t := at_in ha.1 (by omega)
    rw [he] at hm
    show ¬ at' / t < _
    omega
  refine ⟨skAdd (skAdd (skNew R) p n) p n, ?_, ?_⟩
  · rw [sk_two (sk_one R hR p n (by omega)) (by omega) (by omega) (by omega), show n + n = 2 * n by omega]
  · unfold wdAdd
    rw [h2]

set_option maxRecDepth 100000 in
set_option maxHeartbeats 4000000 in
theorem WindowBack_x (sl ns now back : Int) (p : Px) (n : Int) (hsl : 0 ≤ sl ∧ sl ≤ 255) (hns : 0 ≤ ns ∧ ns ≤ 18446744073709551615) (hnow : 0 ≤ now ∧ now ≤ 18446744073709551615) (hback : 0 ≤ back ∧ back ≤ 18446744073709551615) (hp : okPx p) (hn : 0 ≤ n ∧ n ≤ 4294967295) (w : World) :
    Calls Try.prog 10 #[.int .u8 sl, .int .u64 ns, .int .u64 now, .int .u64 back, .agg (pxC p).toArray, .int .u32 n] w fun e w' => e = .returned (.bool true) ∧ Below w.heap.size w w' := by
  obtain ⟨b0, rfl⟩ := Int.eq_ofNat_of_zero_le hsl.1
  obtain ⟨r0, hr0⟩ : ∃ r0, r0 = b0 % 64 := ⟨_, rfl⟩
  obtain ⟨R, hR⟩ : ∃ R, R = 1 + r0 := ⟨_, rfl⟩
  have hRb : 1 ≤ R ∧ R ≤ 64 := by omega
  have b1 : IntKind.i64.wrap (b0 : Int) = (b0 : Int) := IntWalk.i64_in _ (by omega)
  have b2 : (b0 : Int).tmod 64 = (r0 : Int) := by rw [Int.tmod_eq_emod_of_nonneg (by omega)]; omega
  have b2' : (b0 : Int) % 64 = (r0 : Int) := by omega
  have b3 : IntKind.i64.wrap (1 + (r0 : Int)) = (R : Int) := by rw [show 1 + (r0 : Int) = (R : Int) by omega]; exact IntWalk.i64_in _ (by omega)
  obtain ⟨q1, hq1⟩ : ∃ q1, ns % 1099511627776 = q1 := ⟨_, rfl⟩
  have n1 : ns.tmod 1099511627776 = q1 := by rw [Int.tmod_eq_emod_of_nonneg hns.1]; exact hq1
  have n2 : IntKind.i64.wrap q1 = q1 := IntWalk.i64_in _ (by omega)
  obtain ⟨t, ht⟩ : ∃ t, 1 + q1 = t := ⟨_, rfl⟩
  have n3 : IntKind.i64.wrap (1 + q1) = t := by rw [ht]; exact IntWalk.i64_in _ (by omega)
  have htb : 1 ≤ t ∧ t ≤ 1099511627776 := by omega
  obtain ⟨at', hat⟩ : ∃ at', now % 1125899906842624 = at' := ⟨_, rfl⟩
  have n4 : now.tmod 1125899906842624 = at' := by rw [Int.tmod_eq_emod_of_nonneg hnow.1]; exact hat
  have n5 : IntKind.i64.wrap at' = at' := IntWalk.i64_in _ (by omega)
  have hab : 0 ≤ at' ∧ at' ≤ 1125899906842623 := by omega
  obtain ⟨bk, hbk⟩ : ∃ bk, back % 1125899906842624 = bk := ⟨_, rfl⟩
  have n6 : back.tmod 1125899906842624 = bk := by rw [Int.tmod_eq_emod_of_nonneg hback.1]; exact hbk
  have n7 : IntKind.i64.wrap bk = bk := IntWalk.i64_in _ (by omega)
  have hbb : 0 ≤ bk ∧ bk ≤ 1125899906842623 := by omega
  have n8 : IntKind.i64.wrap (at' - bk) = at' - bk := IntWalk.i64_in _ (by omega)
  have n9 : IntKind.i64.wrap n = n := IntWalk.i64_in _ (by omega)
  have n10 : IntKind.i64.wrap (2 * n) = 2 * n := IntWalk.i64_in _ (by omega)
  obtain ⟨nu, hnu⟩ : ∃ nu, at' / t = nu := ⟨_, rfl⟩
  have n11 : at'.tdiv t = nu := by rw [Int.tdiv_eq_ediv_of_nonneg hab.1]; exact hnu
  have hnub : 0 ≤ nu ∧ nu ≤ 1125899906842623 := by
    have h1 := Int.ediv_nonneg hab.1 (show 0 ≤ t by omega)
    have h2 := Int.ediv_le_self t hab.1
    omega
  have n12 : IntKind.i64.wrap nu = nu := IntWalk.i64_in _ (by omega)
  have t0 : ¬ t = 0 := by omega
  have tm : ¬ t = -1 := by omega
  have hLAW := back_law R hRb t at' bk n htb.1 hab hbb.1 p hn
  rw [hnu] at hLAW
  obtain ⟨s2, hs2, hd2⟩ := hLAW
  obtain ⟨d0, hd0⟩ : ∃ d0, d0 = wdNew R t 4611686018427387903 := ⟨_, rfl⟩
  rw [← hd0] at hd2
  have O0 := Lib.hid (show okWd d0 by rw [hd0]; exact wdNew_ok hRb (by omega) (by omega))
  have HD0 := Lib.hid hd0
  have HD2 := Lib.hid hd2
  have HS2 := Lib.hid hs2
  have HPA := Lib.hid (px_sizeA hp)
  have hbw := bl_alloc (Below.refl w.heap.size w) (.cells (pxC p).toArray 30)
  have HPB := Lib.hid (Obj1.new w (pxC p).toArray 30)
  have HBW := Lib.hid hbw
  clear hr0 hR hq1 ht hat hbk hnu hd0 hd2 hs2 hbw
  go_enter Try.func10, Try.ntmps10
  go_wp2_with fail
  refine (awake19_w _).mono ?_
  rintro e w1 ⟨rfl, hb1⟩
  have HP1 := Lib.hid (HPB.out.below hb1)
  have HB1 := Lib.hid (bl_next HBW.out hb1)
  clear hb1
  go_wp2_with fail
  refine (wdNew_w R hRb t 4611686018427387903 (by omega) (by omega) _).mono ?_
  rintro e w2 ⟨B, S, L, rfl, hwL0, hLS, hSB, hW2, hb2⟩
  rw [← HD0.out] at hW2
  have H2 := Lib.hid hW2
  have HP2 := Lib.hid (HP1.out.below hb2)
  have HB2 := Lib.hid (bl_next HB1.out hb2)
  have hwL : w.heap.size ≤ L := Nat.le_trans HB1.out.size hwL0
  have hPL : w.heap.size < L := Nat.lt_of_lt_of_le HP1.out.lt hwL0
  clear hW2 hb2
  go_wp2_with (refine load_obj rfl 30 (.tmp 10) rfl w.heap.size 30 (pxC p).toArray _ rfl HP2.out Try.underlying30 rfl HPA.out ?_)
  refine (wdAdd_w B S L 0 d0 O0.out at' p hp n _ H2.out).mono ?_
  rintro e w3 ⟨x3, m3, _, rfl, hW3, hu3⟩
  have H3 := Lib.hid hW3
  have HP3 := Lib.hid (show Obj1 w3 w.heap.size (pxC p).toArray 30 from (hu3.2.2.2.2 _ HP2.out.lt (by omega) (by omega) (by omega)).trans HP2.out)
  have HB3 := Lib.hid (bl_upd3 HB2.out hu3 (by omega) (by omega) hwL)
  have O1 := Lib.hid (wdAdd_ok O0.out at' hp n)
  clear hW3 hu3
  go_wp2_with (refine load_obj rfl 30 (.tmp 10) rfl w.heap.size 30 (pxC p).toArray _ rfl HP3.out Try.underlying30 rfl HPA.out ?_)
  refine (wdAdd_w B S L m3 _ O1.out (at' - bk) p hp n _ H3.out).mono ?_
  rintro e w4 ⟨x4, m4, _, rfl, hW4, hu4⟩
  have O2 := wdAdd_ok O1.out (at' - bk) hp n
  rw [HD2.out] at hW4 O2
  have H4 := Lib.hid hW4
  have HO2 := Lib.hid O2
  have HB4 := Lib.hid (bl_upd3 HB3.out hu4 (by omega) (by omega) hwL)
  clear hW4 hu4 O2
  go_wp2_with fail
  refine (wdSlots_w B S L m4 _ HO2.out.1 _ H4.out).mono ?_
  rintro e w5 ⟨v5, rfl, ho5, hb5⟩
  obtain ⟨A5, c5, rfl, hmc5, hlm5, hrd5⟩ := own_read ho5 HO2.out.1.px
  have hm1 : m4 = 1 := by rw [← hlm5]; show s2.l.length = 1; rw [HS2.out]; rfl
  subst hm1
  obtain ⟨g, _, rfl, hc5⟩ := hrd5 0 ⟨p, 2 * n, 0⟩ (by show s2.l[0]? = _; rw [HS2.out]; rfl)
  have H5 := Lib.hid (H4.out.below hb5)
  have HB5 := Lib.hid (bl_next HB4.out hb5)
  have r8 : w5.cell? ⟨g, 8, none⟩ = some (.int .i64 (2 * n)) := by
    have := hc5 8 _ (sloC_tail hp).1
    rwa [add_flat] at this
  clear ho5 hb5 hrd5 hc5 hlm5
  go_wp2_with fail
  go_quiet ((go_at_call 28; exact quiet_left (wdNumber_w B S L 1 ⟨s2, t, 4611686018427387903, nu⟩ _ (H5.out.drewN _))))
  go_wp2
  go_ret
  exact ⟨rfl, bl_drewN HB5.out _⟩
theorem WindowBack_w (sl ns now back : Int) (cs : Array Value) (n : Int) (w : World) (h1 : (Lit.int .u8 sl).wf = true) (h2 : (Lit.int .u64 ns).wf = true) (h3 : (Lit.int .u64 now).wf = true) (h4 : (Lit.int .u64 back).wf = true) (hcs : okCells pxKs cs.toList) (h5 : (Lit.int .u32 n).wf = true) :
    Calls Try.prog 10 #[.int .u8 sl, .int .u64 ns, .int .u64 now, .int .u64 back, .agg cs, .int .u32 n] w fun e w' => e = .returned (.bool true) ∧ Below w.heap.size w w' := by
  obtain ⟨p, hp, rfl⟩ := pxA_of hcs
  have u64r : ∀ {n : Int}, (Lit.int .u64 n).wf = true → 0 ≤ n ∧ n ≤ 18446744073709551615 := by
    intro n h
    simp only [Lit.wf, IntKind.min, IntKind.max, IntKind.signed, IntKind.bits, Bool.and_eq_true, decide_eq_true_eq] at h
    simp at h; omega
  exact WindowBack_x sl ns now back p n (u8_range h1) (u64r h2) (u64r h3) (u64r h4) hp (u32_range h5) w
end Go.Proofs.Ytdmfmanmhlnleaa
