/- The walk of TurnsNobody: it answers true. -/
import Derived.Test.YtlnfenjoagkpdaaTuG
namespace Go.Proofs.Ytlnfenjoagkpdaa
open Go.RowKit
set_option linter.unusedVariables false
set_option linter.unusedSimpArgs false

theorem RdI.nil (w : World) : RdI w none [] := ⟨by simp, fun j hj => by simp at hj⟩
theorem hd_nil (c : Nat) : hdOf [] c = 0 := by simp [hdOf, headV]
set_option maxRecDepth 100000 in
set_option maxHeartbeats 4000000 in
theorem TurnsNobody_w (A : Option Addr) (n c : Nat) (l : List Int) (w : World) (hs : SlI .u8 w A n c l) :
    Calls Try.prog 5 #[.slice A n c] w fun e w' => e = .returned (.bool true) ∧ Below w.heap.size w w' := by
  have HS := Lib.hid hs
  have hn63 : n ≤ 9223372036854775807 := Nat.le_trans hs.2.1 hs.2.2.1
  clear hs
  go_enter Try.func5, Try.ntmps5
  go_wp2_with fail
  refine (awake15_w _).mono ?_
  rintro e w1 ⟨rfl, hb1⟩
  have HB1 := Lib.hid hb1
  clear hb1
  by_cases hlim : 20 < n
  · have hlim' : (20 : Int) < (n : Int) := by omega
    go_wp2_with fail
    refine (awake15_w _).mono ?_
    rintro e w2 ⟨rfl, hb2⟩
    have HB2 := Lib.hid (bl_next HB1.out hb2)
    clear hb2
    go_wp2
    go_ret
    exact ⟨rfl, HB2.out⟩
  · have hlim' : ¬ (20 : Int) < (n : Int) := by omega
    go_wp2_with fail
    refine (tnNew_w 100 5 (by omega) (by omega) _).mono ?_
    rintro e w2 ⟨T, C, L, rfl, hT0, hC0, hL0, h2, hb2⟩
    have hT : w.heap.size ≤ T := Nat.le_trans HB1.out.size hT0
    have hC : w.heap.size ≤ C := Nat.le_trans HB1.out.size hC0
    have hL : w.heap.size ≤ L := Nat.le_trans HB1.out.size hL0
    have H2 := Lib.hid h2
    have HO2 := Lib.hid (tnNew_ok (n := 100) (q := 5) (by omega) (by omega))
    have HB2 := Lib.hid (bl_next HB1.out hb2)
    clear h2 hb2
    go_wp2_with fail
    go_loopw [26] (fun i wr => ∃ (k m : Nat) (t : Tn), k ≤ n ∧ i = .int .i64 k ∧ okTn t ∧ TnO wr T C L 100 m t ∧ Below w.heap.size w wr) (fun i _ => n - (intOf i).toNat)
    case atStart => exact ⟨0, 0, _, Nat.zero_le _, rfl, HO2.out, H2.out, HB2.out⟩
    case round =>
      obtain ⟨k, m, t, hk, rfl, hok, ht, hbel⟩ := hrel
      have H := Lib.hid ht
      have HO := Lib.hid hok
      have HBL := Lib.hid hbel
      clear hok ht hbel
      by_cases hlt : k < n
      · have hk0 : (0 : Int) ≤ (k : Int) := Int.natCast_nonneg k
        have hk1 : (k : Int) < (n : Int) := by omega
        obtain ⟨ad, rfl, hcell, hwf⟩ := HS.out.at k hlt
        have hx := u8_range hwf
        obtain ⟨x, hxe⟩ := Int.eq_ofNat_of_zero_le hx.1
        rw [hxe] at hcell hx
        have r0 : wr.cell? (ad.add k) = some (.int .u8 (x : Int)) := bl_keeps HBL.out hcell
        obtain ⟨r, hr⟩ : ∃ r, r = x % 100 := ⟨_, rfl⟩
        have e1 : (x : Int).tmod 100 = (r : Int) := by rw [Int.tmod_eq_emod_of_nonneg (by omega)]; omega
        have e2 : (x : Int) % 100 = (r : Int) := by omega
        have hr100 : r < 100 := by omega
        have e3 : IntKind.i64.wrap (r : Int) = (r : Int) := IntWalk.i64_in _ (by omega)
        clear hcell hwf hxe hr
        go_wp2_with fail
        refine (wake_w T C L 100 m t HO.out r hr100 _ H.out).mono ?_
        rintro e w3 ⟨b, m3, rfl, h3, ho3, hu3⟩
        have H3 := Lib.hid h3
        have HO3 := Lib.hid ho3
        have HB3 := Lib.hid (bl_upd3 HBL.out hu3 hT hC hL)
        clear h3 ho3 hu3
        go_wp2_with fail
        go_roundw
        case rel => exact ⟨k + 1, m3, _, by omega, by go_num, HO3.out, H3.out, HB3.out⟩
        case measure => simp [intOf]; omega
      · have hk1 : ¬ (k : Int) < (n : Int) := by omega
        have hm : m ≤ 100 := H.out.2.2.2.2.1
        go_wp2_with fail
        refine (tawake_w T C L 100 m t (by omega) _ H.out).mono ?_
        rintro e w3 ⟨v3, rfl, ho3, hb3⟩
        obtain ⟨A3, c3, rfl, hr3⟩ := own_Rd ho3
        have HR3 := Lib.hid hr3
        have H3 := Lib.hid (H.out.below hb3)
        have HB3 := Lib.hid (bl_next HBL.out hb3)
        clear ho3 hr3 hb3
        go_wp2_with fail
        refine (pickNil_w _ _ rfl T rfl _).mono ?_
        rintro e w' ⟨rfl, rfl⟩
        go_wp2_with fail
        refine (tawake_w T C L 100 m t (by omega) _ H3.out).mono ?_
        rintro e w4 ⟨v4, rfl, ho4, hb4⟩
        obtain ⟨A4, c4, rfl, hr4⟩ := own_Rd ho4
        have HR4 := Lib.hid hr4
        have HR34 := Lib.hid (HR3.out.below hb4)
        have H4 := Lib.hid (H3.out.below hb4)
        have HB4 := Lib.hid (bl_next HB3.out hb4)
        clear ho4 hr4 hb4
        go_wp2_with fail
        refine (intsN_w A4 A3 m c4 c3 t.line H4.out.1.2 (by omega) _ HR4.out HR34.out).mono ?_
        rintro e w5 ⟨rfl, q, rfl⟩
        have H5 := Lib.hid (show TnO (w4.drewN q) T C L 100 m t from H4.out)
        have HB5 := Lib.hid (bl_drewN HB4.out q)
        go_wp2_with fail
        refine (pick_w T C L 100 m t HO.out none 0 0 [] rfl _ H5.out (RdI.nil _) (fun ad e => by cases e)).mono ?_
        rintro e w6 ⟨t', r, m', hp, rfl, h6, ho6, hu6⟩
        obtain ⟨hr, hline⟩ := hp.slept (fun d _ => by rw [hd_nil]; omega)
        subst hr
        have hm' : m' = 0 := by rw [← h6.1.2, hline]; rfl
        subst hm'
        have H6 := Lib.hid h6
        have HB6 := Lib.hid (bl_upd3 HB5.out hu6 hT hC hL)
        clear h6 ho6 hu6 hp hline
        dsimp only [pickV]
        go_wp2_with fail
        refine (tawake_w T C L 100 0 t' (by omega) _ H6.out).mono ?_
        rintro e w7 ⟨v7, rfl, ho7, hb7⟩
        obtain ⟨A7, c7, rfl, _⟩ := own_Rd ho7
        have HB7 := Lib.hid (bl_next HB6.out hb7)
        clear ho7 hb7
        go_wp2
        go_ret
        exact ⟨rfl, HB7.out⟩
end Go.Proofs.Ytlnfenjoagkpdaa
