/- The walk of TurnsSleep: it answers true. -/
import Derived.Test.YtlnfenjoagkpdaaTuH
namespace Go.Proofs.Ytlnfenjoagkpdaa
open Go.RowKit
set_option linter.unusedVariables false
set_option linter.unusedSimpArgs false

theorem i8_range {n : Int} (h : (Lit.int .i8 n).wf = true) : -128 ≤ n ∧ n ≤ 127 := by
  simp only [Lit.wf, IntKind.min, IntKind.max, IntKind.signed, IntKind.bits, Bool.and_eq_true, decide_eq_true_eq] at h
  simp at h; omega
theorem TnO.drewN {w : World} {T C L N m : Nat} {t : Tn} (h : TnO w T C L N m t) (q : Nat) : TnO (w.drewN q) T C L N m t := h
theorem deOf_wake {t : Tn} {k : Nat} (hk : k < t.l.length) : deOf (tnWake t k) (k : Int) = 0 := by
  unfold deOf tnWake
  show (if 0 ≤ (k : Int) ∧ (k : Int) < ((t.l.set k ⟨true, true, 0⟩).length : Int) then (match (t.l.set k ⟨true, true, 0⟩)[((k : Int)).toNat]? with | some x => x.de | none => 0) else 0) = _
  rw [List.length_set, show ((k : Int)).toNat = k from rfl, List.getElem?_set_self hk]
  split <;> rfl
theorem own_later {w w' : World} {B B' : Nat} {e e' : TypeId} {s s' : Nat} {v v' : Value} {n n' : Nat} {xs xs' : List Value} (h : w.ownsRow B e s v n xs) (h' : w'.ownsRow B' e' s' v' n' xs') (hB : w.heap.size ≤ B') : v'.ownBlock = none ∨ v'.ownBlock ≠ v.ownBlock := by
  rcases ho : v'.ownBlock with _ | g
  · exact .inl rfl
  · right
    intro e
    have h1 := (h.lt g e.symm).2
    have h2 := (h'.lt g ho).1
    omega
theorem two_rows {w3 wr w6 : World} {B : Nat} {v u : Value} {e e' : TypeId} {s s' n n' : Nat} {xs ys : List Value} (h : wr.ownsRow B e s v n xs) (h' : wr.ownsRow B e' s' u n' ys) (he : e' ≠ e) (hB : B = w3.heap.size) (hb : Below B w3 wr) (o : Obj) (hg : (wr.alloc o).grownBy w6 v.ownBlock) : Below B w3 w6 ∧ w6.ownsRow B e' s' u n' ys := by
  subst hB
  exact ⟨bl_grown (bl_alloc hb o) (h.alloc o) hg (Nat.le_refl _), (h'.alloc o).kept hg (own_apart (h'.alloc o) (h.alloc o) he)⟩
/-- What they have. -/
def leftOf (t : Tn) (l : List Nat) : List Int := l.map fun (d : Nat) => deOf t (d : Int)
theorem leftOf_append (t : Tn) (l m : List Nat) : leftOf t (l ++ m) = leftOf t l ++ leftOf t m := by simp [leftOf]
theorem leftOf_at {t : Tn} {l : List Nat} {k d : Nat} (h : l[k]? = some d) : (vals (leftOf t l))[k]? = some (.int .i64 (deOf t (d : Int))) := by simp [leftOf, vals, h]
theorem leftOf_length (t : Tn) (l : List Nat) : (leftOf t l).length = l.length := by simp [leftOf]
theorem vals_append (l m : List Int) : vals (l ++ m) = vals l ++ vals m := by simp [vals]

set_option maxRecDepth 100000 in
set_option maxHeartbeats 8000000 in
theorem TurnsSleep_w (A : Option Addr) (n cp : Nat) (rows : List (List Value)) (c : Int) (w : World) (hs : SlQ [.i .u8, .i .i8, .sl .i64] w A n cp rows) (h2 : (Lit.int .i8 c).wf = true) :
    Calls Try.prog 7 #[.slice A n cp, .int .i8 c] w fun e w' => e = .returned (.bool true) ∧ Below w.heap.size w w' := by
  have hn63 : n ≤ 9223372036854775807 := Nat.le_trans hs.2.1 hs.2.2.1
  have HS := Lib.hid hs
  have hc8 := i8_range h2
  have b1 : IntKind.i64.wrap c = c := IntWalk.i64_in _ (by omega)
  clear hs h2
  go_enter Try.func7, Try.ntmps7
  go_wp2_with fail
  refine (awake15_w _).mono ?_
  rintro e w1 ⟨rfl, hb1⟩
  have HB1 := Lib.hid hb1
  clear hb1
  go_wp2_with fail
  refine (few15_w A n cp rows _ (HS.out.below HB1.out)).mono ?_
  rintro e w' ⟨⟨fw, rfl, hfw⟩, rfl⟩
  clear hfw
  cases fw
  · go_wp2_with fail
    refine (awake15_w _).mono ?_
    rintro e w2 ⟨rfl, hb2⟩
    have HB2 := Lib.hid (bl_next HB1.out hb2)
    clear hb2
    go_wp2
    go_ret
    exact ⟨rfl, HB2.out⟩
  · by_cases hlim : 30 < n
    · have hlim' : (30 : Int) < (n : Int) := by omega
      go_wp2_with fail
      refine (awake15_w _).mono ?_
      rintro e w2 ⟨rfl, hb2⟩
      have HB2 := Lib.hid (bl_next HB1.out hb2)
      clear hb2
      go_wp2
      go_ret
      exact ⟨rfl, HB2.out⟩
    · have hlim' : ¬ (30 : Int) < (n : Int) := by omega
      go_wp2_with fail
      refine (tnNew_w 20 5000 (by omega) (by omega) _).mono ?_
      rintro e w2 ⟨T, C, L, rfl, hT0, hC0, hL0, ht2, hb2⟩
      have hT : w.heap.size ≤ T := Nat.le_trans HB1.out.size hT0
      have hC : w.heap.size ≤ C := Nat.le_trans HB1.out.size hC0
      have hL : w.heap.size ≤ L := Nat.le_trans HB1.out.size hL0
      have H2 := Lib.hid ht2
      have HO2 := Lib.hid (tnNew_ok (n := 20) (q := 5000) (by omega) (by omega))
      have HB2 := Lib.hid (bl_next HB1.out hb2)
      clear ht2 hb2
      go_wp2_with fail
      go_loopw [33] (fun i wr => ∃ (k m : Nat) (t : Tn), k ≤ n ∧ i = .int .i64 k ∧ okTn t ∧ TnO wr T C L 20 m t ∧ Below w.heap.size w wr) (fun i _ => n - (intOf i).toNat)
      case atStart => exact ⟨0, 0, _, Nat.zero_le _, rfl, HO2.out, H2.out, HB2.out⟩
      case round =>
        obtain ⟨k, m, t, hk, rfl, hok, ht, hbel⟩ := hrel
        have H := Lib.hid ht
        have HO := Lib.hid hok
        have HBL := Lib.hid hbel
        clear hok ht hbel
        by_cases hlt : k < n
        · have hk0 : (0 : Int) ≤ (k : Int) := Int.natCast_nonneg k
          have hk1 : (k : Int) < (n : Int) := by omega
          obtain ⟨ab, ao, kd, nn, ha, hm, hd, hl, rfl, c0', c1', c2', hsl, wkd, wnn⟩ := HS.out.act15 k hlt
          have c0 := bl_keeps HBL.out c0'
          have c1 := bl_keeps HBL.out c1'
          have c2 := bl_keeps HBL.out c2'
          have hkd := u8_range wkd
          have hnn := i8_range wnn
          have b2 : IntKind.i64.wrap nn = nn := IntWalk.i64_in _ (by omega)
          have HSL := Lib.hid hsl
          clear c0' c1' c2' hsl wkd wnn
          obtain ⟨kq, rfl⟩ := Int.eq_ofNat_of_zero_le hkd.1
          obtain ⟨kr, hkr⟩ : ∃ kr, kr = kq % 5 := ⟨_, rfl⟩
          have d1 : (kq : Int).tmod 5 = (kr : Int) := by rw [Int.tmod_eq_emod_of_nonneg (by omega)]; omega
          have d2 : (kq : Int) % 5 = (kr : Int) := by omega
          have d3 : IntKind.u8.wrap (kr : Int) = (kr : Int) := IntWalk.u8_in _ (by omega)
          by_cases hk3 : kr < 3
          · have hk3' : (kr : Int) < 3 := by omega
            clear hkr
            go_wp2_with fail
            refine (wakeAny_w T C L 20 m t HO.out nn _ H.out).mono ?_
            rintro e w3 ⟨bb, t', m', rfl, h3, ho3, hu3⟩
            have H3 := Lib.hid h3
            have HO3 := Lib.hid ho3
            have HB3 := Lib.hid (bl_upd3 HBL.out hu3 hT hC hL)
            clear h3 ho3 hu3
            go_wp2_with fail
            go_roundw
            case rel => exact ⟨k + 1, m', t', by omega, by go_num, HO3.out, H3.out, HB3.out⟩
            case measure => simp [intOf]; omega
          · have hk3' : ¬ (kr : Int) < 3 := by omega
            clear hkr
            go_wp2_with fail
            refine (pickE_w T C L 20 m t HO.out ha hm hd hl HSL.out.1 _ H.out (fun w' hu => HSL.out.heads (Nat.le_refl _) ⟨hT, hC, hL⟩ HBL.out hu)).mono ?_
            rintro e w3 ⟨t', r, m', hp, rfl, h3, ho3, hu3⟩
            have H3 := Lib.hid h3
            have HO3 := Lib.hid ho3
            have HB3 := Lib.hid (bl_upd3 HBL.out hu3 hT hC hL)
            clear h3 ho3 hu3 hp
            cases r
            all_goals
              dsimp only [pickV]
              go_wp2_with fail
              go_roundw
              case rel => exact ⟨k + 1, m', t', by omega, by go_num, HO3.out, H3.out, HB3.out⟩
              case measure => simp [intOf]; omega
        · have hk1 : ¬ (k : Int) < (n : Int) := by omega
          have hm : m ≤ 20 := H.out.2.2.2.2.1
          go_wp2_with fail
          refine (tawake_w T C L 20 m t (by omega) _ H.out).mono ?_
          rintro e w3 ⟨v3, rfl, ho3, hb3⟩
          obtain ⟨A3, c3, rfl, hr3⟩ := own_Rd ho3
          have HR3 := Lib.hid hr3
          have H3 := Lib.hid (H.out.below hb3)
          have HB3 := Lib.hid (bl_next HBL.out hb3)
          have HLL := Lib.hid H.out.1.2
          have HTB := Lib.hid (show T < w3.heap.size ∧ C < w3.heap.size ∧ L < w3.heap.size from ⟨H3.out.2.1.lt, H3.out.2.2.1.lt, H3.out.2.2.2.lt⟩)
          clear ho3 hr3 hb3
          go_wp2_with fail
          go_loopw [9, 10, 65] (fun v u i wr => ∃ (k r : Nat), k ≤ m ∧ i = .int .i64 k ∧ r = (restOf c (t.line.take k)).length ∧ wr.ownsRow w3.heap.size 3 1 v r (lineV (restOf c (t.line.take k))) ∧ wr.ownsRow w3.heap.size 2 1 u r (vals (leftOf t (restOf c (t.line.take k)))) ∧ Below w3.heap.size w3 wr) (fun _ _ i _ => m - (intOf i).toNat)
          case atStart => exact ⟨0, 0, Nat.zero_le _, rfl, rfl, World.ownsRow_nil _ _ _ _, World.ownsRow_nil _ _ _ _, Below.refl _ _⟩
          case round =>
            obtain ⟨k2, r, hk2, rfl, hr, hown, hownL, hbel⟩ := hrel
            have HOW := Lib.hid hown
            have HOL := Lib.hid hownL
            have HBW := Lib.hid hbel
            have HRL := Lib.hid hr
            have hr20 : r ≤ 20 := by
              have := restOf_len c (t.line.take k2)
              have h4 := List.length_take_le k2 t.line
              omega
            clear hown hownL hbel hr
            by_cases hlt2 : k2 < m
            · have hj0 : (0 : Int) ≤ (k2 : Int) := Int.natCast_nonneg k2
              have hj1 : (k2 : Int) < (m : Int) := by omega
              obtain ⟨d, hd2⟩ : ∃ d, t.line[k2]? = some d := ⟨_, List.getElem?_eq_getElem (by rw [HLL.out]; exact hlt2)⟩
              obtain ⟨ad, rfl, hcell⟩ := HR3.out k2 _ (lineV_at hd2)
              have r0 : wr.cell? (ad.add k2) = some (.int .i64 (d : Int)) := bl_keeps HBW.out hcell
              have HST := Lib.hid (restOf_step (c := c) hd2)
              have HCELL := Lib.hid hcell
              clear hcell hd2
              by_cases hdc : (d : Int) = c
              · have HDC := Lib.hid hdc
                have hbq : ((d : Int) == c) = true := by simp [hdc]
                have hdq : decide ((d : Int) = c) = true := by simp [hdc]
                clear hdc
                go_wp2_with fail
                go_roundw
                case rel =>
                  have e : restOf c (t.line.take (k2 + 1)) = restOf c (t.line.take k2) := by rw [HST.out, if_pos HDC.out, List.append_nil]
                  exact ⟨k2 + 1, r, by omega, by go_num, by rw [e]; exact HRL.out, by rw [e]; exact HOW.out, by rw [e]; exact HOL.out, HBW.out⟩
                case measure => simp [intOf]; omega
              · have HDC := Lib.hid hdc
                have hbq : ((d : Int) == c) = false := by simp [hdc]
                have hdq : decide ((d : Int) = c) = false := by simp [hdc]
                have HSZ := Lib.hid HBW.out.size
                go_wp2_with (first
                  | (at_builtin; go_loud (refine app_list w3.heap.size rfl (.tmp 75) (.tmp 80) 32 3 (.int .i64 0) 1 8 rfl Try.underlying32 (by kernel_rfl) rfl (by omega) (by omega) _ r _ (some ⟨wr.heap.size, 0, none⟩) 1 1 (vals [(d : Int)]) rfl rfl (HOW.out.alloc _) rfl (fun i v hv => ⟨_, rfl, obj_cells (Obj1.new wr #[.int .i64 (d : Int)] 3) (d := vals [(d : Int)]) (fun i v h => h) i v hv⟩) (vals_one _) (by omega) (by have := HSZ.out; simp; omega) ?_); intro v6 w6 hown6 hg6; have HO6 := Lib.hid hown6; obtain ⟨hb6, hl6⟩ := two_rows HOW.out HOL.out (by decide) rfl HBW.out _ hg6; have HL6 := Lib.hid hl6; have HB6 := Lib.hid hb6; have r6 : w6.cell? (ad.add k2) = some (.int .i64 (d : Int)) := bl_keeps hb6 HCELL.out; clear hown6 hg6 hb6 hl6))
                refine (deficit_w T C L 20 m t (by omega) d _ (H3.out.below HB6.out)).mono ?_
                rintro e w' ⟨rfl, rfl⟩
                have HSZ6 := Lib.hid HB6.out.size
                go_wp2_with (at_builtin; refine app_list w3.heap.size rfl (.tmp 82) (.tmp 89) 58 2 (.int .i64 0) 1 8 rfl Try.underlying58 (by kernel_rfl) rfl (by omega) (by omega) _ r _ (some ⟨w6.heap.size, 0, none⟩) 1 1 (vals [deOf t (d : Int)]) rfl rfl (HL6.out.alloc _) rfl (fun i v hv => ⟨_, rfl, obj_cells (Obj1.new w6 #[.int .i64 (deOf t (d : Int))] 2) (d := vals [deOf t (d : Int)]) (fun i v h => h) i v hv⟩) (vals_one _) (by omega) (by have := HSZ6.out; simp; omega) ?_; intro v7 w7 hown7 hg7; have HL7 := Lib.hid hown7; obtain ⟨hb7, ho7⟩ := two_rows HL6.out HO6.out (by decide) rfl HB6.out _ hg7; have HO7 := Lib.hid ho7; have HB7 := Lib.hid hb7; clear hown7 hg7 hb7 ho7)
                go_roundw
                case rel =>
                  have e : restOf c (t.line.take (k2 + 1)) = restOf c (t.line.take k2) ++ [d] := by rw [HST.out, if_neg HDC.out]
                  refine ⟨k2 + 1, r + 1, by omega, by go_num, by rw [e, List.length_append, HRL.out]; rfl, ?_, ?_, HB7.out⟩
                  · rw [e, lineV_append]
                    exact HO7.out
                  · rw [e, leftOf_append, vals_append]
                    exact HL7.out
                case measure => simp [intOf]; omega
            · have hj1 : ¬ (k2 : Int) < (m : Int) := by omega
              have hfull : t.line.take k2 = t.line := List.take_of_length_le (by rw [HLL.out]; omega)
              rw [hfull] at HOW HOL HRL
              obtain ⟨A5, c5, rfl, hrd5⟩ := own_Rd HOW.out
              obtain ⟨A6, c6, rfl, hrd6⟩ := own_Rd HOL.out
              have HR5 := Lib.hid hrd5
              have HR6 := Lib.hid hrd6
              have HWR := Lib.hid (H3.out.below HBW.out)
              have HBR := Lib.hid (bl_next HB3.out (show Below w3.heap.size w3 wr from HBW.out))
              have HSZ := Lib.hid HBW.out.size
              clear hrd5 hrd6 hfull
              go_wp2_with fail
              refine (sleepAny_w T C L 20 m t HO.out c _ HWR.out).mono ?_
              rintro e w5 ⟨bs, t5, m5, rfl, h5, ho5, hline5, hbs, hde5, hx5, hu5⟩
              have hm5 : m5 = r := by rw [← h5.1.2, hline5, HRL.out]
              subst hm5
              have H5 := Lib.hid h5
              have HO5 := Lib.hid ho5
              have HLN5 := Lib.hid hline5
              have HDE5 := Lib.hid hde5
              have HX5 := Lib.hid hx5
              have HB5 := Lib.hid (bl_upd3 HBR.out hu5 hT hC hL)
              have HOW5 := Lib.hid (own_keep HOW.out (fun g hg hlt => hu5.2.2.2.2 g hlt (by have := HTB.out; omega) (by have := HTB.out; omega) (by have := HTB.out; omega)) hu5.2.2.2.1 hu5.1 hu5.2.1 hu5.2.2.1)
              have HOL5 := Lib.hid (own_keep HOL.out (fun g hg hlt => hu5.2.2.2.2 g hlt (by have := HTB.out; omega) (by have := HTB.out; omega) (by have := HTB.out; omega)) hu5.2.2.2.1 hu5.1 hu5.2.1 hu5.2.2.1)
              have HSZ5 := Lib.hid (show w3.heap.size ≤ w5.heap.size from Nat.le_trans HSZ.out hu5.2.2.2.1)
              clear h5 ho5 hline5 hde5 hx5 hu5
              by_cases hless : m5 < m
              · have hlessI : (m5 : Int) < (m : Int) := by omega
                have hbt : bs = true := by rw [hbs]; exact decide_eq_true hless
                subst hbt
                clear hbs
                obtain ⟨kk, x5, hck, hx5, hxa5⟩ := HX5.out rfl
                subst hck
                have HX6 := Lib.hid hx5
                have HKL := Lib.hid (List.getElem?_eq_some_iff.1 hx5).1
                have HXA := Lib.hid hxa5
                clear hx5 hxa5
                go_wp2_with fail
                refine (tawake_w T C L 20 m5 t5 (by omega) _ H5.out).mono ?_
                rintro e w7 ⟨v7, rfl, ho7, hb7⟩
                obtain ⟨A7, c7, rfl, hr7⟩ := own_Rd ho7
                have HR7 := Lib.hid hr7
                have H7 := Lib.hid (H5.out.below hb7)
                have HB7 := Lib.hid (bl_next HB5.out hb7)
                have HOW7 := Lib.hid (own_below HOW5.out hb7)
                have HOL7 := Lib.hid (own_below HOL5.out hb7)
                have HSZ7 := Lib.hid (Nat.le_trans HSZ5.out hb7.size)
                clear ho7 hr7 hb7
                rw [HLN5.out] at HR7
                obtain ⟨A5', c5', e5, hrd5'⟩ := own_Rd HOW7.out
                obtain ⟨A6', c6', e6, hrd6'⟩ := own_Rd HOL7.out
                cases e5
                cases e6
                have HRR5 := Lib.hid hrd5'
                have HRR6 := Lib.hid hrd6'
                clear hrd5' hrd6'
                go_wp2_with fail
                refine (intsN_w A7 A5 m5 c7 c5 (restOf (kk : Int) t.line) HRL.out.symm (by omega) _ HR7.out HRR5.out).mono ?_
                rintro e w8' ⟨rfl, q0, hw8⟩
                obtain ⟨w8, hw8'⟩ : ∃ w8, w8 = w8' := ⟨_, rfl⟩
                have H8 := Lib.hid (show TnO w8 T C L 20 m5 t5 by rw [hw8', hw8]; exact H7.out)
                have HB8 := Lib.hid (show Below w.heap.size w w8 by rw [hw8', hw8]; exact bl_drewN HB7.out q0)
                have HOW8 := Lib.hid (show w8.ownsRow w3.heap.size 3 1 _ m5 _ by rw [hw8', hw8]; exact HOW7.out)
                have HRX5 := Lib.hid (show Rd w8 A5 (lineV (restOf (kk : Int) t.line)) by rw [hw8', hw8]; exact HRR5.out)
                have HRX6 := Lib.hid (show Rd w8 A6 (vals (leftOf t (restOf (kk : Int) t.line))) by rw [hw8', hw8]; exact HRR6.out)
                have HSZ8 := Lib.hid (show w3.heap.size ≤ w8.heap.size by rw [hw8', hw8]; exact HSZ7.out)
                rw [← hw8']
                clear hw8 hw8'
                go_wp2_with fail
                go_loopw [112] (fun i wq => ∃ (k : Nat), k ≤ m5 ∧ i = .int .i64 k ∧ TnO wq T C L 20 m5 t5 ∧ Below w.heap.size w wq ∧ wq.ownsRow w3.heap.size 3 1 (.slice A5 m5 c5) m5 (lineV (restOf (kk : Int) t.line)) ∧ Rd wq A5 (lineV (restOf (kk : Int) t.line)) ∧ Rd wq A6 (vals (leftOf t (restOf (kk : Int) t.line))) ∧ w3.heap.size ≤ wq.heap.size) (fun i _ => m5 - (intOf i).toNat)
                case atStart => exact ⟨0, Nat.zero_le _, rfl, H8.out, HB8.out, HOW8.out, HRX5.out, HRX6.out, HSZ8.out⟩
                case round =>
                  obtain ⟨k3, hk3, rfl, hq1', hq2', hq3', hq4', hq5', hq6'⟩ := hrel
                  have HQ := Lib.hid hq1'
                  have HBQ := Lib.hid hq2'
                  have HOWQ := Lib.hid hq3'
                  have HRQ5 := Lib.hid hq4'
                  have HRQ6 := Lib.hid hq5'
                  have HSZQ := Lib.hid hq6'
                  clear hq1' hq2' hq3' hq4' hq5' hq6'
                  by_cases hlt3 : k3 < m5
                  · have hq0 : (0 : Int) ≤ (k3 : Int) := Int.natCast_nonneg k3
                    have hq1 : (k3 : Int) < (m5 : Int) := by omega
                    obtain ⟨d, hd3⟩ : ∃ d, (restOf (kk : Int) t.line)[k3]? = some d := ⟨_, List.getElem?_eq_getElem (by rw [← HRL.out]; exact hlt3)⟩
                    obtain ⟨a1, rfl, s1'⟩ := HRQ5.out k3 _ (lineV_at hd3)
                    obtain ⟨a2, rfl, s2'⟩ := HRQ6.out k3 _ (leftOf_at hd3)
                    obtain ⟨z, hz⟩ : ∃ z, z = deOf t (d : Int) := ⟨_, rfl⟩
                    have hz5 : deOf t5 (d : Int) = z := by rw [hz]; exact HDE5.out d (List.mem_of_getElem? hd3)
                    rw [← hz] at s2'
                    have s1 : wr.cell? (a1.add k3) = some (.int .i64 (d : Int)) := s1'
                    have s2 : wr.cell? (a2.add k3) = some (.int .i64 z) := s2'
                    have HC := Lib.hid (show ∀ q2, Calls Try.prog 23 #[.pointer (some ⟨T, 0, none⟩), .int .i64 d] (wr.drewN q2) fun e w' => e = .returned (.int .i64 z) ∧ wr.drewN q2 = w' from fun q2 => by
                      have h1 := deficit_w T C L 20 m5 t5 (by omega) d _ (HQ.out.drewN q2)
                      rw [hz5] at h1
                      exact h1)
                    clear hd3 hz hz5 s1' s2'
                    go_wp2_with fail
                    go_quiet ((go_at_call 23; exact quiet_left (HC.out _)))
                    go_wp2_with fail
                    go_roundw
                    case rel => exact ⟨k3 + 1, by omega, by go_num, HQ.out.drewN _, bl_drewN HBQ.out _, HOWQ.out, HRQ5.out, HRQ6.out, HSZQ.out⟩
                    case measure => simp [intOf]; omega
                  · have hq1 : ¬ (k3 : Int) < (m5 : Int) := by omega
                    go_wp2_with fail
                    refine (wakeYes_w T C L 20 m5 t5 HO5.out kk x5 HX6.out HXA.out _ HQ.out).mono ?_
                    rintro e w9 ⟨rfl, h9, hu9⟩
                    have H9 := Lib.hid h9
                    have HB9 := Lib.hid (bl_upd3 HBQ.out hu9 hT hC hL)
                    have HOW9 := Lib.hid (own_keep HOWQ.out (fun g hg hlt => hu9.2.2.2.2 g hlt (by have := HTB.out; omega) (by have := HTB.out; omega) (by have := HTB.out; omega)) hu9.2.2.2.1 hu9.1 hu9.2.1 hu9.2.2.1)
                    have HSZ9 := Lib.hid (show w3.heap.size ≤ w9.heap.size from Nat.le_trans HSZQ.out hu9.2.2.2.1)
                    clear h9 hu9
                    go_wp2_with fail
                    refine (deficit_w T C L 20 (m5 + 1) (tnWake t5 kk) (by omega) kk _ H9.out).mono ?_
                    rintro e w' ⟨rfl, rfl⟩
                    rw [deOf_wake HKL.out]
                    go_wp2_with fail
                    refine (tawake_w T C L 20 (m5 + 1) (tnWake t5 kk) (by omega) _ H9.out).mono ?_
                    rintro e w10 ⟨v10, rfl, ho10, hb10⟩
                    obtain ⟨A10, c10, rfl, hr10⟩ := own_Rd ho10
                    have HR10 := Lib.hid hr10
                    have H10 := Lib.hid (H9.out.below hb10)
                    have HB10 := Lib.hid (bl_next HB9.out hb10)
                    have HOW10 := Lib.hid (own_below HOW9.out hb10)
                    have HOWN10 := Lib.hid ho10
                    have HSZ10 := Lib.hid (Nat.le_trans HSZ9.out hb10.size)
                    have HS910 := Lib.hid hb10.size
                    have HLT9 := Lib.hid (fun g hg => (HOW9.out.lt g hg).2)
                    clear ho10 hr10 hb10
                    go_wp2_with (at_builtin; refine app_listG w3.heap.size rfl (.tmp 144) (.tmp 147) 32 3 (.int .i64 0) 1 8 rfl Try.underlying32 (by kernel_rfl) rfl (by omega) (by omega) _ m5 _ (some ⟨w10.heap.size, 0, none⟩) 1 1 (vals [(kk : Int)]) rfl rfl (HOW10.out.alloc _) rfl (fun i v hv => ⟨_, rfl, obj_cells (Obj1.new w10 #[.int .i64 (kk : Int)] 3) (d := vals [(kk : Int)]) (fun i v h => h) i v hv⟩) (vals_one _) (by omega) (by have := HSZ10.out; simp; omega) ?_; intro v11 w11 hown11 hg11; have HO11 := Lib.hid hown11; have HOA11 := Lib.hid ((HOWN10.out.alloc (.cells #[.int .i64 (kk : Int)] 3)).kept hg11 (own_later HOW9.out HOWN10.out (Nat.le_refl _))); have HB11 := Lib.hid (bl_grown (bl_alloc HB10.out (.cells #[.int .i64 (kk : Int)] 3)) (HOW10.out.alloc _) hg11 (Nat.le_trans HB3.out.size (Nat.le_refl _))); clear hown11 hg11)
                    obtain ⟨A11, c11, rfl, hr11⟩ := own_Rd HO11.out
                    obtain ⟨A10', c10', e10, hr10'⟩ := own_Rd HOA11.out
                    cases e10
                    have HR11 := Lib.hid (show Rd w11 A11 (lineV (restOf (kk : Int) t.line ++ [kk])) by rw [lineV_append]; exact hr11)
                    have HR10' := Lib.hid (show Rd w11 A10 (lineV (restOf (kk : Int) t.line ++ [kk])) by rw [← HLN5.out]; exact hr10')
                    clear hr11 hr10'
                    refine (intsN_w A10 A11 (m5 + 1) c10 c11 (restOf (kk : Int) t.line ++ [kk]) (by rw [List.length_append, ← HRL.out]; rfl) (by omega) _ HR10'.out HR11.out).mono ?_
                    rintro e w12 ⟨rfl, q12, rfl⟩
                    go_wp2
                    go_ret
                    exact ⟨rfl, bl_drewN HB11.out q12⟩
              · have hlessI : ¬ (m5 : Int) < (m : Int) := by omega
                have hbf : bs = false := by rw [hbs]; exact decide_eq_false hless
                subst hbf
                clear hbs
                go_wp2_with fail
                refine (tawake_w T C L 20 m5 t5 (by omega) _ H5.out).mono ?_
                rintro e w7 ⟨v7, rfl, ho7, hb7⟩
                obtain ⟨A7, c7, rfl, hr7⟩ := own_Rd ho7
                have HR7 := Lib.hid hr7
                have H7 := Lib.hid (H5.out.below hb7)
                have HB7 := Lib.hid (bl_next HB5.out hb7)
                have HOW7 := Lib.hid (own_below HOW5.out hb7)
                have HOL7 := Lib.hid (own_below HOL5.out hb7)
                have HSZ7 := Lib.hid (Nat.le_trans HSZ5.out hb7.size)
                clear ho7 hr7 hb7
                rw [HLN5.out] at HR7
                obtain ⟨A5', c5', e5, hrd5'⟩ := own_Rd HOW7.out
                obtain ⟨A6', c6', e6, hrd6'⟩ := own_Rd HOL7.out
                cases e5
                cases e6
                have HRR5 := Lib.hid hrd5'
                have HRR6 := Lib.hid hrd6'
                clear hrd5' hrd6'
                go_wp2_with fail
                refine (intsN_w A7 A5 m5 c7 c5 (restOf c t.line) HRL.out.symm (by omega) _ HR7.out HRR5.out).mono ?_
                rintro e w8' ⟨rfl, q0, hw8⟩
                obtain ⟨w8, hw8'⟩ : ∃ w8, w8 = w8' := ⟨_, rfl⟩
                have H8 := Lib.hid (show TnO w8 T C L 20 m5 t5 by rw [hw8', hw8]; exact H7.out)
                have HB8 := Lib.hid (show Below w.heap.size w w8 by rw [hw8', hw8]; exact bl_drewN HB7.out q0)
                have HOW8 := Lib.hid (show w8.ownsRow w3.heap.size 3 1 _ m5 _ by rw [hw8', hw8]; exact HOW7.out)
                have HRX5 := Lib.hid (show Rd w8 A5 (lineV (restOf c t.line)) by rw [hw8', hw8]; exact HRR5.out)
                have HRX6 := Lib.hid (show Rd w8 A6 (vals (leftOf t (restOf c t.line))) by rw [hw8', hw8]; exact HRR6.out)
                have HSZ8 := Lib.hid (show w3.heap.size ≤ w8.heap.size by rw [hw8', hw8]; exact HSZ7.out)
                rw [← hw8']
                clear hw8 hw8'
                go_wp2_with fail
                go_loopw [112] (fun i wq => ∃ (k : Nat), k ≤ m5 ∧ i = .int .i64 k ∧ TnO wq T C L 20 m5 t5 ∧ Below w.heap.size w wq ∧ wq.ownsRow w3.heap.size 3 1 (.slice A5 m5 c5) m5 (lineV (restOf c t.line)) ∧ Rd wq A5 (lineV (restOf c t.line)) ∧ Rd wq A6 (vals (leftOf t (restOf c t.line))) ∧ w3.heap.size ≤ wq.heap.size) (fun i _ => m5 - (intOf i).toNat)
                case atStart => exact ⟨0, Nat.zero_le _, rfl, H8.out, HB8.out, HOW8.out, HRX5.out, HRX6.out, HSZ8.out⟩
                case round =>
                  obtain ⟨k3, hk3, rfl, hq1', hq2', hq3', hq4', hq5', hq6'⟩ := hrel
                  have HQ := Lib.hid hq1'
                  have HBQ := Lib.hid hq2'
                  have HOWQ := Lib.hid hq3'
                  have HRQ5 := Lib.hid hq4'
                  have HRQ6 := Lib.hid hq5'
                  have HSZQ := Lib.hid hq6'
                  clear hq1' hq2' hq3' hq4' hq5' hq6'
                  by_cases hlt3 : k3 < m5
                  · have hq0 : (0 : Int) ≤ (k3 : Int) := Int.natCast_nonneg k3
                    have hq1 : (k3 : Int) < (m5 : Int) := by omega
                    obtain ⟨d, hd3⟩ : ∃ d, (restOf c t.line)[k3]? = some d := ⟨_, List.getElem?_eq_getElem (by rw [← HRL.out]; exact hlt3)⟩
                    obtain ⟨a1, rfl, s1'⟩ := HRQ5.out k3 _ (lineV_at hd3)
                    obtain ⟨a2, rfl, s2'⟩ := HRQ6.out k3 _ (leftOf_at hd3)
                    obtain ⟨z, hz⟩ : ∃ z, z = deOf t (d : Int) := ⟨_, rfl⟩
                    have hz5 : deOf t5 (d : Int) = z := by rw [hz]; exact HDE5.out d (List.mem_of_getElem? hd3)
                    rw [← hz] at s2'
                    have s1 : wr.cell? (a1.add k3) = some (.int .i64 (d : Int)) := s1'
                    have s2 : wr.cell? (a2.add k3) = some (.int .i64 z) := s2'
                    have HC := Lib.hid (show ∀ q2, Calls Try.prog 23 #[.pointer (some ⟨T, 0, none⟩), .int .i64 d] (wr.drewN q2) fun e w' => e = .returned (.int .i64 z) ∧ wr.drewN q2 = w' from fun q2 => by
                      have h1 := deficit_w T C L 20 m5 t5 (by omega) d _ (HQ.out.drewN q2)
                      rw [hz5] at h1
                      exact h1)
                    clear hd3 hz hz5 s1' s2'
                    go_wp2_with fail
                    go_quiet ((go_at_call 23; exact quiet_left (HC.out _)))
                    go_wp2_with fail
                    go_roundw
                    case rel => exact ⟨k3 + 1, by omega, by go_num, HQ.out.drewN _, bl_drewN HBQ.out _, HOWQ.out, HRQ5.out, HRQ6.out, HSZQ.out⟩
                    case measure => simp [intOf]; omega
                  · have hq1 : ¬ (k3 : Int) < (m5 : Int) := by omega
                    go_wp2
                    go_ret
                    exact ⟨rfl, HBQ.out⟩
end Go.Proofs.Ytlnfenjoagkpdaa
