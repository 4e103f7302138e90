/- The walk of TurnsFair: it answers true. -/
import Derived.Test.YtlnfenjoagkpdaaTuI
import Derived.StillTailTactics
namespace Go.Proofs.Ytlnfenjoagkpdaa
open Go.RowKit
set_option linter.unusedVariables false
set_option linter.unusedSimpArgs false

def z8 (_ : Nat) : Int := 0
theorem vals_app (l m : List Int) : vals (l ++ m) = vals l ++ vals m := by simp [vals]
/-- The number at a place of a row. -/
def rv (rows : List (List Value)) (j c : Nat) : Int := intOf ((rows.getD j []).getD c (.int .u16 0))
theorem rv_at {W : World} {b off n cp : Nat} {rows : List (List Value)} (h : SlQ (List.replicate 8 (.i .u16)) W (some ⟨b, off, none⟩) n cp rows) {j c : Nat} (hj : j < n) (hc : c < 8) : W.cell? ⟨b, off + j * 8 + c, none⟩ = some (.int .u16 (rv rows j c)) ∧ 0 ≤ rv rows j c ∧ rv rows j c ≤ 65535 := by
  obtain ⟨r, hr, ho⟩ := h.row j hj
  obtain ⟨x, hx, wx⟩ := okS_int ho c .u16 (by rw [List.getElem?_replicate, if_pos hc])
  have e : rv rows j c = x := by
    unfold rv
    have e1 : rows.getD j [] = r := by rw [List.getD_eq_getElem?_getD, hr]; rfl
    rw [e1, List.getD_eq_getElem?_getD, hx]
    rfl
  have := h.cell hr hx
  rw [e]
  exact ⟨by simpa using this, u16_range wx⟩
def hf (rows : List (List Value)) (n : Nat) (nx : Nat → Int) (c : Nat) : Int := 1 + (rv rows ((nx c).toNat % n) c) % 9216
def hl (rows : List (List Value)) (n : Nat) (nx : Nat → Int) (j : Nat) : List Int := (List.range j).map (hf rows n nx)
theorem hl_step (rows : List (List Value)) (n : Nat) (nx : Nat → Int) (j : Nat) : hl rows n nx (j + 1) = hl rows n nx j ++ [hf rows n nx j] := by
  unfold hl
  rw [List.range_succ, List.map_append]
  rfl
theorem hl_length (rows : List (List Value)) (n : Nat) (nx : Nat → Int) (j : Nat) : (hl rows n nx j).length = j := by simp [hl]
theorem hf_range (rows : List (List Value)) (n : Nat) (nx : Nat → Int) (c : Nat) : 1 ≤ hf rows n nx c ∧ hf rows n nx c ≤ 9216 := by unfold hf; omega
theorem hl_at (rows : List (List Value)) (n : Nat) (nx : Nat → Int) {c : Nat} (hc : c < 8) : nth (hl rows n nx 8) c = hf rows n nx c := by
  simp [nth, hl, List.getD_eq_getElem?_getD, List.getElem?_range, hc]
theorem hdOf_hl (rows : List (List Value)) (n : Nat) (nx : Nat → Int) {c : Nat} (hc : c < 8) : hdOf (hl rows n nx 8) c = hf rows n nx c := by
  have e : headV (hl rows n nx 8) c = hf rows n nx c := by
    unfold headV
    rw [if_pos (by rw [hl_length]; exact hc), hl_at rows n nx hc]
  unfold hdOf
  rw [e, if_neg (by have := hf_range rows n nx c; omega)]
theorem A8.below {w w' : World} {B : Nat} {f : Nat → Int} {t : TypeId} (h : A8 w B f t) (hb : Below w.heap.size w w') : A8 w' B f t := RoomO.below h hb
theorem A8.upd3 {w w' : World} {B X Y Z : Nat} {f : Nat → Int} {t : TypeId} (h : A8 w B f t) (hu : Upd3 X Y Z w w') (hX : B ≠ X) (hY : B ≠ Y) (hZ : B ≠ Z) : A8 w' B f t := by
  obtain ⟨h1, h2, junk, h3, h4⟩ := h
  exact ⟨h1, h2, junk, h3, (hu.2.2.2.2 B h4.lt hX hY hZ).trans h4⟩
theorem A8.lt {w : World} {B : Nat} {f : Nat → Int} {t : TypeId} (h : A8 w B f t) : B < w.heap.size := RoomO.lt h
theorem A8.own {w w' : World} {B : Nat} {f : Nat → Int} {t : TypeId} {row : Option Nat} (h : A8 w B f t) (hg : w.grownBy w' row) (hne : ∀ g, row = some g → B < g) : A8 w' B f t := RoomO.grown h hg (fun e => by have := hne B e.symm; omega)
theorem A8.upd {w w' : World} {B D : Nat} {f : Nat → Int} {t : TypeId} (h : A8 w B f t) (hg : Upd D w w') (hne : B ≠ D) : A8 w' B f t := RoomO.grown h hg (by simpa using hne)
theorem A8.zero {w : World} {B : Nat} {t : TypeId} {xs : List Value} (h : RoomO w B 8 8 1 xs t) (hx : xs = eight z8) : A8 w B z8 t := by unfold A8; rw [← hx]; exact h
theorem A8.eqv {w : World} {B : Nat} {t : TypeId} {f g : Nat → Int} (h : A8 w B f t) (e : ∀ c, c < 8 → f c = g c) : A8 w B g t := by
  have : eight f = eight g := List.map_congr_left (fun c hc => by rw [e c (List.mem_range.1 hc)])
  unfold A8
  rw [← this]
  exact h
/-- What was given since. -/
def Gv (q : Int) (k : Nat) (H gv : Nat → Int) : Prop := ∃ Z, Band q Z ∧ ∀ c, c < 8 → gv c = H c - Z c ∧ 0 ≤ gv c ∧ gv c ≤ 9216 * (k : Int)
theorem Gv.check {q : Int} {k : Nat} {H gv : Nat → Int} (hq : 0 ≤ q) (h : Gv q k H gv) (hb : Band q H) {a b : Nat} (ha : a < 8) (hb8 : b < 8) : ¬ q + 18432 < gv a - gv b := by
  obtain ⟨Z, hZ, hg⟩ := h
  have h1 := hg a ha
  have h2 := hg b hb8
  rcases Nat.lt_trichotomy a b with hab | hab | hab
  · have h3 := hZ a b hab hb8
    have h4 := hb a b hab hb8
    omega
  · subst hab
    omega
  · have h3 := hZ b a hab ha
    have h4 := hb b a hab ha
    omega
theorem Gv.step {q : Int} {k : Nat} {H gv : Nat → Int} (h : Gv q k H gv) {c : Nat} {n : Int} (h0 : 0 ≤ n) (hn : n ≤ 9216) : Gv q (k + 1) (plus H c n) (plus gv c n) := by
  obtain ⟨Z, hZ, hg⟩ := h
  refine ⟨Z, hZ, fun d hd => ?_⟩
  have := hg d hd
  unfold plus
  split <;> omega
theorem Gv.begin {q : Int} {k : Nat} {H : Nat → Int} (hb : Band q H) : Gv q k H (fun _ => 0) := ⟨H, hb, fun c _ => by show (0 : Int) = H c - H c ∧ (0 : Int) ≤ 0 ∧ (0 : Int) ≤ 9216 * (k : Int); omega⟩
/-- How far each has come. -/
def Nx (k : Nat) (nx : Nat → Int) : Prop := ∀ c, c < 8 → 0 ≤ nx c ∧ nx c ≤ (k : Int)
theorem Nx.step {k : Nat} {nx : Nat → Int} (h : Nx k nx) (c : Nat) : Nx (k + 1) (plus nx c 1) := fun d hd => by
  have := h d hd
  unfold plus
  split <;> omega

set_option maxRecDepth 100000 in
set_option maxHeartbeats 8000000 in
theorem TurnsFair_w (qn : Int) (A : Option Addr) (n cp : Nat) (rows : List (List Value)) (fr tt : Int) (w : World) (h1 : (Lit.int .u16 qn).wf = true) (hs : SlQ (List.replicate 8 (.i .u16)) w A n cp rows) (h2 : (Lit.int .u8 fr).wf = true) (h3 : (Lit.int .u8 tt).wf = true) :
    Calls Try.prog 3 #[.int .u16 qn, .slice A n cp, .int .u8 fr, .int .u8 tt] w fun e w' => e = .returned (.bool true) ∧ Below w.heap.size w w' := by
  have hn63 : n ≤ 9223372036854775807 := Nat.le_trans hs.2.1 hs.2.2.1
  have HS := Lib.hid hs
  have hqn := u16_range h1
  have hfr := u8_range h2
  have hto := u8_range h3
  obtain ⟨q, hq⟩ : ∃ q : Int, 9216 + qn = q := ⟨_, rfl⟩
  have b1 : IntKind.i64.wrap qn = qn := IntWalk.i64_in _ (by omega)
  have b2 : IntKind.i64.wrap (9216 + qn) = q := by rw [hq]; exact IntWalk.i64_in _ (by omega)
  have b3 : IntKind.i64.wrap fr = fr := IntWalk.i64_in _ (by omega)
  have b4 : IntKind.i64.wrap tt = tt := IntWalk.i64_in _ (by omega)
  obtain ⟨q2, hq2⟩ : ∃ q2 : Int, q + 18432 = q2 := ⟨_, rfl⟩
  have b5 : IntKind.i64.wrap (q + 18432) = q2 := by rw [hq2]; exact IntWalk.i64_in _ (by omega)
  have hqb : 9216 ≤ q ∧ q ≤ 80000 := by omega
  have HQ2 := Lib.hid hq2
  clear hs h1 h2 h3 hq hq2
  go_enter Try.func3, Try.ntmps3
  go_wp2_with fail
  refine (awake15_w _).mono ?_
  rintro e w1 ⟨rfl, hb1⟩
  have HB1 := Lib.hid hb1
  clear hb1
  by_cases hlim : 200 < n
  · have hlim' : (200 : Int) < (n : Int) := by omega
    go_wp2_with fail
    refine (awake15_w _).mono ?_
    rintro e w2 ⟨rfl, hb2⟩
    have HB2 := Lib.hid (bl_next HB1.out hb2)
    clear hb2
    go_wp2
    go_ret
    exact ⟨rfl, HB2.out⟩
  · have hlim' : ¬ (200 : Int) < (n : Int) := by omega
    go_wp2_with fail
    refine (tnNew_w 8 q (by omega) (by omega) _).mono ?_
    rintro e w2 ⟨T, C, L, rfl, hT0, hC0, hL0, ht2, hb2⟩
    have hT : w.heap.size ≤ T := Nat.le_trans HB1.out.size hT0
    have hC : w.heap.size ≤ C := Nat.le_trans HB1.out.size hC0
    have hL : w.heap.size ≤ L := Nat.le_trans HB1.out.size hL0
    have H2 := Lib.hid ht2
    have HO2 := Lib.hid (tnNew_ok (n := 8) (q := q) (by omega) (by omega))
    have HB2 := Lib.hid (bl_next HB1.out hb2)
    clear ht2 hb2
    go_wp2_with fail
    go_loopw [38] (fun i wr => ∃ (j : Nat), j ≤ 8 ∧ i = .int .i64 j ∧ okTn (tnEight q j) ∧ TnO wr T C L 8 j (tnEight q j) ∧ Below w.heap.size w wr) (fun i _ => 8 - (intOf i).toNat)
    case atStart => exact ⟨0, Nat.zero_le _, rfl, HO2.out, H2.out, HB2.out⟩
    case round =>
      obtain ⟨j, hj, rfl, hok, ht, hbel⟩ := hrel
      have H := Lib.hid ht
      have HO := Lib.hid hok
      have HBL := Lib.hid hbel
      clear hok ht hbel
      by_cases hlt : j < 8
      · have hk0 : (0 : Int) ≤ (j : Int) := Int.natCast_nonneg j
        have hk1 : (j : Int) < 8 := by omega
        go_wp2_with fail
        refine (wakeYes_w T C L 8 j (tnEight q j) HO.out j c00 (tnEight_step q j hlt).1 rfl _ H.out).mono ?_
        rintro e w3 ⟨rfl, h3, hu3⟩
        have HO3 := Lib.hid (HO.out.wake (tnEight_step q j hlt).1 rfl)
        have HB3 := Lib.hid (bl_upd3 HBL.out hu3 hT hC hL)
        have H3 := Lib.hid h3
        rw [tnEight_next q hlt] at HO3 H3
        clear h3 hu3
        go_wp2_with fail
        go_roundw
        case rel => exact ⟨j + 1, by omega, by go_num, HO3.out, H3.out, HB3.out⟩
        case measure => simp [intOf]; omega
      · have hk1 : ¬ (j : Int) < 8 := by omega
        have hj8 : j = 8 := by omega
        rw [hj8] at H HO
        obtain ⟨X, hX⟩ : ∃ X, X = wr.heap.size := ⟨_, rfl⟩
        obtain ⟨ws, hws⟩ : ∃ ws, ws = (wr.alloc (.cells #[.int .i64 0, .int .i64 0, .int .i64 0, .int .i64 0, .int .i64 0, .int .i64 0, .int .i64 0, .int .i64 0] 30)).alloc (.cells #[.int .i64 0, .int .i64 0, .int .i64 0, .int .i64 0, .int .i64 0, .int .i64 0, .int .i64 0, .int .i64 0] 31) := ⟨_, rfl⟩
        have ba1 := bl_alloc (Below.refl wr.heap.size wr) (.cells #[.int .i64 0, .int .i64 0, .int .i64 0, .int .i64 0, .int .i64 0, .int .i64 0, .int .i64 0, .int .i64 0] 30)
        have HXA := Lib.hid (show A8 ws X (fun _ => 0) 30 by rw [hws, hX]; exact (A8.new wr _).below (bl_alloc (Below.refl _ _) _))
        have HGA := Lib.hid (show A8 ws (X + 1) (fun _ => 0) 31 by
          have h := A8.new (wr.alloc (.cells #[.int .i64 0, .int .i64 0, .int .i64 0, .int .i64 0, .int .i64 0, .int .i64 0, .int .i64 0, .int .i64 0] 30)) 31
          rw [hws, hX]
          simpa using h)
        have HTA := Lib.hid (show TnO ws T C L 8 8 (tnEight q 8) by rw [hws]; exact (H.out.below ba1).below (bl_alloc (Below.refl _ _) _))
        have HBA := Lib.hid (show Below w.heap.size w ws by rw [hws]; exact bl_alloc (bl_alloc HBL.out _) _)
        have HLT := Lib.hid (show T < X ∧ C < X ∧ L < X by rw [hX]; exact ⟨H.out.2.1.lt, H.out.2.2.1.lt, H.out.2.2.2.lt⟩)
        have HWX := Lib.hid (show w.heap.size ≤ X by rw [hX]; exact HBL.out.size)
        clear ba1
        go_wp2_with fail
        rw [← hws]
        rw [← hX]
        clear hX hws
        go_loopw [47] (fun i wr => ∃ (k : Nat) (t : Tn) (H gv nx : Nat → Int), k ≤ n ∧ i = .int .i64 k ∧ okTn t ∧ TnO wr T C L 8 8 t ∧ Fq q t H ∧ Gv q k H gv ∧ Nx k nx ∧ A8 wr X nx 30 ∧ A8 wr (X + 1) gv 31 ∧ Below w.heap.size w wr) (fun i _ => n - (intOf i).toNat)
        case atStart => exact ⟨0, _, _, _, _, Nat.zero_le _, rfl, HO.out, HTA.out, Fq.start q, Gv.begin ((Fq.start q).band (by omega)), fun c _ => ⟨Int.le_refl 0, by omega⟩, HXA.out, HGA.out, HBA.out⟩
        case round =>
          obtain ⟨k, t, Hh, gv, nx, hk, rfl, hok, ht, hfq, hgv, hnx, hxa, hga, hbel⟩ := hrel
          have HT := Lib.hid ht
          have HOK := Lib.hid hok
          have HF := Lib.hid hfq
          have HGV := Lib.hid hgv
          have HNX := Lib.hid hnx
          have HXB := Lib.hid hxa
          have HGB := Lib.hid hga
          have HBW := Lib.hid hbel
          clear hok ht hfq hgv hnx hxa hga hbel HTA HO H HXA HGA HBA
          by_cases hlt2 : k < n
          · have hk0 : (0 : Int) ≤ (k : Int) := Int.natCast_nonneg k
            have hk1 : (k : Int) < (n : Int) := by omega
            obtain ⟨sb, so, rfl⟩ := HS.out.addr (by omega) (by simp)
            have n0 : ¬ (n : Int) = 0 := by omega
            have n1 : ¬ (n : Int) = -1 := by omega
            obtain ⟨B0, hB0⟩ : ∃ B0, B0 = wr.heap.size := ⟨_, rfl⟩
            have HB0 := Lib.hid hB0
            clear hB0
            go_wp2_with fail
            go_loopw [16, 50] (fun v i wq => ∃ (j : Nat), j ≤ 8 ∧ i = .int .i64 j ∧ wq.ownsRow B0 3 1 v j (vals (hl rows n nx j)) ∧ Below wr.heap.size wr wq) (fun _ i _ => 8 - (intOf i).toNat)
            case atStart => exact ⟨0, Nat.zero_le _, rfl, World.ownsRow_nil _ _ _ _, Below.refl _ _⟩
            case round =>
              obtain ⟨j, hj, rfl, hown, hbj⟩ := hrel
              have HOW := Lib.hid hown
              have HBJ := Lib.hid hbj
              clear hown hbj
              by_cases hlt3 : j < 8
              · have hj0 : (0 : Int) ≤ (j : Int) := Int.natCast_nonneg j
                have hj1 : (j : Int) < 8 := by omega
                have hnxj := HNX.out j hlt3
                have r0 := (HXB.out.below HBJ.out).cell hlt3
                obtain ⟨a0, ha0⟩ := Int.eq_ofNat_of_zero_le hnxj.1
                rw [ha0] at r0 hnxj
                obtain ⟨a1, ha1⟩ : ∃ a1, a1 = a0 % n := ⟨_, rfl⟩
                have ha1n : a1 < n := by rw [ha1]; exact Nat.mod_lt _ (by omega)
                have m1 : (a0 : Int).tmod (n : Int) = (a1 : Int) := by rw [Int.tmod_eq_emod_of_nonneg (by omega), ha1]; rfl
                have m2 : (a0 : Int) % (n : Int) = (a1 : Int) := by rw [ha1]; rfl
                have m3 : IntKind.i64.wrap (a1 : Int) = (a1 : Int) := IntWalk.i64_in _ (by omega)
                have m4 : (0 : Int) ≤ (a1 : Int) := by omega
                have m5 : (a1 : Int) < (n : Int) := by omega
                obtain ⟨hrv, hrv0, hrv1⟩ := rv_at HS.out ha1n hlt3
                have r1 := bl_keeps (bl_next HBW.out HBJ.out) hrv
                have hhf : hf rows n nx j = 1 + rv rows a1 j % 9216 := by unfold hf; rw [ha0, ha1]; rfl
                obtain ⟨x, hx⟩ := Int.eq_ofNat_of_zero_le hrv0
                rw [hx] at r1 hrv0 hrv1 hhf
                obtain ⟨y, hy⟩ : ∃ y, y = x % 9216 := ⟨_, rfl⟩
                have m6 : IntKind.i64.wrap (x : Int) = (x : Int) := IntWalk.i64_in _ (by omega)
                have m7 : (x : Int).tmod 9216 = (y : Int) := by rw [Int.tmod_eq_emod_of_nonneg (by omega)]; omega
                have m8 : (x : Int) % 9216 = (y : Int) := by omega
                have m9 : IntKind.i64.wrap (y : Int) = (y : Int) := IntWalk.i64_in _ (by omega)
                obtain ⟨z, hz⟩ : ∃ z : Int, z = hf rows n nx j := ⟨_, rfl⟩
                have m10 : IntKind.i64.wrap (1 + (y : Int)) = z := by rw [hz, hhf, m8]; exact IntWalk.i64_in _ (by omega)
                have HZ := Lib.hid hz
                have HSZ := Lib.hid HBJ.out.size
                clear hrv ha0 ha1 hx hy hz hhf hnxj
                go_wp2_with (at_builtin; go_loud (refine app_list B0 rfl (.tmp 53) (.tmp 68) 32 3 (.int .i64 0) 1 8 rfl Try.underlying32 (by kernel_rfl) rfl (by omega) (by omega) _ j _ (some ⟨wr.heap.size, 0, none⟩) 1 1 (vals [z]) rfl rfl (HOW.out.alloc _) rfl (fun i v hv => ⟨_, rfl, obj_cells (Obj1.new wr #[.int .i64 z] 3) (d := vals [z]) (fun i v h => h) i v hv⟩) (vals_one _) (by omega) (by have := HSZ.out; have := HB0.out; simp; omega) ?_); intro v6 w6 hown6 hg6; have HO6 := Lib.hid hown6; have HB6 := Lib.hid (bl_grown (bl_alloc HBJ.out (.cells #[.int .i64 z] 3)) (HOW.out.alloc _) hg6 (Nat.le_of_eq HB0.out.symm)); clear hown6 hg6)
                go_roundw
                case rel => exact ⟨j + 1, by omega, by go_num, by rw [hl_step, vals_app, ← HZ.out]; exact HO6.out, HB6.out⟩
                case measure => simp [intOf]; omega
              · have hj1 : ¬ (j : Int) < 8 := by omega
                have hj8' : j = 8 := by omega
                rw [hj8'] at HOW
                obtain ⟨A5, c5, rfl, hrd⟩ := own_Rd HOW.out
                have HR5 := Lib.hid (show RdI wr A5 (hl rows n nx 8) from vals_rd (by rw [hl_length]; omega) hrd)
                have HT5 := Lib.hid (HT.out.below HBJ.out)
                have HX5 := Lib.hid (HXB.out.below HBJ.out)
                have HG5 := Lib.hid (HGB.out.below HBJ.out)
                have HB5 := Lib.hid (bl_next HBW.out HBJ.out)
                have HAG := Lib.hid (show ∀ ad, A5 = some ad → ad.block ≠ T ∧ ad.block ≠ C ∧ ad.block ≠ L ∧ ad.block ≠ X + 1 from fun ad e => by
                  subst e
                  have h1 := (HOW.out.lt ad.block (by simp [Value.ownBlock])).1
                  have h2 := HLT.out
                  have h3 := HGB.out.lt
                  have h4 := HB0.out
                  omega)
                have HRD5 := Lib.hid hrd
                clear hrd
                by_cases hkf : (k : Int) = fr
                · have HKF := Lib.hid hkf
                  have kf1 : ((k : Int) == fr) = true := by simp [hkf]
                  have kf2 : decide ((k : Int) = fr) = true := by simp [hkf]
                  clear hkf
                  go_wp2_with (refine store_rowAt rfl 31 (.tmp 14) (.tmp 75) rfl (X + 1) 8 8 1 0 (eight gv) 31 HG5.out (eight z8) (by rw [eight_length]; omega) rfl ?_ (by kernel_rfl) (eight_one _) ?_; rfl; go_loud (intro w6 hr6 hu6; have HG6 := Lib.hid (A8.zero hr6 (by rw [List.take_zero, List.nil_append, Nat.zero_add, eight_length, List.drop_eq_nil_of_le (by rw [eight_length]; exact Nat.le_refl _), List.append_nil])); have HT6 := Lib.hid (HT5.out.own hu6 HLT.out (fun g e => by cases e; omega)); have HX6 := Lib.hid (HX5.out.upd hu6 (by omega)); have HB6 := Lib.hid (bl_upd HB5.out hu6 (by have := HWX.out; omega)); have HR6 := Lib.hid (vals_rd (by rw [hl_length]; omega) (Rd.upd HRD5.out hu6 (fun ad e => (HAG.out ad e).2.2.2))); have HGV6 := Lib.hid (show Gv q k Hh z8 from Gv.begin (HF.out.band (by omega))); clear hr6 hu6))
                  refine (pick_w T C L 8 8 t HOK.out A5 8 c5 (hl rows n nx 8) (hl_length _ _ _ _) _ HT6.out HR6.out (fun ad e => ⟨(HAG.out ad e).1, (HAG.out ad e).2.1, (HAG.out ad e).2.2.1⟩)).mono ?_
                  rintro e w7 ⟨t', r, m', hp, rfl, h7, ho7, hu7⟩
                  obtain ⟨c, hc, hr, hf7⟩ := HF.out.pick hqb.1 (fun c hc => by rw [hdOf_hl rows n nx hc]; exact hf_range rows n nx c) hp
                  subst hr
                  rw [hdOf_hl rows n nx hc] at hf7
                  have hm8 : m' = 8 := by
                    obtain ⟨p, R, cur, hq1⟩ := hf7
                    rw [← h7.1.2, hq1.2.2.2.1]
                    have hp8 := hq1.2.2.1
                    simp [rot]
                    omega
                  rw [hm8] at h7
                  obtain ⟨z, hz⟩ : ∃ z : Int, z = hf rows n nx c := ⟨_, rfl⟩
                  have hzb := hf_range rows n nx c
                  rw [← hz] at hf7 hzb
                  have HF7 := Lib.hid hf7
                  have H7 := Lib.hid h7
                  have HO7 := Lib.hid ho7
                  have HX7 := Lib.hid (HX6.out.upd3 hu7 (by have := HLT.out; omega) (by have := HLT.out; omega) (by have := HLT.out; omega))
                  have HG7 := Lib.hid (HG6.out.upd3 hu7 (by have := HLT.out; omega) (by have := HLT.out; omega) (by have := HLT.out; omega))
                  have HR7 := Lib.hid (HR6.out.upd3 hu7 (fun ad e => ⟨(HAG.out ad e).1, (HAG.out ad e).2.1, (HAG.out ad e).2.2.1⟩))
                  have HB7 := Lib.hid (bl_upd3 HB6.out hu7 hT hC hL)
                  obtain ⟨ad, rfl, hcell⟩ := HR7.out.2 c (by rw [hl_length]; exact hc)
                  have r1 : w7.cell? (ad.add c) = some (.int .i64 z) := by rw [hz, ← hl_at rows n nx hc]; exact hcell
                  clear hp h7 ho7 hu7 hf7 hm8 hz hcell
                  obtain ⟨Z, hZ, hgb⟩ := HGV6.out
                  have hgc := (hgb c hc).2
                  obtain ⟨g0, hg0⟩ : ∃ g0 : Int, g0 = z8 c := ⟨_, rfl⟩
                  have r2 : w7.cell? ⟨X + 1, c, none⟩ = some (.int .i64 g0) := by rw [hg0]; exact HG7.out.cell hc
                  have hgc' : 0 ≤ g0 ∧ g0 ≤ 9216 * (k : Int) := by rw [hg0]; exact hgc
                  obtain ⟨s, hss⟩ : ∃ s, s = g0 + z := ⟨_, rfl⟩
                  have m1 : IntKind.i64.wrap (g0 + z) = s := by rw [hss]; exact IntWalk.i64_in _ (by omega)
                  have f2 : w7.frozen? ⟨X + 1, c, none⟩ = false := RoomO.free HG7.out c
                  have hnc := HNX.out c hc
                  obtain ⟨x0, hx0⟩ : ∃ x0 : Int, x0 = nx c := ⟨_, rfl⟩
                  rw [← hx0] at hnc
                  have m2 : IntKind.i64.wrap (x0 + 1) = x0 + 1 := IntWalk.i64_in _ (by omega)
                  have HX0 := Lib.hid hx0
                  have HG0 := Lib.hid hg0
                  have HSS := Lib.hid hss
                  have c0 : ¬ (c : Int) < 0 := by omega
                  have c1 : ¬ (7 : Int) < (c : Int) := by omega
                  have c2 : (0 : Int) ≤ (c : Int) := by omega
                  have c3 : (c : Int) < 8 := by omega
                  clear hZ hgb hgc hx0 hg0 hss
                  dsimp only [pickV]
                  go_wp2_with fail
                  refine wp_region_still_tail 10 (by kernel_rfl) (by kernel_rfl) ?_
                  change wpStill _ _ (World.drew _) (fun a' => wpList _ _ _ _ a' (World.drew _)) _ _
                  simp only [List.take_succ_cons, List.take_zero, List.drop_succ_cons, List.drop_zero]
                  repeat still_step
                  refine wpStill_nil ?_
                  go_upto_region 27 with (fail)
                  have HG8 := Lib.hid (show A8 (w7.setCell ⟨X + 1, c, none⟩ (.int .i64 s)).drew (X + 1) (plus z8 c z) 31 by
                    have h := A8.set (show A8 w7 (X + 1) z8 31 from HG7.out) hc z
                    rw [← HG0.out, ← HSS.out] at h
                    exact h)
                  have hu8 : Upd (X + 1) w7 (w7.setCell ⟨X + 1, c, none⟩ (.int .i64 s)).drew := ((Upd.refl (X + 1) w7).set c (.int .i64 s)).drewN 1
                  have HX8 := Lib.hid (HX7.out.upd hu8 (by omega))
                  have HT8 := Lib.hid (H7.out.own hu8 HLT.out (fun g e => by cases e; omega))
                  have HB8 := Lib.hid (bl_upd HB7.out hu8 (by have := HWX.out; omega))
                  clear hu8
                  generalize hW8 : World.drew _ = w8 at HG8 HX8 HT8 HB8 ⊢
                  clear hW8 r1 r2 f2
                  have r3 : w8.cell? ⟨X, c, none⟩ = some (.int .i64 x0) := by rw [HX0.out]; exact HX8.out.cell hc
                  have f3 : w8.frozen? ⟨X, c, none⟩ = false := RoomO.free HX8.out c
                  have HX9 := Lib.hid (show A8 (w8.setCell ⟨X, c, none⟩ (.int .i64 (x0 + 1))) X (plus nx c 1) 30 by
                    have h := A8.set HX8.out hc 1
                    rw [← HX0.out] at h
                    exact h)
                  have hu9 := (Upd.refl X w8).set c (.int .i64 (x0 + 1))
                  have HG9 := Lib.hid (HG8.out.upd hu9 (by omega))
                  have HT9 := Lib.hid (HT8.out.own hu9 HLT.out (fun g e => by cases e; omega))
                  have HB9 := Lib.hid (bl_upd HB8.out hu9 HWX.out)
                  clear hu9
                  have HGV9 := Lib.hid (HGV6.out.step (c := c) (n := z) (by omega) hzb.2)
                  have HNX9 := Lib.hid (HNX.out.step c)
                  go_upto_region 28 with (fail)
                  generalize hW9 : World.setCell _ _ _ = w9 at HG9 HX9 HT9 HB9 ⊢
                  clear hW9 r3 f3
                  by_cases hkl : (k : Int) < fr
                  · go_wp2_with fail
                    go_roundw
                    case rel => exact ⟨k + 1, t', _, _, _, by omega, by go_num, HO7.out, HT9.out, HF7.out, HGV9.out, HNX9.out, HX9.out, HG9.out, HB9.out⟩
                    case measure => simp [intOf]; omega
                  · by_cases hkt : tt < (k : Int)
                    · go_wp2_with fail
                      go_roundw
                      case rel => exact ⟨k + 1, t', _, _, _, by omega, by go_num, HO7.out, HT9.out, HF7.out, HGV9.out, HNX9.out, HX9.out, HG9.out, HB9.out⟩
                      case measure => simp [intOf]; omega
                    · go_wp2_with fail
                      go_loopw [119] (fun i wa => ∃ (a qd : Nat), a ≤ 8 ∧ i = .int .i64 a ∧ wa = w9.drewN qd) (fun i _ => 8 - (intOf i).toNat)
                      case atStart => exact ⟨0, 0, Nat.zero_le _, rfl, rfl⟩
                      case round =>
                        obtain ⟨a, qa, ha, rfl, rfl⟩ := hrel
                        by_cases hla : a < 8
                        · have ha0 : (0 : Int) ≤ (a : Int) := Int.natCast_nonneg a
                          have ha1 : (a : Int) < 8 := by omega
                          go_wp2_with fail
                          go_loopw [122] (fun i wb => ∃ (b qd : Nat), b ≤ 8 ∧ i = .int .i64 b ∧ wb = w9.drewN qd) (fun i _ => 8 - (intOf i).toNat)
                          case atStart => exact ⟨0, qa, Nat.zero_le _, rfl, rfl⟩
                          case round =>
                            obtain ⟨b, qb, hb, rfl, rfl⟩ := hrel
                            by_cases hlb : b < 8
                            · have hb0 : (0 : Int) ≤ (b : Int) := Int.natCast_nonneg b
                              have hb1 : (b : Int) < 8 := by omega
                              obtain ⟨ga, hga⟩ : ∃ ga : Int, ga = plus z8 c z a := ⟨_, rfl⟩
                              obtain ⟨gb, hgb⟩ : ∃ gb : Int, gb = plus z8 c z b := ⟨_, rfl⟩
                              have s1 : w9.cell? ⟨X + 1, a, none⟩ = some (.int .i64 ga) := by rw [hga]; exact HG9.out.cell hla
                              have s2 : w9.cell? ⟨X + 1, b, none⟩ = some (.int .i64 gb) := by rw [hgb]; exact HG9.out.cell hlb
                              have hck := HGV9.out.check (by omega) (HF7.out.band (by omega)) hla hlb
                              rw [← hga, ← hgb, HQ2.out] at hck
                              obtain ⟨Z9, _, hz9⟩ := HGV9.out
                              have hz1 := (hz9 a hla).2
                              have hz2 := (hz9 b hlb).2
                              rw [← hga] at hz1
                              rw [← hgb] at hz2
                              have m3 : IntKind.i64.wrap (ga - gb) = ga - gb := IntWalk.i64_in _ (by omega)
                              clear hz9 hga hgb
                              go_wp2_with fail
                              go_quiet (fail)
                              go_wp2_with fail
                              go_roundw
                              case rel => exact ⟨b + 1, _, by omega, by go_num, by first | rfl | simp only [World.drewN_drewN]⟩
                              case measure => simp [intOf]; omega
                            · have hb1 : ¬ (b : Int) < 8 := by omega
                              go_wp2_with fail
                              go_roundw
                              case rel => exact ⟨a + 1, qb, by omega, by go_num, rfl⟩
                              case measure => simp [intOf]; omega
                        · have ha1 : ¬ (a : Int) < 8 := by omega
                          go_wp2_with fail
                          go_roundw
                          case rel => exact ⟨k + 1, t', _, _, _, by omega, by go_num, HO7.out, HT9.out, HF7.out, HGV9.out, HNX9.out, HX9.out, HG9.out, bl_drewN HB9.out _⟩
                          case measure => simp [intOf]; omega
                · have kf1 : ((k : Int) == fr) = false := by simp [hkf]
                  have kf2 : decide ((k : Int) = fr) = false := by simp [hkf]
                  have HGV6 := Lib.hid HGV.out
                  have HT6 := Lib.hid HT5.out
                  have HX6 := Lib.hid HX5.out
                  have HG6 := Lib.hid HG5.out
                  have HB6 := Lib.hid HB5.out
                  have HR6 := Lib.hid HR5.out
                  clear HT5 HX5 HG5 HB5 HR5
                  go_wp2_with fail
                  refine (pick_w T C L 8 8 t HOK.out A5 8 c5 (hl rows n nx 8) (hl_length _ _ _ _) _ HT6.out HR6.out (fun ad e => ⟨(HAG.out ad e).1, (HAG.out ad e).2.1, (HAG.out ad e).2.2.1⟩)).mono ?_
                  rintro e w7 ⟨t', r, m', hp, rfl, h7, ho7, hu7⟩
                  obtain ⟨c, hc, hr, hf7⟩ := HF.out.pick hqb.1 (fun c hc => by rw [hdOf_hl rows n nx hc]; exact hf_range rows n nx c) hp
                  subst hr
                  rw [hdOf_hl rows n nx hc] at hf7
                  have hm8 : m' = 8 := by
                    obtain ⟨p, R, cur, hq1⟩ := hf7
                    rw [← h7.1.2, hq1.2.2.2.1]
                    have hp8 := hq1.2.2.1
                    simp [rot]
                    omega
                  rw [hm8] at h7
                  obtain ⟨z, hz⟩ : ∃ z : Int, z = hf rows n nx c := ⟨_, rfl⟩
                  have hzb := hf_range rows n nx c
                  rw [← hz] at hf7 hzb
                  have HF7 := Lib.hid hf7
                  have H7 := Lib.hid h7
                  have HO7 := Lib.hid ho7
                  have HX7 := Lib.hid (HX6.out.upd3 hu7 (by have := HLT.out; omega) (by have := HLT.out; omega) (by have := HLT.out; omega))
                  have HG7 := Lib.hid (HG6.out.upd3 hu7 (by have := HLT.out; omega) (by have := HLT.out; omega) (by have := HLT.out; omega))
                  have HR7 := Lib.hid (HR6.out.upd3 hu7 (fun ad e => ⟨(HAG.out ad e).1, (HAG.out ad e).2.1, (HAG.out ad e).2.2.1⟩))
                  have HB7 := Lib.hid (bl_upd3 HB6.out hu7 hT hC hL)
                  obtain ⟨ad, rfl, hcell⟩ := HR7.out.2 c (by rw [hl_length]; exact hc)
                  have r1 : w7.cell? (ad.add c) = some (.int .i64 z) := by rw [hz, ← hl_at rows n nx hc]; exact hcell
                  clear hp h7 ho7 hu7 hf7 hm8 hz hcell
                  obtain ⟨Z, hZ, hgb⟩ := HGV6.out
                  have hgc := (hgb c hc).2
                  obtain ⟨g0, hg0⟩ : ∃ g0 : Int, g0 = gv c := ⟨_, rfl⟩
                  have r2 : w7.cell? ⟨X + 1, c, none⟩ = some (.int .i64 g0) := by rw [hg0]; exact HG7.out.cell hc
                  have hgc' : 0 ≤ g0 ∧ g0 ≤ 9216 * (k : Int) := by rw [hg0]; exact hgc
                  obtain ⟨s, hss⟩ : ∃ s, s = g0 + z := ⟨_, rfl⟩
                  have m1 : IntKind.i64.wrap (g0 + z) = s := by rw [hss]; exact IntWalk.i64_in _ (by omega)
                  have f2 : w7.frozen? ⟨X + 1, c, none⟩ = false := RoomO.free HG7.out c
                  have hnc := HNX.out c hc
                  obtain ⟨x0, hx0⟩ : ∃ x0 : Int, x0 = nx c := ⟨_, rfl⟩
                  rw [← hx0] at hnc
                  have m2 : IntKind.i64.wrap (x0 + 1) = x0 + 1 := IntWalk.i64_in _ (by omega)
                  have HX0 := Lib.hid hx0
                  have HG0 := Lib.hid hg0
                  have HSS := Lib.hid hss
                  have c0 : ¬ (c : Int) < 0 := by omega
                  have c1 : ¬ (7 : Int) < (c : Int) := by omega
                  have c2 : (0 : Int) ≤ (c : Int) := by omega
                  have c3 : (c : Int) < 8 := by omega
                  clear hZ hgb hgc hx0 hg0 hss
                  dsimp only [pickV]
                  go_wp2_with fail
                  refine wp_region_still_tail 10 (by kernel_rfl) (by kernel_rfl) ?_
                  change wpStill _ _ (World.drew _) (fun a' => wpList _ _ _ _ a' (World.drew _)) _ _
                  simp only [List.take_succ_cons, List.take_zero, List.drop_succ_cons, List.drop_zero]
                  repeat still_step
                  refine wpStill_nil ?_
                  go_upto_region 27 with (fail)
                  have HG8 := Lib.hid (show A8 (w7.setCell ⟨X + 1, c, none⟩ (.int .i64 s)).drew (X + 1) (plus gv c z) 31 by
                    have h := A8.set (show A8 w7 (X + 1) gv 31 from HG7.out) hc z
                    rw [← HG0.out, ← HSS.out] at h
                    exact h)
                  have hu8 : Upd (X + 1) w7 (w7.setCell ⟨X + 1, c, none⟩ (.int .i64 s)).drew := ((Upd.refl (X + 1) w7).set c (.int .i64 s)).drewN 1
                  have HX8 := Lib.hid (HX7.out.upd hu8 (by omega))
                  have HT8 := Lib.hid (H7.out.own hu8 HLT.out (fun g e => by cases e; omega))
                  have HB8 := Lib.hid (bl_upd HB7.out hu8 (by have := HWX.out; omega))
                  clear hu8
                  generalize hW8 : World.drew _ = w8 at HG8 HX8 HT8 HB8 ⊢
                  clear hW8 r1 r2 f2
                  have r3 : w8.cell? ⟨X, c, none⟩ = some (.int .i64 x0) := by rw [HX0.out]; exact HX8.out.cell hc
                  have f3 : w8.frozen? ⟨X, c, none⟩ = false := RoomO.free HX8.out c
                  have HX9 := Lib.hid (show A8 (w8.setCell ⟨X, c, none⟩ (.int .i64 (x0 + 1))) X (plus nx c 1) 30 by
                    have h := A8.set HX8.out hc 1
                    rw [← HX0.out] at h
                    exact h)
                  have hu9 := (Upd.refl X w8).set c (.int .i64 (x0 + 1))
                  have HG9 := Lib.hid (HG8.out.upd hu9 (by omega))
                  have HT9 := Lib.hid (HT8.out.own hu9 HLT.out (fun g e => by cases e; omega))
                  have HB9 := Lib.hid (bl_upd HB8.out hu9 HWX.out)
                  clear hu9
                  have HGV9 := Lib.hid (HGV6.out.step (c := c) (n := z) (by omega) hzb.2)
                  have HNX9 := Lib.hid (HNX.out.step c)
                  go_upto_region 28 with (fail)
                  generalize hW9 : World.setCell _ _ _ = w9 at HG9 HX9 HT9 HB9 ⊢
                  clear hW9 r3 f3
                  by_cases hkl : (k : Int) < fr
                  · go_wp2_with fail
                    go_roundw
                    case rel => exact ⟨k + 1, t', _, _, _, by omega, by go_num, HO7.out, HT9.out, HF7.out, HGV9.out, HNX9.out, HX9.out, HG9.out, HB9.out⟩
                    case measure => simp [intOf]; omega
                  · by_cases hkt : tt < (k : Int)
                    · go_wp2_with fail
                      go_roundw
                      case rel => exact ⟨k + 1, t', _, _, _, by omega, by go_num, HO7.out, HT9.out, HF7.out, HGV9.out, HNX9.out, HX9.out, HG9.out, HB9.out⟩
                      case measure => simp [intOf]; omega
                    · go_wp2_with fail
                      go_loopw [119] (fun i wa => ∃ (a qd : Nat), a ≤ 8 ∧ i = .int .i64 a ∧ wa = w9.drewN qd) (fun i _ => 8 - (intOf i).toNat)
                      case atStart => exact ⟨0, 0, Nat.zero_le _, rfl, rfl⟩
                      case round =>
                        obtain ⟨a, qa, ha, rfl, rfl⟩ := hrel
                        by_cases hla : a < 8
                        · have ha0 : (0 : Int) ≤ (a : Int) := Int.natCast_nonneg a
                          have ha1 : (a : Int) < 8 := by omega
                          go_wp2_with fail
                          go_loopw [122] (fun i wb => ∃ (b qd : Nat), b ≤ 8 ∧ i = .int .i64 b ∧ wb = w9.drewN qd) (fun i _ => 8 - (intOf i).toNat)
                          case atStart => exact ⟨0, qa, Nat.zero_le _, rfl, rfl⟩
                          case round =>
                            obtain ⟨b, qb, hb, rfl, rfl⟩ := hrel
                            by_cases hlb : b < 8
                            · have hb0 : (0 : Int) ≤ (b : Int) := Int.natCast_nonneg b
                              have hb1 : (b : Int) < 8 := by omega
                              obtain ⟨ga, hga⟩ : ∃ ga : Int, ga = plus gv c z a := ⟨_, rfl⟩
                              obtain ⟨gb, hgb⟩ : ∃ gb : Int, gb = plus gv c z b := ⟨_, rfl⟩
                              have s1 : w9.cell? ⟨X + 1, a, none⟩ = some (.int .i64 ga) := by rw [hga]; exact HG9.out.cell hla
                              have s2 : w9.cell? ⟨X + 1, b, none⟩ = some (.int .i64 gb) := by rw [hgb]; exact HG9.out.cell hlb
                              have hck := HGV9.out.check (by omega) (HF7.out.band (by omega)) hla hlb
                              rw [← hga, ← hgb, HQ2.out] at hck
                              obtain ⟨Z9, _, hz9⟩ := HGV9.out
                              have hz1 := (hz9 a hla).2
                              have hz2 := (hz9 b hlb).2
                              rw [← hga] at hz1
                              rw [← hgb] at hz2
                              have m3 : IntKind.i64.wrap (ga - gb) = ga - gb := IntWalk.i64_in _ (by omega)
                              clear hz9 hga hgb
                              go_wp2_with fail
                              go_quiet (fail)
                              go_wp2_with fail
                              go_roundw
                              case rel => exact ⟨b + 1, _, by omega, by go_num, by first | rfl | simp only [World.drewN_drewN]⟩
                              case measure => simp [intOf]; omega
                            · have hb1 : ¬ (b : Int) < 8 := by omega
                              go_wp2_with fail
                              go_roundw
                              case rel => exact ⟨a + 1, qb, by omega, by go_num, rfl⟩
                              case measure => simp [intOf]; omega
                        · have ha1 : ¬ (a : Int) < 8 := by omega
                          go_wp2_with fail
                          go_roundw
                          case rel => exact ⟨k + 1, t', _, _, _, by omega, by go_num, HO7.out, HT9.out, HF7.out, HGV9.out, HNX9.out, HX9.out, HG9.out, bl_drewN HB9.out _⟩
                          case measure => simp [intOf]; omega
          · have hk1 : ¬ (k : Int) < (n : Int) := by omega
            go_wp2
            go_ret
            exact ⟨rfl, HBW.out⟩
end Go.Proofs.Ytlnfenjoagkpdaa
