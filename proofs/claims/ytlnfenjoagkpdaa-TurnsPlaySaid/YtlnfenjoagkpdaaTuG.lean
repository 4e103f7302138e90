/- Waking, whichever; nobody's heads; turns that are told; awake of bailifflaw15; two like lists. -/
import Derived.Test.YtlnfenjoagkpdaaTuF
namespace Go.Proofs.Ytlnfenjoagkpdaa
open Go.RowKit
set_option linter.unusedVariables false
set_option linter.unusedSimpArgs false

theorem okTn.wake {t : Tn} (h : okTn t) {c : Nat} {x : Cl} (hx : t.l[c]? = some x) (ha : x.aw = false) : okTn (tnWake t c) := by
  have hnot : c ∉ t.line := fun hc => by
    obtain ⟨y, hy, hya⟩ := (h.2.2.1 c).1 hc
    rw [hx] at hy
    cases hy
    rw [ha] at hya
    cases hya
  refine h.step hx ?_ (fun d => ?_) ⟨Int.le_refl 0, by have := h.2.2.2.1; show (0 : Int) ≤ 9216 + t.q; omega, fun _ => by show (0 : Int) ≤ 9216; omega⟩
  · refine List.nodup_append.2 ⟨h.2.1, by simp, fun a ha b hb => ?_⟩
    simp at hb
    rw [hb]
    rintro rfl
    exact hnot ha
  · by_cases hd : d = c
    · subst hd; simp
    · rw [if_neg hd]; simp [hd]
/-- A class wakes, or is awake. -/
def tnWk (t : Tn) (c : Nat) : Tn := match t.l[c]? with | some x => if x.aw = true then t else tnWake t c | none => t
theorem wake_w (T C L N m : Nat) (t : Tn) (hok : okTn t) (c : Nat) (hc : c < N) (w : World) (h : TnO w T C L N m t) :
    Calls Try.prog 13 #[.pointer (some ⟨T, 0, none⟩), .int .i64 c] w fun e w' => ∃ b m', e = .returned (.bool b) ∧ TnO w' T C L N m' (tnWk t c) ∧ okTn (tnWk t c) ∧ Upd3 T C L w w' := by
  obtain ⟨x, hx⟩ : ∃ x, t.l[c]? = some x := ⟨_, List.getElem?_eq_getElem (by rw [h.1.1]; exact hc)⟩
  have hN129 : N ≤ 129 := by rw [← h.1.1]; exact hok.1.2
  have he : tnWk t c = if x.aw = true then t else tnWake t c := by unfold tnWk; rw [hx]
  rw [he]
  by_cases ha : x.aw = true
  · rw [if_pos ha]
    refine (wakeNo_w T C L N m t c (.inr ⟨x, by simpa using hx, ha⟩) hN129 w h).mono ?_
    rintro e w' ⟨rfl, rfl⟩
    exact ⟨false, m, rfl, h, hok, Upd3.refl _ _ _ _⟩
  · rw [if_neg ha]
    have hf : x.aw = false := by simpa using ha
    refine (wakeYes_w T C L N m t hok c x hx hf w h).mono ?_
    rintro e w' ⟨rfl, h1, h2⟩
    exact ⟨true, m + 1, rfl, h1, hok.wake hx hf, h2⟩
theorem pickNil_w (p v : Value) (hv : v = .nilIface) (T : Nat) (hp : p = .pointer (some ⟨T, 0, none⟩)) (w : World) :
    Calls Try.prog 14 #[p, v] w fun e w' => e = .returned (.tuple #[.int .i64 0, .bool false]) ∧ w = w' := by
  subst hv hp
  go_enter Try.func14, Try.ntmps14
  go_wp2
  go_ret2
  exact ⟨rfl, rfl⟩
theorem Pk.empty {hd : Nat → Int} {t t' : Tn} {r : Option Nat} (h : Pk hd t t' r) (hl : t.line = []) : r = Option.none ∧ t' = t := by
  cases h with
  | none _ => exact ⟨rfl, rfl⟩
  | sleep h1 => rw [hl] at h1; cases h1
  | serve h1 => rw [hl] at h1; cases h1
  | last h1 => rw [hl] at h1; cases h1
theorem Pk.served {hd : Nat → Int} {t t' : Tn} {r : Option Nat} (h : Pk hd t t' r) {c : Nat} {rest : List Nat} {x : Cl} (hl : t.line = c :: rest) (h1 : 1 ≤ hd c) (hx : t.l[c]? = some x) (hle : hd c ≤ deNew t x) : r = some c ∧ t' = tnSet t c ⟨x.aw, false, deNew t x - hd c⟩ := by
  cases h with
  | none h2 => rw [hl] at h2; cases h2
  | sleep h2 h3 => rw [hl] at h2; cases h2; omega
  | serve h2 h3 h4 h5 => rw [hl] at h2; cases h2; rw [hx] at h4; cases h4; exact ⟨rfl, rfl⟩
  | last h2 h3 h4 h5 => rw [hl] at h2; cases h2; rw [hx] at h4; cases h4; exact absurd hle h5
theorem Pk.slept {hd : Nat → Int} {t t' : Tn} {r : Option Nat} (h : Pk hd t t' r) (hall : ∀ c ∈ t.line, hd c < 1) : r = Option.none ∧ t'.line = [] := by
  induction h with
  | none h1 => exact ⟨rfl, h1⟩
  | sleep h1 h2 h3 ih =>
    refine ih (fun d hd2 => ?_)
    rw [sleep_line h1] at hd2
    exact hall d (by rw [h1]; exact List.mem_cons_of_mem _ hd2)
  | @serve t c rest x h1 h2 _ _ =>
    have h3 := hall c (by rw [h1]; simp)
    omega
  | @last t t' r c rest x h1 h2 _ _ _ _ =>
    have h3 := hall c (by rw [h1]; simp)
    omega
set_option maxHeartbeats 1000000 in
theorem intsN_w (A1 A2 : Option Addr) (n c1 c2 : Nat) (l : List Nat) (hl : l.length = n) (hn : n ≤ 1000000000) (w : World) (h1 : Rd w A1 (lineV l)) (h2 : Rd w A2 (lineV l)) :
    Calls Try.prog 21 #[.slice A1 n c1, .slice A2 n c2] w fun e w' => e = .returned (.bool true) ∧ ∃ q, w' = w.drewN q := by
  have H1 := Lib.hid h1
  have H2 := Lib.hid h2
  have HL := Lib.hid hl
  clear h1 h2 hl
  go_enter Try.func21, Try.ntmps21
  go_wp2_with fail
  go_loopw [13] (fun i wr => ∃ k : Nat, k ≤ n ∧ i = .int .i64 k ∧ ∃ q, wr = w.drewN q) (fun i _ => n - (intOf i).toNat)
  case atStart => exact ⟨0, by omega, rfl, 0, rfl⟩
  case round =>
    obtain ⟨k, hk, rfl, q, rfl⟩ := hrel
    by_cases hlt : k < n
    · have hk0 : (0 : Int) ≤ (k : Int) := Int.natCast_nonneg k
      have hk1 : (k : Int) < (n : Int) := by omega
      obtain ⟨x, hx⟩ : ∃ x, l[k]? = some x := ⟨_, List.getElem?_eq_getElem (by have := HL.out; omega)⟩
      obtain ⟨ad1, rfl, d1⟩ := H1.out k _ (lineV_at hx)
      obtain ⟨ad2, rfl, d2⟩ := H2.out k _ (lineV_at hx)
      go_wp2_with fail
      go_quiet (fail)
      go_wp2_with fail
      go_roundw
      case rel => exact ⟨k + 1, by omega, by go_num, _, rfl⟩
      case measure => simp [intOf]; omega
    · obtain rfl : k = n := by omega
      go_wp2
      go_ret
      exact ⟨rfl, q, rfl⟩
theorem pick1_law {t' : Tn} {r : Option Nat} (h : Pk (hdOf [6]) (tnWk (tnNew 1 10) 0) t' r) : r = some 0 ∧ deOf t' 0 = 4 := by
  obtain ⟨h1, h2⟩ := h.served (c := 0) (rest := []) (x := ⟨true, true, 0⟩) rfl (by decide) rfl (by decide)
  subst h2
  exact ⟨h1, by rfl⟩
set_option maxRecDepth 100000 in
set_option maxHeartbeats 2000000 in
theorem awake15_w (w : World) : Calls Try.prog 11 #[] w fun e w' => e = .returned (.bool true) ∧ Below w.heap.size w w' := by
  have hok0 := tnNew_ok (n := 1) (q := 10) (by omega) (by omega)
  go_enter Try.func11, Try.ntmps11
  go_wp2_with fail
  refine (tnNew_w 1 10 (by omega) (by omega) _).mono ?_
  rintro e w1 ⟨T, C, L, rfl, hT, hC, hL, h1, hb1⟩
  have H1 := Lib.hid h1
  have B1 := Lib.hid hb1
  clear h1 hb1
  go_wp2_with fail
  refine (wakeYes_w T C L 1 0 (tnNew 1 10) hok0 0 c00 rfl rfl _ H1.out).mono ?_
  rintro e w2 ⟨rfl, h2, hu2⟩
  have H2 := Lib.hid (show TnO w2 T C L 1 1 (tnWk (tnNew 1 10) 0) from h2)
  have HO2 := Lib.hid (show okTn (tnWk (tnNew 1 10) 0) from hok0.wake (c := 0) (x := c00) rfl rfl)
  have B2 := Lib.hid (bl_upd3 B1.out hu2 hT hC hL)
  clear h2 hu2
  have H3 := Lib.hid (H2.out.below (bl_alloc (Below.refl w2.heap.size w2) (.cells #[.int .i64 6] 3)))
  have B3 := Lib.hid (bl_next B2.out (bl_alloc (Below.refl w2.heap.size w2) (.cells #[.int .i64 6] 3)))
  have HR := Lib.hid (show RdI (w2.alloc (.cells #[.int .i64 6] 3)) (some ⟨w2.heap.size, 0, none⟩) [6] from ⟨by decide, fun j hj => ⟨_, rfl, by
    have : j = 0 := by simp at hj; omega
    subst this
    exact new_cell w2 _ _ 0⟩⟩)
  have HNA := Lib.hid (show ∀ ad, (some ⟨w2.heap.size, 0, none⟩ : Option Addr) = some ad → ad.block ≠ T ∧ ad.block ≠ C ∧ ad.block ≠ L from fun ad e => by
    cases e
    exact ⟨Nat.ne_of_gt H2.out.2.1.lt, Nat.ne_of_gt H2.out.2.2.1.lt, Nat.ne_of_gt H2.out.2.2.2.lt⟩)
  go_wp2_with fail
  refine (pick_w T C L 1 1 _ HO2.out (some ⟨w2.heap.size, 0, none⟩) 1 1 [6] rfl _ H3.out HR.out HNA.out).mono ?_
  rintro e w4 ⟨t', r, m', hp, rfl, h4, ho4, hu4⟩
  obtain ⟨rfl, hde⟩ := pick1_law hp
  have H4 := Lib.hid h4
  have HDE := Lib.hid hde
  have B4 := Lib.hid (bl_upd3 B3.out hu4 hT hC hL)
  clear h4 hu4 hp hde
  dsimp only [pickV]
  go_wp2_with fail
  refine (deficit_w T C L 1 m' t' (by omega) 0 _ H4.out).mono ?_
  rintro e w' ⟨rfl, rfl⟩
  rw [HDE.out]
  go_wp2
  go_ret
  exact ⟨rfl, B4.out⟩
end Go.Proofs.Ytlnfenjoagkpdaa
