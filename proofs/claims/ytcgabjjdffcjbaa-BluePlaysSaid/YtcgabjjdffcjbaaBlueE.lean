/- awake of bailifflaw20. -/
import Derived.Test.YtcgabjjdffcjbaaBlueD
namespace Go.Proofs.Ytcgabjjdffcjbaa
open Go.RowKit
set_option linter.unusedVariables false
set_option linter.unusedSimpArgs false

theorem SlI.of_obj {k : IntKind} {w : World} {C : Nat} {l : List Int} {T : TypeId} (h : Obj1 w C (l.map (Value.int k)).toArray T) (hl : l.length ≤ 9223372036854775807) (hw : ∀ x ∈ l, (Lit.int k x).wf = true) : SlI k w (some ⟨C, 0, none⟩) l.length l.length l := by
  refine ⟨rfl, Nat.le_refl _, hl, fun j v hj => ⟨_, rfl, ?_⟩, hw⟩
  rw [add_flat, h.cell, Nat.zero_add]
  simpa using hj

theorem SlI.updd {w W : World} {k : IntKind} {C D : Nat} {n c : Nat} {ks : List Int} (h : SlI k w (some ⟨C, 0, none⟩) n c ks) (hu : Upd D w W) (hne : C ≠ D) : SlI k W (some ⟨C, 0, none⟩) n c ks :=
  upd_rd h hu (fun ad e => by cases e; exact hne)

set_option maxHeartbeats 4000000 in
theorem awake20_w (w : World) : Calls Try.prog 18 #[] w fun e w' => e = .returned (.bool true) ∧ Below w.heap.size w w' := by
  have s1 : updN (putF 11) 1 [0] 1 [⟨0, 0, 0⟩] = [⟨11, 0, 0⟩] := by rfl
  have s2 : updN (touchF 0 10 0 100 1) 1 [0] 1 [⟨11, 0, 0⟩] = [⟨11, 0, 100⟩] := by rfl
  have s3 : markN 1 [0] [⟨11, 0, 100⟩] 1 = 100 := by rfl
  have s4 : flowsB 1 1 [0] = true := by rfl
  have s5 : mayV 11 = true := by rfl
  have HS1 := Lib.hid s1
  have HS2 := Lib.hid s2
  have HS3 := Lib.hid s3
  have HS4 := Lib.hid s4
  have HS5 := Lib.hid s5
  clear s1 s2 s3 s4 s5
  go_enter Try.func18, Try.ntmps18
  go_wp2_with fail
  refine (blueNew_w 1 1 10 0 100 1 _ (by omega) (by omega) (by omega) (by omega) (by omega) (by omega)).mono ?_
  rintro e w1 ⟨rfl, ho1, ho2, hb1⟩
  obtain ⟨D, hD⟩ : ∃ D, D = w.heap.size := ⟨_, rfl⟩
  rw [← hD] at ho1 ho2
  rw [← hD]
  have hDw1 : D < w1.heap.size := ho2.lt
  have hBw1 : D + 1 < w1.heap.size := ho1.lt
  have HD := Lib.hid hD
  have HO1 := Lib.hid ho1
  have HO2 := Lib.hid ho2
  have HW1 := Lib.hid hb1
  clear ho1 ho2 hb1 hD
  go_wp2_with fail
  obtain ⟨C, hC⟩ : ∃ C, C = w1.heap.size := ⟨_, rfl⟩
  have hsl : SlI .i64 (w1.alloc (.cells #[.int .i64 0] 3)) (some ⟨C, 0, none⟩) 1 1 [0] := by
    rw [hC]
    exact SlI.of_obj (l := [0]) (Obj1.new w1 #[.int .i64 0] 3) (by simp) (by intro x hx; simp at hx; subst hx; decide)
  have HSL := Lib.hid hsl
  have HCC := Lib.hid hC
  rw [← hC] at hDw1 hBw1 ⊢
  clear hsl hC
  have hCD : C ≠ D := by omega
  refine (bluePut_w (D + 1) D 1 1 1 10 0 100 1 11 _ 1 1 [0] _ _ (HO1.out.alloc _) (HO2.out.alloc _) HSL.out rfl rfl (by omega) (by omega) (by omega) (fun _ ad e => by cases e; exact hCD) (by omega)).mono ?_
  rw [HS4.out, HS5.out, Bool.true_and, if_pos rfl, show (List.replicate (1 * 1) (⟨0, 0, 0⟩ : Bn)) = [⟨0, 0, 0⟩] from rfl, HS1.out]
  rintro e w2 ⟨rfl, hd2, hu2⟩
  have HD2 := Lib.hid hd2
  have HB2 := Lib.hid (Obj1.of_grown (HO1.out.alloc _) hu2 (by simp))
  have HSL2 := Lib.hid (HSL.out.updd hu2 hCD)
  have HW2 := Lib.hid (bl_upd (bl_alloc HW1.out _) hu2 (by rw [HD.out]; exact Nat.le_refl _))
  clear hd2 hu2
  go_wp2_with fail
  refine (blueTouch_w (D + 1) D 1 1 1 10 0 100 1 0 _ 1 1 [0] _ _ HB2.out HD2.out HSL2.out rfl rfl (by omega) (by omega) (by omega) (fun _ ad e => by cases e; exact hCD) (by intro b hb; simp at hb; subst hb; unfold okBn; dsimp only; omega) (by omega) (by omega) (by omega) (by omega) (by omega)).mono ?_
  rw [HS4.out, if_pos rfl, HS2.out]
  rintro e w3 ⟨rfl, hd3, hu3⟩
  have HD3 := Lib.hid hd3
  have HB3 := Lib.hid (Obj1.of_grown HB2.out hu3 (by simp))
  have HSL3 := Lib.hid (HSL2.out.updd hu3 hCD)
  have HW3 := Lib.hid (bl_upd HW2.out hu3 (by rw [HD.out]; exact Nat.le_refl _))
  have hC3 : C < w3.heap.size := by
    have := hu3.size
    have h2 := HSL2.out.at 0 (by omega)
    obtain ⟨ad, e, hc, _⟩ := h2
    cases e
    rw [add_flat] at hc
    have h5 : C < w2.heap.size := cell_lt hc
    omega
  clear hd3 hu3
  go_wp2_with fail
  refine (blueMark_w (D + 1) D 1 1 1 10 0 100 1 _ 1 1 [0] _ _ HB3.out HD3.out HSL3.out rfl rfl (by omega) (by omega) (by omega) (fun _ ad e => by cases e; exact hCD) (fun _ ad e => by cases e; exact hC3)).mono ?_
  rw [HS4.out, if_pos rfl, HS3.out]
  rintro e w4 ⟨rfl, hb4⟩
  have HW4 := Lib.hid (bl_next HW3.out hb4)
  clear hb4
  go_wp2
  go_ret
  exact ⟨rfl, HW4.out⟩
end Go.Proofs.Ytcgabjjdffcjbaa
