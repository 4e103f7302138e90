/- A step; a new key. -/
import Derived.Test.YtgbdkleckmilkaaGenB
namespace Go.Proofs.Ytgbdkleckmilkaa
open Go.RowKit
set_option linter.unusedVariables false
set_option linter.unusedSimpArgs false

theorem gnC_split (g : Gn) : gnC g = ([.int .i64 g.bk] ++ bys g.k0 ++ bys g.k1) ++ [.int .i64 g.old, .bool g.mv, .int .i64 g.md, .int .i64 g.ep] := rfl
theorem gn_head_length {g : Gn} (h : okGn g) : ([Value.int .i64 g.bk] ++ bys g.k0 ++ bys g.k1).length = 33 := by
  simp [bys_length, h.2.1.1, h.2.2.1.1]
theorem gn_set {g : Gn} (h : okGn g) (i : Nat) (v : Value) : (gnC g).toArray.setIfInBounds (33 + i) v = (([Value.int .i64 g.bk] ++ bys g.k0 ++ bys g.k1) ++ [Value.int .i64 g.old, .bool g.mv, .int .i64 g.md, .int .i64 g.ep].set i v).toArray := by
  have e := gn_head_length h
  rw [gnC_split]
  simp only [List.setIfInBounds_toArray]
  rw [List.set_append_right _ _ (by rw [e]; omega), e]
  congr 3
  omega
theorem gn_set_old {g : Gn} (h : okGn g) (x : Nat) : (gnC g).toArray.setIfInBounds 33 (.int .i64 x) = (gnC { g with old := x }).toArray := gn_set h 0 _
theorem gn_set_mv {g : Gn} (h : okGn g) (x : Bool) : (gnC g).toArray.setIfInBounds 34 (.bool x) = (gnC { g with mv := x }).toArray := gn_set h 1 _
theorem gn_set_md {g : Gn} (h : okGn g) (x : Nat) : (gnC g).toArray.setIfInBounds 35 (.int .i64 x) = (gnC { g with md := x }).toArray := gn_set h 2 _
theorem gn_set_ep {g : Gn} (h : okGn g) (x : Int) : (gnC g).toArray.setIfInBounds 36 (.int .i64 x) = (gnC { g with ep := x }).toArray := gn_set h 3 _

/-- Behind a step (of those that move). -/
def gnStep (g : Gn) : Gn := if g.md + 1 = g.bk then { g with mv := false, old := 1 - g.old, md := g.md + 1, ep := g.ep + 1 } else { g with md := g.md + 1 }

set_option maxHeartbeats 1000000 in
theorem step_no_w (G : Nat) (g : Gn) (hg : okGn g) (hmv : g.mv = false) (w : World) (h : Obj1 w G (gnC g).toArray 75) :
    Calls Try.prog 26 #[.pointer (some ⟨G, 0, none⟩)] w fun e w' => e = .returned (.tuple #[.int .i64 0, .bool false]) ∧ w = w' := by
  have H := Lib.hid h
  clear h
  go_enter Try.func26, Try.ntmps26
  go_wp2_with fail
  refine (gmoving_w G g hg _ H.out).mono ?_
  rintro e w' ⟨rfl, rfl⟩
  rw [hmv]
  go_wp2
  go_ret2
  exact ⟨rfl, rfl⟩

set_option maxRecDepth 100000 in
set_option maxHeartbeats 1000000 in
theorem step_w (G : Nat) (g : Gn) (hg : okGn g) (hmv : g.mv = true) (hmd : g.md < g.bk) (w : World) (h : Obj1 w G (gnC g).toArray 75) :
    Calls Try.prog 26 #[.pointer (some ⟨G, 0, none⟩)] w fun e w' => e = .returned (.tuple #[.int .i64 ((g.old : Int) * (g.bk : Int) + (g.md : Int)), .bool true]) ∧ Obj1 w' G (gnC (gnStep g)).toArray 75 ∧ Upd G w w' := by
  have hold : g.old ≤ 1 := hg.2.2.2.1
  have hb1 : 1 ≤ g.bk ∧ g.bk ≤ 64 := hg.1
  have hep : 0 ≤ g.ep ∧ g.ep ≤ 1000000 := hg.2.2.2.2.2
  obtain ⟨q0, q1, q2, q3, q4⟩ := gn_cell h hg
  have f1 : w.frozen? ⟨G, 33, none⟩ = false := h.free 33
  have f2 : w.frozen? ⟨G, 34, none⟩ = false := h.free 34
  have f3 : w.frozen? ⟨G, 35, none⟩ = false := h.free 35
  have f4 : w.frozen? ⟨G, 36, none⟩ = false := h.free 36
  obtain ⟨P, hP⟩ : ∃ P, P = g.old * g.bk := ⟨_, rfl⟩
  have hP2 : (g.old : Int) * (g.bk : Int) = (P : Int) := by rw [hP]; exact (Int.natCast_mul _ _).symm
  have hP3 : P ≤ 64 := by
    rw [hP]
    obtain h0 | h0 : g.old = 0 ∨ g.old = 1 := by omega
    · rw [h0]; omega
    · rw [h0]; omega
  have a1 : IntKind.i64.wrap ((g.old : Int) * (g.bk : Int)) = (P : Int) := by rw [hP2]; exact IntWalk.i64_in _ (by omega)
  have a2 : IntKind.i64.wrap ((P : Int) + (g.md : Int)) = (P : Int) + (g.md : Int) := IntWalk.i64_in _ (by omega)
  obtain ⟨M1, hM1⟩ : ∃ M1, M1 = g.md + 1 := ⟨_, rfl⟩
  have a3 : IntKind.i64.wrap ((g.md : Int) + 1) = (M1 : Int) := by rw [show (g.md : Int) + 1 = (M1 : Int) by omega]; exact IntWalk.i64_in _ (by omega)
  obtain ⟨N1, hN1⟩ : ∃ N1, N1 = 1 - g.old := ⟨_, rfl⟩
  have a4 : IntKind.i64.wrap (1 - (g.old : Int)) = (N1 : Int) := by rw [show 1 - (g.old : Int) = (N1 : Int) by omega]; exact IntWalk.i64_in _ (by omega)
  have a5 : IntKind.i64.wrap (g.ep + 1) = g.ep + 1 := IntWalk.i64_in _ (by omega)
  have HPP := Lib.hid hP2
  have H := Lib.hid h
  rw [hP2]
  clear h hP2 hP
  have ok1 : ∀ x : Nat, x ≤ g.bk → okGn { g with md := x } := fun x hx => ⟨hg.1, hg.2.1, hg.2.2.1, hg.2.2.2.1, hx, hg.2.2.2.2.2⟩
  by_cases hl : M1 = g.bk
  · have hst : gnStep g = { g with mv := false, old := N1, md := g.bk, ep := g.ep + 1 } := by unfold gnStep; rw [if_pos (by omega), ← hN1, ← hM1, hl]
    rw [hl] at a3
    have HST := Lib.hid hst
    have o1 := ok1 g.bk (Nat.le_refl _)
    have o2 : okGn { g with md := g.bk, mv := false } := o1
    have o3 : okGn { g with md := g.bk, mv := false, old := N1 } := ⟨o2.1, o2.2.1, o2.2.2.1, by show N1 ≤ 1; omega, o2.2.2.2.2⟩
    have HC := Lib.hid (show ((((gnC g).toArray.setIfInBounds 35 (.int .i64 g.bk)).setIfInBounds 34 (.bool false)).setIfInBounds 33 (.int .i64 N1)).setIfInBounds 36 (.int .i64 (g.ep + 1)) = (gnC (gnStep g)).toArray by
      rw [gn_set_md hg, gn_set_mv o1, gn_set_old o2, gn_set_ep o3, hst])
    clear hst hM1 hN1 hl o1 o2 o3 ok1
    go_enter Try.func26, Try.ntmps26
    go_wp2_with fail
    refine (gmoving_w G g hg _ H.out).mono ?_
    rintro e w' ⟨rfl, rfl⟩
    rw [hmv]
    go_wp2_with fail
    go_quiet (fail)
    go_wp2_with fail
    go_quiet (fail)
    go_wp2
    go_ret2
    refine ⟨rfl, ?_, ((((((Upd.refl G w).drewN _).set 35 _).drewN _).set 34 _).set 33 _).set 36 _⟩
    rw [← HC.out]
    exact (((((H.out.drewN _).set 35 _).drewN _).set 34 _).set 33 _).set 36 _
  · have hl' : ¬ (M1 : Int) = (g.bk : Int) := by omega
    have hst : gnStep g = { g with md := M1 } := by unfold gnStep; rw [if_neg (by omega), ← hM1]
    have HST := Lib.hid hst
    have d1 : decide ((M1 : Int) = (g.bk : Int)) = false := by simp; omega
    have d2 : decide (M1 = g.bk) = false := by simp; omega
    have HC := Lib.hid (show (gnC g).toArray.setIfInBounds 35 (.int .i64 M1) = (gnC (gnStep g)).toArray by rw [gn_set_md hg, hst])
    clear hst hM1 hN1 ok1
    go_enter Try.func26, Try.ntmps26
    go_wp2_with fail
    refine (gmoving_w G g hg _ H.out).mono ?_
    rintro e w' ⟨rfl, rfl⟩
    rw [hmv]
    go_wp2_with fail
    go_quiet (fail)
    go_wp2_with fail
    go_quiet (fail)
    go_wp2
    go_ret2
    refine ⟨rfl, ?_, (((Upd.refl G w).drewN _).set 35 _).drewN _⟩
    rw [← HC.out]
    exact ((H.out.drewN _).set 35 _).drewN _
end Go.Proofs.Ytgbdkleckmilkaa
