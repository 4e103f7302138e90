/- Blue's closures: each does something with one bin. -/
import Derived.Test.YtcgabjjdffcjbaaBlueA
namespace Go.Proofs.Ytcgabjjdffcjbaa
open Go.RowKit
set_option linter.unusedVariables false
set_option linter.unusedSimpArgs false

/-- A bin as there may be. -/
def okBn (b : Bn) : Prop := (0 ≤ b.n ∧ b.n ≤ 4611686018427387904) ∧ (0 ≤ b.c ∧ b.c ≤ 4611686018427387903) ∧ (0 ≤ b.p ∧ b.p ≤ 65536)
def putF (v : Int) (b : Bn) : Bn := { b with n := plus (cnt b.n) v }
def takeF (v : Int) (b : Bn) : Bn := { b with n := subC b.n v }
/-- The moment, cut. -/
def blueNow (now : Int) : Int := if now < 0 then 0 else if 4611686018427387903 < now then 4611686018427387903 else now
def touchF (now target hold up down : Int) (b : Bn) : Bn :=
  if blueNow now - b.c < hold then b else if target < b.n then { b with p := (if b.p + up ≤ 65536 then b.p + up else 65536), c := blueNow now } else if b.n = 0 then { b with p := (if 0 ≤ b.p - down then b.p - down else 0), c := blueNow now } else b

theorem blueNow_range (now : Int) : 0 ≤ blueNow now ∧ blueNow now ≤ 4611686018427387903 := by unfold blueNow; repeat' split; all_goals omega

theorem modify_at {l : List Bn} {i : Nat} {b : Bn} (f : Bn → Bn) (h : l[i]? = some b) : l.modify i f = l.set i (f b) := by
  apply List.ext_getElem?
  intro j
  rw [List.getElem?_modify, List.getElem?_set]
  have hi := (List.getElem?_eq_some_iff.1 h).1
  by_cases hij : i = j
  · subst hij
    rw [List.getElem?_eq_getElem hi] at h
    simp at h
    simp [h, hi]
  · simp [hij]

set_option maxHeartbeats 1000000 in
theorem bluePut1_w (D E i : Nat) (v : Int) (l : List Bn) (b : Bn) (w : World) (h : Obj1 w D (binsC l) 82) (hb : l[i]? = some b) (hE : w.cell? ⟨E, 0, none⟩ = some (.int .i64 v)) :
    Calls Try.prog 41 #[.pointer (some ⟨D, i * 3, none⟩), .pointer (some ⟨E, 0, none⟩)] w fun e w' => e = .returned (.tuple #[]) ∧ Obj1 w' D (binsC (l.modify i (putF v))) 82 ∧ Upd D w w' := by
  have c0 : w.cell? ⟨D, i * 3, none⟩ = some (.int .i64 b.n) := (h.cell _).trans (binsC_at hb).1
  have f0 : w.frozen? ⟨D, i * 3, none⟩ = false := h.free _
  have HH := Lib.hid h
  have HB := Lib.hid hb
  clear h hb
  go_enter Try.func41, Try.ntmps41
  go_wp2_with fail
  have g1 : (w.alloc (.cells #[.int .i64 b.n, .int .i64 v] 2)).frozen? ⟨D, i * 3, none⟩ = false := (HH.out.alloc _).free _
  have g2 : (w.alloc (.cells #[.int .i64 b.n, .int .i64 v] 2)).cell? ⟨D, i * 3, none⟩ = some (.int .i64 b.n) := ((HH.out.alloc _).cell _).trans (binsC_at HB.out).1
  refine wp_region_any (by kernel_rfl) ?_
  try (change wpAny _ _ _ _ _ _ _ (World.drew _))
  refine wpAny_take (i := 0) (v := ?_) rfl (by kernel_rfl) (by kernel_rfl) (by kernel_rfl) (fun _ _ _ h => h) (Or.inl ⟨by rfl, ?_⟩) ?_
  rotate_left
  · intro w; go_simp
    try with_reducible rfl
  refine wpAny_take (i := 1) (v := ?_) rfl (by kernel_rfl) (by kernel_rfl) (by kernel_rfl) (fun _ _ _ h => h) (Or.inl ⟨by rfl, ?_⟩) ?_
  rotate_left
  · intro w; go_simp
    try with_reducible rfl
  go_simp
  refine wpAny_take (i := 2) (v := ?_) rfl (by kernel_rfl) (by kernel_rfl) (by kernel_rfl) (fun _ _ _ h => h) (Or.inl ⟨by rfl, ?_⟩) ?_
  rotate_left
  · intro w; go_simp
    try with_reducible rfl
  refine wpAny_take (i := 3) (v := ?_) rfl (by kernel_rfl) (by kernel_rfl) (by kernel_rfl) (fun _ _ _ h => h) (Or.inl ⟨by rfl, ?_⟩) ?_
  rotate_left
  · intro w; go_simp
    try with_reducible rfl
  go_simp
  refine wpAny_ready (rs := [4, 5]) (by kernel_rfl) (by simp) ?_
  refine AllReady.cons rfl (fun K hK => ?_) ?_
  rotate_left
  · refine AllReady.cons rfl (fun K hK => ?_) ?_
    rotate_left
    · exact AllReady.nil
    go_simp
    go_wp2_with fail
    refine wpAny_ready (rs := [4]) (by kernel_rfl) (by simp) ?_
    refine AllReady.cons rfl (fun K hK => ?_) ?_
    rotate_left
    · exact AllReady.nil
    go_simp
    go_wp2_with (fail)
    refine wpAny_ready (rs := [6]) (by kernel_rfl) (by simp) ?_
    refine AllReady.cons rfl (fun K hK => ?_) ?_
    rotate_left
    · exact AllReady.nil
    go_simp
    go_wp2_with (fail)
    refine wpAny_ready (rs := [7]) (by kernel_rfl) (by simp) ?_
    refine AllReady.cons rfl (fun K hK => ?_) ?_
    rotate_left
    · exact AllReady.nil
    go_simp
    go_wp2_with ((go_at_call 42; refine (Add2_w b.n v _ _ (new_atd (by simp) rfl) (new_atd (by simp) rfl)).mono ?_; rintro e w' ⟨rfl, rfl⟩))
    refine wpAny_take (i := 8) (v := ?_) rfl (by kernel_rfl) (by kernel_rfl) (by kernel_rfl) (fun _ _ _ h => h) (Or.inl ⟨by rfl, ?_⟩) ?_
    rotate_left
    · intro w; go_simp
      try with_reducible rfl
    refine wpAny_take (i := 9) (v := ?_) rfl (by kernel_rfl) (by kernel_rfl) (by kernel_rfl) (fun _ _ _ h => h) (Or.inl ⟨by rfl, ?_⟩) ?_
    rotate_left
    · intro w; go_simp
      try with_reducible rfl
    go_simp
    refine wpAny_ready (rs := [10]) (by kernel_rfl) (by simp) ?_
    refine AllReady.cons rfl (fun K hK => ?_) ?_
    rotate_left
    · exact AllReady.nil
    go_simp
    go_wp2_with (fail)
    refine wpAny_done (by kernel_rfl) ?_ _
    go_wp2
    go_end0
    refine ⟨rfl, ?_, (((Upd.refl D w).alloc _).set _ _).drewN 1⟩
    rw [modify_at _ HB.out, show (putF v b) = { b with n := plus (cnt b.n) v } from rfl, ← (binsC_set (plus (cnt b.n) v) HB.out).1]
    exact ((HH.out.alloc _).set _ _).drewN 1
  · go_simp
    go_wp2_with fail
    refine wpAny_ready (rs := [5]) (by kernel_rfl) (by simp) ?_
    refine AllReady.cons rfl (fun K hK => ?_) ?_
    rotate_left
    · exact AllReady.nil
    go_simp
    go_wp2_with (fail)
    refine wpAny_ready (rs := [6]) (by kernel_rfl) (by simp) ?_
    refine AllReady.cons rfl (fun K hK => ?_) ?_
    rotate_left
    · exact AllReady.nil
    go_simp
    go_wp2_with (fail)
    refine wpAny_ready (rs := [7]) (by kernel_rfl) (by simp) ?_
    refine AllReady.cons rfl (fun K hK => ?_) ?_
    rotate_left
    · exact AllReady.nil
    go_simp
    go_wp2_with ((go_at_call 42; refine (Add2_w b.n v _ _ (new_atd (by simp) rfl) (new_atd (by simp) rfl)).mono ?_; rintro e w' ⟨rfl, rfl⟩))
    refine wpAny_take (i := 8) (v := ?_) rfl (by kernel_rfl) (by kernel_rfl) (by kernel_rfl) (fun _ _ _ h => h) (Or.inl ⟨by rfl, ?_⟩) ?_
    rotate_left
    · intro w; go_simp
      try with_reducible rfl
    refine wpAny_take (i := 9) (v := ?_) rfl (by kernel_rfl) (by kernel_rfl) (by kernel_rfl) (fun _ _ _ h => h) (Or.inl ⟨by rfl, ?_⟩) ?_
    rotate_left
    · intro w; go_simp
      try with_reducible rfl
    go_simp
    refine wpAny_ready (rs := [10]) (by kernel_rfl) (by simp) ?_
    refine AllReady.cons rfl (fun K hK => ?_) ?_
    rotate_left
    · exact AllReady.nil
    go_simp
    go_wp2_with (fail)
    refine wpAny_done (by kernel_rfl) ?_ _
    go_wp2
    go_end0
    refine ⟨rfl, ?_, (((Upd.refl D w).alloc _).set _ _).drewN 1⟩
    rw [modify_at _ HB.out, show (putF v b) = { b with n := plus (cnt b.n) v } from rfl, ← (binsC_set (plus (cnt b.n) v) HB.out).1]
    exact ((HH.out.alloc _).set _ _).drewN 1

theorem blueTake1_w (D E i : Nat) (v : Int) (l : List Bn) (b : Bn) (w : World) (h : Obj1 w D (binsC l) 82) (hb : l[i]? = some b) (hE : w.cell? ⟨E, 0, none⟩ = some (.int .i64 v)) :
    Calls Try.prog 43 #[.pointer (some ⟨D, i * 3, none⟩), .pointer (some ⟨E, 0, none⟩)] w fun e w' => e = .returned (.tuple #[]) ∧ Obj1 w' D (binsC (l.modify i (takeF v))) 82 ∧ Upd D w w' := by
  have c0 : w.cell? ⟨D, i * 3, none⟩ = some (.int .i64 b.n) := (h.cell _).trans (binsC_at hb).1
  have f0 : w.frozen? ⟨D, i * 3, none⟩ = false := h.free _
  have HH := Lib.hid h
  have HB := Lib.hid hb
  clear h hb
  go_enter Try.func43, Try.ntmps43
  go_wp2_with fail
  refine wp_region_still_tail 9 (by kernel_rfl) (by kernel_rfl) ?_
  change wpStill _ _ (World.drew _) (fun a' => wpList _ _ _ _ a' (World.drew _)) _ _
  simp only [List.take_succ_cons, List.take_zero, List.drop_succ_cons, List.drop_zero]
  repeat still_step
  still_call (same_left (Sub_w _ _ _))
  repeat still_step
  refine wpStill_nil ?_
  go_wp2
  go_end0
  refine ⟨rfl, ?_, ((Upd.refl D w).drewN 1).set _ _⟩
  rw [modify_at _ HB.out, show (takeF v b) = { b with n := subC b.n v } from rfl, ← (binsC_set (subC b.n v) HB.out).1]
  exact (HH.out.drewN 1).set _ _

set_option maxHeartbeats 1000000 in
theorem blueMark1_w (D E i : Nat) (o : Int) (l : List Bn) (b : Bn) (w : World) (h : Obj1 w D (binsC l) 82) (hb : l[i]? = some b) (hE : Obj1 w E #[.int .i64 o] 3) :
    Calls Try.prog 46 #[.pointer (some ⟨D, i * 3, none⟩), .pointer (some ⟨E, 0, none⟩)] w fun e w' => e = .returned (.tuple #[]) ∧ Obj1 w' E #[.int .i64 (if b.p < o then b.p else o)] 3 ∧ Upd E w w' := by
  have c0 : w.cell? ⟨D, i * 3 + 2, none⟩ = some (.int .i64 b.p) := (h.cell _).trans (binsC_at hb).2.2
  have c1 : w.cell? ⟨E, 0, none⟩ = some (.int .i64 o) := hE.cell 0
  have f1 : w.frozen? ⟨E, 0, none⟩ = false := hE.free 0
  have HE := Lib.hid hE
  clear h hb hE
  by_cases ho : b.p < o
  · rw [if_pos ho]
    go_enter Try.func46, Try.ntmps46
    go_wp2_with fail
    refine wp_region_still_tail 6 (by kernel_rfl) (by kernel_rfl) ?_
    change wpStill _ _ (World.drew _) (fun a' => wpList _ _ _ _ a' (World.drew _)) _ _
    simp only [List.take_succ_cons, List.take_zero, List.drop_succ_cons, List.drop_zero]
    repeat still_step
    refine wpStill_nil ?_
    go_wp2
    go_end0
    exact ⟨rfl, (HE.out.drewN 1).set 0 _, ((Upd.refl E w).drewN 1).set 0 _⟩
  · rw [if_neg ho]
    go_enter Try.func46, Try.ntmps46
    go_wp2_with fail
    refine wp_region_still_tail 6 (by kernel_rfl) (by kernel_rfl) ?_
    change wpStill _ _ (World.drew _) (fun a' => wpList _ _ _ _ a' (World.drew _)) _ _
    simp only [List.take_succ_cons, List.take_zero, List.drop_succ_cons, List.drop_zero]
    repeat still_step
    refine wpStill_nil ?_
    go_wp2
    go_end0
    exact ⟨rfl, (HE.out.drewN 1).set 0 _, ((Upd.refl E w).drewN 1).set 0 _⟩
theorem modify_same {l : List Bn} {i : Nat} {b : Bn} {f : Bn → Bn} (h : l[i]? = some b) (hf : f b = b) : l.modify i f = l := by
  rw [modify_at f h, hf]
  have hi := (List.getElem?_eq_some_iff.1 h)
  obtain ⟨hi, he⟩ := hi
  subst he
  exact List.set_getElem_self hi
theorem binsC_set2 {l : List Bn} {i : Nat} {b : Bn} (x t : Int) (h : l[i]? = some b) :
    ((binsC l).setIfInBounds (i * 3 + 2) (.int .i64 x)).setIfInBounds (i * 3 + 1) (.int .i64 t) = binsC (l.set i { b with p := x, c := t }) := by
  have hi := (List.getElem?_eq_some_iff.1 h).1
  rw [(binsC_set x h).2.2, (binsC_set (b := { b with p := x }) t (by simp [hi])).2.1, List.set_set]

set_option maxHeartbeats 8000000 in
theorem blueTouch1_w (B D E F i N nl nb : Nat) (now target hold up down : Int) (l : List Bn) (b : Bn) (w : World) (h : Obj1 w D (binsC l) 82) (hb : l[i]? = some b) (hE : w.cell? ⟨E, 0, none⟩ = some (.int .i64 now)) (hF : w.cell? ⟨F, 0, none⟩ = some (.pointer (some ⟨B, 0, none⟩)))
    (hBl : Obj1 w B (blueC D N nl nb target hold up down) 77) (ho : okBn b) (hne : B ≠ D) (hi : -9223372036854775808 ≤ now ∧ now ≤ 9223372036854775807) (hh : 0 ≤ hold ∧ hold ≤ 4611686018427387903) (ht : 0 ≤ target ∧ target ≤ 1073741824) (hu : 0 ≤ up ∧ up ≤ 65536) (hd : 0 ≤ down ∧ down ≤ 65536) :
    Calls Try.prog 45 #[.pointer (some ⟨D, i * 3, none⟩), .pointer (some ⟨E, 0, none⟩), .pointer (some ⟨F, 0, none⟩)] w fun e w' => e = .returned (.tuple #[]) ∧ Obj1 w' D (binsC (l.modify i (touchF now target hold up down))) 82 ∧ Upd D w w' := by
  have c0 : w.cell? ⟨D, i * 3, none⟩ = some (.int .i64 b.n) := (h.cell _).trans (binsC_at hb).1
  have c1 : w.cell? ⟨D, i * 3 + 1, none⟩ = some (.int .i64 b.c) := (h.cell _).trans (binsC_at hb).2.1
  have c2 : w.cell? ⟨D, i * 3 + 2, none⟩ = some (.int .i64 b.p) := (h.cell _).trans (binsC_at hb).2.2
  have d3 : w.cell? ⟨B, 3, none⟩ = some (.int .i64 target) := hBl.cell 3
  have d4 : w.cell? ⟨B, 4, none⟩ = some (.int .i64 hold) := hBl.cell 4
  have d5 : w.cell? ⟨B, 5, none⟩ = some (.int .i64 up) := hBl.cell 5
  have d6 : w.cell? ⟨B, 6, none⟩ = some (.int .i64 down) := hBl.cell 6
  have f1 : w.frozen? ⟨D, i * 3 + 1, none⟩ = false := h.free _
  have f2 : w.frozen? ⟨D, i * 3 + 2, none⟩ = false := h.free _
  have HH := Lib.hid h
  have HB := Lib.hid hb
  obtain ⟨⟨ho1, ho2⟩, ⟨ho3, ho4⟩, ho5, ho6⟩ := ho
  have hT := blueNow_range now
  obtain ⟨T, hTd⟩ : ∃ T, T = blueNow now := ⟨_, rfl⟩
  rw [← hTd] at hT
  have hnowc : (now ≤ 0 ∧ T = 0) ∨ ((0 < now ∧ 4611686018427387903 < now) ∧ T = 4611686018427387903) ∨ ((0 < now ∧ now ≤ 4611686018427387903) ∧ T = now) := by
    rw [hTd]; unfold blueNow; repeat' split
    all_goals omega
  have htf : touchF now target hold up down b = if T - b.c < hold then b else if target < b.n then { b with p := (if b.p + up ≤ 65536 then b.p + up else 65536), c := T } else if b.n = 0 then { b with p := (if 0 ≤ b.p - down then b.p - down else 0), c := T } else b := by
    unfold touchF; rw [← hTd]
  clear h hb hBl hTd
  have hw1 : IntKind.i64.wrap (b.p + up) = b.p + up := IntWalk.i64_in _ (by omega)
  have hw2 : IntKind.i64.wrap (b.p - down) = b.p - down := IntWalk.i64_in _ (by omega)
  by_cases q1 : T - b.c < hold
  · rw [if_pos q1] at htf
    have HTF := Lib.hid htf
    clear htf
    rcases hnowc with ⟨hx, rfl⟩ | ⟨⟨hx, hx2⟩, rfl⟩ | ⟨⟨hx, hx2⟩, hx3⟩
    all_goals try subst hx3
    all_goals
      go_enter Try.func45, Try.ntmps45
      go_wp2_with fail
      go_quiet (fail)
      go_wp2_with fail
      go_wp2
      exact bodyPost_ret (v := .tuple #[]) (by simp [results, Try.results45, go_sem]) rfl ⟨rfl, by rw [modify_same HB.out HTF.out]; exact HH.out.drewN _, (Upd.refl D w).drewN _⟩
  · rw [if_neg q1] at htf
    by_cases q2 : target < b.n
    · rw [if_pos q2] at htf
      by_cases q3 : b.p + up ≤ 65536
      · rw [if_pos q3] at htf
        have HTF := Lib.hid htf
        clear htf
        rcases hnowc with ⟨hx, rfl⟩ | ⟨⟨hx, hx2⟩, rfl⟩ | ⟨⟨hx, hx2⟩, hx3⟩
        all_goals try subst hx3
        all_goals
          go_enter Try.func45, Try.ntmps45
          go_wp2_with fail
          go_quiet (fail)
          go_wp2_with fail
          go_quiet (fail)
          go_wp2_with fail
          refine wp_region_still_tail 13 (by kernel_rfl) (by kernel_rfl) ?_
          change wpStill _ _ (World.drew _) (fun a' => wpList _ _ _ _ a' (World.drew _)) _ _
          simp only [List.take_succ_cons, List.take_zero, List.drop_succ_cons, List.drop_zero]
          repeat still_step
          refine wpStill_nil ?_
          go_wp2
          go_end0
          refine ⟨rfl, ?_, ?_⟩
          · rw [modify_at _ HB.out, HTF.out, ← binsC_set2 _ _ HB.out]
            exact ((HH.out.drewN _).set _ _).set _ _
          · exact (((Upd.refl D w).drewN _).set _ _).set _ _
      · rw [if_neg q3] at htf
        have HTF := Lib.hid htf
        clear htf
        rcases hnowc with ⟨hx, rfl⟩ | ⟨⟨hx, hx2⟩, rfl⟩ | ⟨⟨hx, hx2⟩, hx3⟩
        all_goals try subst hx3
        all_goals
          go_enter Try.func45, Try.ntmps45
          go_wp2_with fail
          go_quiet (fail)
          go_wp2_with fail
          go_quiet (fail)
          go_wp2_with fail
          refine wp_region_still_tail 13 (by kernel_rfl) (by kernel_rfl) ?_
          change wpStill _ _ (World.drew _) (fun a' => wpList _ _ _ _ a' (World.drew _)) _ _
          simp only [List.take_succ_cons, List.take_zero, List.drop_succ_cons, List.drop_zero]
          repeat still_step
          refine wpStill_nil ?_
          go_wp2
          go_end0
          refine ⟨rfl, ?_, ?_⟩
          · rw [modify_at _ HB.out, HTF.out, ← binsC_set2 _ _ HB.out]
            exact ((HH.out.drewN _).set _ _).set _ _
          · exact (((Upd.refl D w).drewN _).set _ _).set _ _
    · rw [if_neg q2] at htf
      by_cases q4 : b.n = 0
      · rw [if_pos q4] at htf
        by_cases q3 : 0 ≤ b.p - down
        · rw [if_pos q3] at htf
          have HTF := Lib.hid htf
          clear htf
          rcases hnowc with ⟨hx, rfl⟩ | ⟨⟨hx, hx2⟩, rfl⟩ | ⟨⟨hx, hx2⟩, hx3⟩
          all_goals try subst hx3
          all_goals
            go_enter Try.func45, Try.ntmps45
            go_wp2_with fail
            go_quiet (fail)
            go_wp2_with fail
            go_quiet (fail)
            go_wp2_with fail
            refine wp_region_still_tail 13 (by kernel_rfl) (by kernel_rfl) ?_
            change wpStill _ _ (World.drew _) (fun a' => wpList _ _ _ _ a' (World.drew _)) _ _
            simp only [List.take_succ_cons, List.take_zero, List.drop_succ_cons, List.drop_zero]
            repeat still_step
            refine wpStill_nil ?_
            go_wp2
            go_end0
            refine ⟨rfl, ?_, ?_⟩
            · rw [modify_at _ HB.out, HTF.out, ← binsC_set2 _ _ HB.out]
              exact ((HH.out.drewN _).set _ _).set _ _
            · exact (((Upd.refl D w).drewN _).set _ _).set _ _
        · rw [if_neg q3] at htf
          have HTF := Lib.hid htf
          clear htf
          rcases hnowc with ⟨hx, rfl⟩ | ⟨⟨hx, hx2⟩, rfl⟩ | ⟨⟨hx, hx2⟩, hx3⟩
          all_goals try subst hx3
          all_goals
            go_enter Try.func45, Try.ntmps45
            go_wp2_with fail
            go_quiet (fail)
            go_wp2_with fail
            go_quiet (fail)
            go_wp2_with fail
            refine wp_region_still_tail 13 (by kernel_rfl) (by kernel_rfl) ?_
            change wpStill _ _ (World.drew _) (fun a' => wpList _ _ _ _ a' (World.drew _)) _ _
            simp only [List.take_succ_cons, List.take_zero, List.drop_succ_cons, List.drop_zero]
            repeat still_step
            refine wpStill_nil ?_
            go_wp2
            go_end0
            refine ⟨rfl, ?_, ?_⟩
            · rw [modify_at _ HB.out, HTF.out, ← binsC_set2 _ _ HB.out]
              exact ((HH.out.drewN _).set _ _).set _ _
            · exact (((Upd.refl D w).drewN _).set _ _).set _ _
      · rw [if_neg q4] at htf
        have HTF := Lib.hid htf
        clear htf
        rcases hnowc with ⟨hx, rfl⟩ | ⟨⟨hx, hx2⟩, rfl⟩ | ⟨⟨hx, hx2⟩, hx3⟩
        all_goals try subst hx3
        all_goals
          go_enter Try.func45, Try.ntmps45
          go_wp2_with fail
          go_quiet (fail)
          go_wp2_with fail
          go_quiet (fail)
          go_wp2_with fail
          go_wp2
          exact bodyPost_ret (v := .tuple #[]) (by simp [results, Try.results45, go_sem]) rfl ⟨rfl, by rw [modify_same HB.out HTF.out]; exact HH.out.drewN _, (Upd.refl D w).drewN _⟩
end Go.Proofs.Ytcgabjjdffcjbaa
