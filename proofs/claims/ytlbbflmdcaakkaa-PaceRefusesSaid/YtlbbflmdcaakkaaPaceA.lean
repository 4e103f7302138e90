/- The walks of package pace. -/
import Derived.Test.YtlbbflmdcaakkaaNumA
namespace Go.Proofs.Ytlbbflmdcaakkaa
open Go.RowKit
set_option linter.unusedVariables false
set_option linter.unusedSimpArgs false

/-- A pacer's cells. -/
def pcr (ns next : Int) : Array Value := #[.int .i64 ns, .int .i64 next]
/-- Is the wire free? -/
def paceFree (next now : Int) : Bool := decide (next ≤ now) && decide (0 ≤ now) && decide (now ≤ 4611686018427387903)

theorem PaceNil_Free_w (now : Int) (w : World) : Calls Try.prog 25 #[.pointer none, .int .i64 now] w fun e w' => e = .returned (.bool false) ∧ w = w' := by
  go_enter Try.func25, Try.ntmps25
  go_wp2
  go_ret
  exact ⟨rfl, rfl⟩

theorem PaceNil_Next_w (w : World) : Calls Try.prog 26 #[.pointer none] w fun e w' => e = .returned (.int .i64 0) ∧ w = w' := by
  go_enter Try.func26, Try.ntmps26
  go_wp2
  go_ret
  exact ⟨rfl, rfl⟩

theorem PaceNil_Send_w (now n : Int) (w : World) : Calls Try.prog 27 #[.pointer none, .int .i64 now, .int .i64 n] w fun e w' => e = .returned (.tuple #[.int .i64 0, .int .i64 0, .int .i64 1]) ∧ w = w' := by
  go_enter Try.func27, Try.ntmps27
  go_wp2
  go_ret3
  exact ⟨rfl, rfl⟩

set_option maxHeartbeats 400000 in
theorem PaceFree_w (B : Nat) (ns next now : Int) (w : World) (h : Obj1 w B (pcr ns next) 51) :
    Calls Try.prog 25 #[.pointer (some ⟨B, 0, none⟩), .int .i64 now] w fun e w' => e = .returned (.bool (paceFree next now)) ∧ w = w' := by
  have c1 : w.cell? ⟨B, 1, none⟩ = some (.int .i64 next) := h.cell 1
  clear h
  go_enter Try.func25, Try.ntmps25
  go_wp2
  all_goals
    go_ret
    refine ⟨ret_bool ?_, rfl⟩
    unfold paceFree
    simp
    try omega

set_option maxHeartbeats 400000 in
theorem PaceNext_w (B : Nat) (ns next : Int) (w : World) (h : Obj1 w B (pcr ns next) 51) :
    Calls Try.prog 26 #[.pointer (some ⟨B, 0, none⟩)] w fun e w' => e = .returned (.int .i64 next) ∧ w = w' := by
  have c1 : w.cell? ⟨B, 1, none⟩ = some (.int .i64 next) := h.cell 1
  clear h
  go_enter Try.func26, Try.ntmps26
  go_wp2
  go_ret
  exact ⟨rfl, rfl⟩

/-- What Send answers, and from when on the wire is free then. -/
def paceSend (ns next now n : Int) : Int × Int × Int × Int :=
  if n < 1 ∨ 9216 < n then (0, 0, 1, next) else if now < 0 ∨ 4611686018427387903 < now then (0, 0, 3, next) else if now < next then (0, 0, 4, next)
  else (now, plus (cnt now) (mulC n ns), 0, plus (cnt now) (mulC n ns))
def paceRet (r : Int × Int × Int × Int) : Value := .tuple #[.int .i64 r.1, .int .i64 r.2.1, .int .i64 r.2.2.1]
/-- What Send leaves. -/
def PaceSent (ns : Int) (B : Nat) (w : World) (r : Int × Int × Int × Int) (e : Ending) (w' : World) : Prop :=
  e = .returned (paceRet r) ∧ Obj1 w' B (pcr ns r.2.2.2) 51 ∧ Upd B w w' ∧ (r.2.2.1 = 0 ∨ w = w')

set_option maxHeartbeats 1000000 in
theorem PaceSend_w (B : Nat) (ns next now n : Int) (w : World) (h : Obj1 w B (pcr ns next) 51) :
    Calls Try.prog 27 #[.pointer (some ⟨B, 0, none⟩), .int .i64 now, .int .i64 n] w (PaceSent ns B w (paceSend ns next now n)) := by
  have c0 : w.cell? ⟨B, 0, none⟩ = some (.int .i64 ns) := h.cell 0
  have c1 : w.cell? ⟨B, 1, none⟩ = some (.int .i64 next) := h.cell 1
  have f1 : w.frozen? ⟨B, 1, none⟩ = false := h.free 1
  have hB := h.lt
  have H := Lib.hid h
  clear h
  by_cases h1 : n < 1 ∨ 9216 < n
  · have hs : paceSend ns next now n = (0, 0, 1, next) := by unfold paceSend; rw [if_pos h1]
    rw [hs]
    clear hs
    rcases h1 with h1 | h1
    all_goals
      go_enter Try.func27, Try.ntmps27
      go_wp2
      all_goals
        go_ret3
        exact ⟨rfl, H.out, Upd.refl _ _, .inr rfl⟩
  · obtain ⟨h1a, h1b⟩ : 1 ≤ n ∧ n ≤ 9216 := by omega
    by_cases h2 : now < 0 ∨ 4611686018427387903 < now
    · have hs : paceSend ns next now n = (0, 0, 3, next) := by unfold paceSend; rw [if_neg h1, if_pos h2]
      rw [hs]
      clear hs h1
      rcases h2 with h2 | h2
      all_goals
        go_enter Try.func27, Try.ntmps27
        go_wp2
        all_goals
          go_ret3
          exact ⟨rfl, H.out, Upd.refl _ _, .inr rfl⟩
    · obtain ⟨h2a, h2b⟩ : 0 ≤ now ∧ now ≤ 4611686018427387903 := by omega
      by_cases h3 : now < next
      · have hs : paceSend ns next now n = (0, 0, 4, next) := by unfold paceSend; rw [if_neg h1, if_neg h2, if_pos h3]
        have hf : paceFree next now = false := by unfold paceFree; simp; omega
        rw [hs]
        clear hs h1 h2
        go_enter Try.func27, Try.ntmps27
        go_wp2_with fail
        refine (PaceFree_w _ _ _ _ _ H.out).mono ?_
        rintro e w' ⟨rfl, rfl⟩
        go_wp2
        all_goals
          go_ret3
          exact ⟨rfl, H.out, Upd.refl _ _, .inr rfl⟩
      · have hs : paceSend ns next now n = (now, plus (cnt now) (mulC n ns), 0, plus (cnt now) (mulC n ns)) := by unfold paceSend; rw [if_neg h1, if_neg h2, if_neg h3]
        have hf : paceFree next now = true := by unfold paceFree; simp; omega
        rw [hs]
        clear hs h1 h2
        go_enter Try.func27, Try.ntmps27
        go_wp2_with fail
        refine (PaceFree_w _ _ _ _ _ H.out).mono ?_
        rintro e w' ⟨rfl, rfl⟩
        go_wp2_with fail
        refine (Mul_w _ _ _).mono ?_
        rintro e w' ⟨rfl, rfl⟩
        go_wp2_with fail
        refine (Add2_w now (mulC n ns) _ _ (new_at (by simp) rfl) (new_at (by simp) rfl)).mono ?_
        rintro e w' ⟨rfl, rfl⟩
        go_wp2_with fail
        go_quiet (fail)
        go_wp2
        go_ret3
        exact ⟨rfl, ((H.out.set 1 _).alloc _).drewN _, (((Upd.refl _ _).set 1 _).alloc _).drewN _, .inl rfl⟩

set_option maxHeartbeats 400000 in
theorem PaceNew_no_w (ns : Int) (w : World) (h : ns < 1 ∨ 1000000 < ns) :
    Calls Try.prog 24 #[.int .i64 ns] w fun e w' => e = .returned (.tuple #[.pointer none, .int .i64 1]) ∧ w = w' := by
  rcases h with h | h
  all_goals
    go_enter Try.func24, Try.ntmps24
    go_wp2
    all_goals
      go_ret2
      exact ⟨rfl, rfl⟩

set_option maxHeartbeats 400000 in
theorem PaceNew_w (ns : Int) (w : World) (h0 : 1 ≤ ns) (h1 : ns ≤ 1000000) :
    Calls Try.prog 24 #[.int .i64 ns] w fun e w' => e = .returned (.tuple #[.pointer (some ⟨w.heap.size, 0, none⟩), .int .i64 0]) ∧ w.alloc (.cells (pcr ns 0) 51) = w' := by
  unfold pcr
  go_enter Try.func24, Try.ntmps24
  go_wp2
  go_ret2
  exact ⟨rfl, rfl⟩

/-- The same, by what is answered. -/
theorem PaceSend_e (B : Nat) (ns next now n s f e' nx : Int) (w : World) (h : Obj1 w B (pcr ns next) 51) (hs : paceSend ns next now n = (s, f, e', nx)) :
    Calls Try.prog 27 #[.pointer (some ⟨B, 0, none⟩), .int .i64 now, .int .i64 n] w fun e w' => e = .returned (.tuple #[.int .i64 s, .int .i64 f, .int .i64 e']) ∧ Obj1 w' B (pcr ns nx) 51 ∧ Upd B w w' := by
  refine (PaceSend_w B ns next now n w h).mono ?_
  rw [hs]
  rintro e w' ⟨he, ho, hu, _⟩
  exact ⟨he, ho, hu⟩

/-- What is refused changes nothing at all. -/
theorem PaceSend_no (B : Nat) (ns next now n e' : Int) (w : World) (h : Obj1 w B (pcr ns next) 51) (hs : paceSend ns next now n = (0, 0, e', next)) (he : e' ≠ 0) :
    Calls Try.prog 27 #[.pointer (some ⟨B, 0, none⟩), .int .i64 now, .int .i64 n] w fun e w' => e = .returned (.tuple #[.int .i64 0, .int .i64 0, .int .i64 e']) ∧ w = w' := by
  refine (PaceSend_w B ns next now n w h).mono ?_
  rw [hs]
  rintro e w' ⟨h1, _, _, h2⟩
  rcases h2 with h2 | h2
  · exact absurd h2 he
  · exact ⟨h1, h2⟩
theorem pace_refused (ns next now n : Int) (h : ¬ (next ≤ now ∧ now ≤ 4611686018427387903 ∧ 1 ≤ n ∧ n ≤ 9216)) : ∃ e, (e == 0) = false ∧ paceSend ns next now n = (0, 0, e, next) := by
  by_cases h1 : n < 1 ∨ 9216 < n
  · exact ⟨1, rfl, by unfold paceSend; rw [if_pos h1]⟩
  · by_cases h2 : now < 0 ∨ 4611686018427387903 < now
    · exact ⟨3, rfl, by unfold paceSend; rw [if_neg h1, if_pos h2]⟩
    · exact ⟨4, rfl, by unfold paceSend; rw [if_neg h1, if_neg h2, if_pos (by omega)]⟩

set_option maxHeartbeats 1000000 in
theorem awake16_w (w : World) : Calls Try.prog 23 #[] w fun e w' => e = .returned (.bool true) ∧ Below w.heap.size w w' := by
  go_enter Try.func23, Try.ntmps23
  go_wp2_with fail
  refine (PaceNew_w 8 _ (by omega) (by omega)).mono ?_
  rintro e w' ⟨rfl, rfl⟩
  go_wp2_with fail
  refine (PaceSend_e _ 8 0 100 64 100 612 0 612 _ (Obj1.new _ _ _) (by decide)).mono ?_
  rintro e w' ⟨rfl, ho, hu⟩
  have HO := Lib.hid ho
  have HU := Lib.hid hu
  clear ho hu
  go_wp2_with fail
  refine (PaceNext_w _ _ _ _ HO.out).mono ?_
  rintro e w' ⟨rfl, rfl⟩
  go_wp2
  go_ret
  exact ⟨rfl, bl_upd (bl_alloc (Below.refl _ _) _) HU.out (Nat.le_refl _)⟩

end Go.Proofs.Ytlbbflmdcaakkaa
