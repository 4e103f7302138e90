/- Blue's Clear. -/
import Derived.Test.YtcgabjjdffcjbaaRbL
import Derived.Lib.SliceRun
namespace Go.Proofs.Ytcgabjjdffcjbaa
open Go.RowKit
set_option linter.unusedVariables false
set_option linter.unusedSimpArgs false

theorem run_clearB (w : World) (D N : Nat) (l : List Bn) (hl : l.length = N) (hN : 0 < N) (h : Obj1 w D (binsC l) 82) (ty : TypeId) :
    (Builtin.clear_ #[75] ty #[.slice (some ⟨D, 0, none⟩) N N]).run Try.prog w = .ok (.tuple #[]) (w.setCells D 0 (binsL (List.replicate N ⟨0, 0, 0⟩))) := by
  have hlen : (binsL (List.replicate N (⟨0, 0, 0⟩ : Bn))).length = N * 3 := by rw [binsL_length, List.length_replicate]
  have hzc : (Builtin.zeroCells #[.int .i64 0, .int .i64 0, .int .i64 0] N).toList = binsL (List.replicate N ⟨0, 0, 0⟩) := by
    have := congrArg Array.toList (zeros_cells N)
    simpa [Builtin.zeroCells, madeCells, binsC] using this
  have hst := run_storeCells_cells (P := Try.prog) D 0 (binsL (List.replicate N (⟨0, 0, 0⟩ : Bn))) 0 w (by
    intro j hj
    rw [hlen] at hj
    rw [Nat.zero_add, h.cell]
    simp [binsC, binsL_length, hl, hj]) (by intro j hj; exact h.free _) (by
    intro v hv
    rw [binsL_fl] at hv
    exact bnC_one _ v hv)
  simp only [Nat.add_zero] at hst
  obtain ⟨m, rfl⟩ : ∃ m, N = m + 1 := ⟨N - 1, by omega⟩
  have hv : ∀ w, (zeroValue 82).run Try.prog w = .ok (.agg #[.int .i64 0, .int .i64 0, .int .i64 0]) w := fun w => rfl
  simp [Builtin.clear_, run_underlying (show Try.prog.underlying 75 = some (.slice 82) from Try.underlying75), hv, Value.cells, hzc, hst]

theorem list_clearB {ops : Array Oper} {rest : List Oper} {o : Oper} {a : Act} {Q : Exit → Act → World → Prop} {W : World} (hgd : o.guard = none) (x : Operand) (ho : o.op = .call { callee := .builtin .clear, args := #[x], argTypes := #[75] }) (D N : Nat) (l : List Bn) (hx : a.eval x = .slice (some ⟨D, 0, none⟩) N N) (hl : l.length = N) (hN : 0 < N) (h : Obj1 W D (binsC l) 82)
    (hK : wpList Try.prog ops Q rest (a.put o.dst (.tuple #[])) (W.setCells D 0 (binsL (List.replicate N ⟨0, 0, 0⟩)))) : wpList Try.prog ops Q (o :: rest) a W := by
  refine wpList_plain hgd fun K hKK => ?_
  unfold Oper.wp execOp
  simp only [ho, resolve, invoke, builtin, Sem.run_bind, Sem.run_pure, Result.andThen_ok, List.map_toArray, List.map_cons, List.map_nil, hx, run_clearB W D N l hl hN h]
  exact hKK _ _ hK

set_option maxHeartbeats 1000000 in
theorem blueClear_w (B D N nl nb : Nat) (target hold up down : Int) (l : List Bn) (w : World) (hBl : Obj1 w B (blueC D N nl nb target hold up down) 77) (hD : Obj1 w D (binsC l) 82) (hl : l.length = N) (hN : 0 < N) :
    Calls Try.prog 31 #[.pointer (some ⟨B, 0, none⟩)] w fun e w' => e = .returned (.tuple #[]) ∧ Obj1 w' D (binsC (List.replicate N ⟨0, 0, 0⟩)) 82 ∧ Upd D w w' := by
  have c0 : w.cell? ⟨B, 0, none⟩ = some (.slice (some ⟨D, 0, none⟩) N N) := hBl.cell 0
  have HD := Lib.hid hD
  have hq := setCells_obj D 82 (binsL (List.replicate N (⟨0, 0, 0⟩ : Bn))) 0 (binsC l) w hD (by simp [binsC, binsL_length, hl])
  have HQ := Lib.hid hq
  clear hBl hD hq
  go_enter Try.func31, Try.ntmps31
  go_wp2_with (refine list_clearB rfl (.tmp 7) rfl D N l rfl hl hN HD.out ?_)
  go_end0
  exact ⟨rfl, by simpa [binsC] using HQ.out.1, HQ.out.2⟩
end Go.Proofs.Ytcgabjjdffcjbaa
