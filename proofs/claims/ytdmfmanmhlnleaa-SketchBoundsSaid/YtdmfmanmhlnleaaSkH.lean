/- The prefixes of slots. -/
import Derived.Test.YtdmfmanmhlnleaaSkQ
namespace Go.Proofs.Ytdmfmanmhlnleaa
open Go.RowKit
set_option linter.unusedVariables false
set_option linter.unusedSimpArgs false

def allC (l : List Px) : List Value := (l.map pxC).flatten
theorem allC_cons (p : Px) (l : List Px) : allC (p :: l) = pxC p ++ allC l := rfl
theorem allC_append (l m : List Px) : allC (l ++ m) = allC l ++ allC m := by simp [allC]
theorem allC_one (l : List Px) : ∀ v ∈ allC l, v.oneCell' = true := by
  intro v hv
  simp only [allC, List.mem_flatten, List.mem_map] at hv
  obtain ⟨_, ⟨s, _, rfl⟩, hv⟩ := hv
  exact pxC_one s v hv
theorem allC_length : ∀ {l : List Px}, (∀ p ∈ l, okPx p) → (allC l).length = l.length * 8
  | [], _ => rfl
  | s :: l, h => by
    rw [allC_cons, List.length_append, pxC_length (h s (by simp)), allC_length (l := l) (fun x hx => h x (by simp [hx]))]
    simp
    omega
theorem allC_at : ∀ {l : List Px}, (∀ p ∈ l, okPx p) → ∀ {k : Nat} {p : Px}, l[k]? = some p → ∀ {q : Nat}, q < 8 → (allC l)[k * 8 + q]? = (pxC p)[q]?
  | x :: l, h, 0, s, hk, q, hq => by
    simp at hk
    subst hk
    rw [allC_cons, Nat.zero_mul, Nat.zero_add, List.getElem?_append_left (by rw [pxC_length (h x (by simp))]; exact hq)]
  | x :: l, h, k + 1, s, hk, q, hq => by
    rw [List.getElem?_cons_succ] at hk
    rw [allC_cons, List.getElem?_append_right (by rw [pxC_length (h x (by simp))]; omega), pxC_length (h x (by simp)), show (k + 1) * 8 + q - 8 = k * 8 + q by omega]
    exact allC_at (fun x hx => h x (by simp [hx])) hk hq
theorem px_cells {w : World} {g n cap : Nat} {l : List Px} {t : TypeId} (h : RoomO w g n cap 8 (allC l) t) (hl : ∀ p ∈ l, okPx p) {k : Nat} {p : Px} (hk : l[k]? = some p) : CellsAt w g (k * 8) (pxC p) := by
  intro q v hv
  rw [add_flat]
  have hq : q < 8 := by
    have := (List.getElem?_eq_some_iff.1 hv).1
    rw [pxC_length (hl p (List.mem_of_getElem? hk))] at this
    exact this
  exact h.cell ((allC_at hl hk hq).trans hv)
theorem run_px1 (w : World) {p : Px} (h : okPx p) : (Instr.buildSlice 42 1 #[(0, .agg (pxC p).toArray)]).run Try.prog w = .ok (.slice (some ⟨w.heap.size, 0, none⟩) 1 1) (w.alloc (.cells (pxC p).toArray 30)) := by
  have hinfo : (Try.prog.info? 30).map (fun i => (i.zero, i.size, i.bytes)) = some (some (.agg #[.bool false, .int .u8 0, .int .u8 0, .int .u8 0, .int .u8 0, .int .u8 0, .int .u8 0, .int .u8 0]), 8, 8) := by kernel_rfl
  obtain ⟨i0, hi, hzz⟩ := Option.map_eq_some_iff.1 hinfo
  simp only [Prod.mk.injEq] at hzz
  obtain ⟨hz0, hz1, hz2⟩ := hzz
  refine run_buildSlice w 42 30 1 _ _ i0 _ Try.underlying42 hi hz0 (by rw [hz1]; omega) (by rw [hz1]; omega) ?_
  rw [hz1]
  obtain ⟨v, l⟩ := p
  obtain ⟨a, b, c, d, e, f, g, rfl⟩ := list7 h.1
  kernel_rfl
theorem wp_px1 {o : Oper} {a : Act} {Q : Exit → Act → World → Prop} {W : World} {K : Act → World → Prop} {p : Px} (h : okPx p) (x : Operand) (ho : o.op = .buildSlice 42 1 #[(0, x)]) (hx : a.eval x = .agg (pxC p).toArray)
    (hK : K (a.put o.dst (.slice (some ⟨W.heap.size, 0, none⟩) 1 1)) (W.alloc (.cells (pxC p).toArray 30))) : o.wp Try.prog a W K Q := by
  unfold Oper.wp execOp
  simp only [ho, hx, List.map_toArray, List.map_cons, List.map_nil, Sem.run_bind, run_px1 W h, Result.andThen_ok, Sem.run_pure]
  simpa [Oper.upon] using hK
theorem list_px1 {ops : Array Oper} {rest : List Oper} {o : Oper} {a : Act} {Q : Exit → Act → World → Prop} {W : World} (hgd : o.guard = none) {p : Px} (h : okPx p) (x : Operand) (ho : o.op = .buildSlice 42 1 #[(0, x)]) (hx : a.eval x = .agg (pxC p).toArray)
    (hK : wpList Try.prog ops Q rest (a.put o.dst (.slice (some ⟨W.heap.size, 0, none⟩) 1 1)) (W.alloc (.cells (pxC p).toArray 30))) : wpList Try.prog ops Q (o :: rest) a W :=
  wpList_plain hgd fun K hKK => wp_px1 h x ho hx (hKK _ _ hK)
theorem px_rd (w : World) (p : Px) : Rd (w.alloc (.cells (pxC p).toArray 30)) (some ⟨w.heap.size, 0, none⟩) (pxC p) := fun j v hj => ⟨_, rfl, obj_cells (Obj1.new w (pxC p).toArray 30) (fun j v h => h) j v hj⟩
theorem pxs_step {l : List Slo} {k : Nat} {x : Slo} (h : l[k]? = some x) : pxs (l.take (k + 1)) = pxs (l.take k) ++ [x.p] := by
  rw [take_snoc h]
  simp [pxs]

set_option maxHeartbeats 1000000 in
theorem prefixes_w (A : Option Addr) (n c : Nat) (l : List Slo) (w : World) (hl : ∀ x ∈ l, okPx x.p) (hn : l.length = n) (h64 : n ≤ 64) (hrd : ∀ k x, l[k]? = some x → ∃ g, A = some ⟨g, 0, none⟩ ∧ CellsAt w g (k * 10) (sloC x)) :
    Calls Try.prog 18 #[.slice A n c] w fun e w' => ∃ v, e = .returned v ∧ w'.ownsRow w.heap.size 30 8 v n (allC (pxs l)) ∧ Below w.heap.size w w' := by
  have HRD := Lib.hid hrd
  have HL := Lib.hid hl
  have HN := Lib.hid hn
  clear hrd hl hn
  go_enter Try.func18, Try.ntmps18
  go_wp2_with fail
  go_loopw [3, 7] (fun v i wr => ∃ k : Nat, k ≤ n ∧ i = .int .i64 k ∧ wr.ownsRow w.heap.size 30 8 v k (allC (pxs (l.take k))) ∧ Below w.heap.size w wr) (fun _ i _ => n - (intOf i).toNat)
  case atStart => exact ⟨0, Nat.zero_le _, rfl, World.ownsRow_nil _ _ _ _, Below.refl _ _⟩
  case round =>
    obtain ⟨k, hk, rfl, hown, hbel⟩ := hrel
    have HO := Lib.hid hown
    have HB := Lib.hid hbel
    clear hown hbel
    by_cases hlt : k < n
    · have hk0 : (0 : Int) ≤ (k : Int) := Int.natCast_nonneg k
      have hk1 : (k : Int) < (n : Int) := by omega
      obtain ⟨x, hx⟩ : ∃ x, l[k]? = some x := ⟨_, List.getElem?_eq_getElem (by have := HN.out; omega)⟩
      obtain ⟨g, rfl, hc⟩ := HRD.out k x hx
      have hxp : okPx x.p := HL.out x (List.mem_of_getElem? hx)
      have HC := Lib.hid (show CellsAt wr g (k * 10) (pxC x.p) from fun q v hq => bl_keeps HB.out (hc q v (slo_px hq)))
      have HPS := Lib.hid (px_size hxp)
      have HST := Lib.hid (pxs_step hx)
      have hpl := pxC_length hxp
      clear hx hc
      go_wp2_with (first
        | (refine load_cells rfl 30 (.tmp 14) rfl ⟨g, k * 10, none⟩ (pxC x.p) _ rfl HC.out Try.underlying30 rfl HPS.out ?_)
        | (refine list_px1 rfl hxp (.tmp 15) rfl rfl ?_)
        | (at_builtin; refine app_list w.heap.size rfl (.tmp 10) (.tmp 16) 42 30 (.agg #[.bool false, .int .u8 0, .int .u8 0, .int .u8 0, .int .u8 0, .int .u8 0, .int .u8 0, .int .u8 0]) 8 8 rfl Try.underlying42 (by kernel_rfl) (by simp [Value.cells]) (by omega) (by omega) _ k _ (some ⟨wr.heap.size, 0, none⟩) 1 1 (pxC x.p) rfl rfl (HO.out.alloc _) (by omega) (px_rd _ _) (pxC_one _) (by omega) (by have := HB.out.size; simp; omega) ?_; intro v1 w6 hown6 hg6; have HO6 := Lib.hid hown6; have HG6 := Lib.hid hg6; clear hown6 hg6))
      go_roundw
      case rel => exact ⟨k + 1, by omega, by go_num, by rw [HST.out, allC_append, allC_cons, show allC [] = [] from rfl, List.append_nil]; exact HO6.out, bl_grown (bl_alloc HB.out _) (HO.out.alloc _) HG6.out (Nat.le_refl _)⟩
      case measure => simp [intOf]; omega
    · have hk1 : ¬ (k : Int) < (n : Int) := by omega
      have hkn : k = n := by omega
      have HOF := Lib.hid (show wr.ownsRow w.heap.size 30 8 _ n (allC (pxs l)) by
        have := HO.out
        rw [hkn, List.take_of_length_le (by have := HN.out; omega)] at this
        exact this)
      clear hkn
      go_wp2
      go_ret
      exact ⟨_, rfl, HOF.out, HB.out⟩
end Go.Proofs.Ytdmfmanmhlnleaa
