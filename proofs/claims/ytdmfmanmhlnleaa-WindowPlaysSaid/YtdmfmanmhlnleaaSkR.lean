/- The document's sketch: rows of its slots, one is found, a slot is compared. -/
import Derived.Test.YtdmfmanmhlnleaaSkP
namespace Go.Proofs.Ytdmfmanmhlnleaa
open Go.RowKit
set_option linter.unusedVariables false
set_option linter.unusedSimpArgs false

theorem slo_sizeR {s : Slo} (hp : okPx s.p) : (Try.prog.info? 53).map (·.size) = some (sloC s).length := by rw [sloC_length hp]; rfl
theorem slo_sizeAR {s : Slo} (hp : okPx s.p) : (Try.prog.info? 53).map (·.size) = some (sloC s).toArray.size := by rw [show (sloC s).toArray.size = 10 by simp [sloC_length hp]]; rfl
theorem slo_keyR {s : Slo} (h : okSlo s) : Try.prog.keyLits 6 53 (sloC s) = some (sloL s) := by
  have w1 := wf_i64 h.2.1
  have w2 := wf_i64 h.2.2
  have hp := px_key h.1
  have hl := pxC_length h.1
  have k1 : ∀ x : Int, (Lit.int .i64 x).wf = true → Try.prog.keyLits 5 2 [.int .i64 x] = some [.int .i64 x] := by
    intro x hx
    unfold Program.keyLits
    rw [Try.underlying2]
    simp [hx]
  unfold Program.keyLits
  rw [Try.underlying53]
  have e1 : Try.prog.cellsOf 2 = 1 := by kernel_rfl
  have e2 : Try.prog.cellsOf 30 = 8 := by kernel_rfl
  have e3 : Try.prog.cellsOf 53 = 10 := by kernel_rfl
  have d1 : (sloC s).take 8 = pxC s.p := by unfold sloC; rw [List.take_left' hl]
  have d2 : (sloC s).drop 8 = [.int .i64 s.c, .int .i64 s.e] := by unfold sloC; rw [List.drop_left' hl]
  have d3 : (sloC s).drop 9 = [.int .i64 s.e] := by rw [show (9 : Nat) = 8 + 1 from rfl, ← List.drop_drop, d2]; rfl
  have d4 : (sloC s).length = 10 := sloC_length h.1
  simp [e1, e2, e3, d1, d2, d3, d4, hp, k1, w1, w2, sloL]
theorem eq_sloR (w : World) {x y : Slo} (hx : okSlo x) (hy : okSlo y) : (Op.equal 53 (.agg (sloC x).toArray) (.agg (sloC y).toArray)).run Try.prog w = .ok (decide (x = y)) w := by
  have hk : Try.prog.keyTypeAt 5 53 = true := by kernel_rfl
  have f1 : ∀ s : Slo, okSlo s → (Value.agg (sloC s).toArray).formed Try.prog 53 = true := by
    intro s hs
    obtain ⟨⟨v, l⟩, c, e⟩ := s
    obtain ⟨a, b, c, d, e, f, g, rfl⟩ := list7 hs.1.1
    kernel_rfl
  obtain ⟨r, hr, hiff⟩ := run_equalIn_deep (P := Try.prog) 9995 5 53 hk w 6 6 (.agg (sloC x).toArray) (.agg (sloC y).toArray) (sloL x) (sloL y) (f1 x hx) (f1 y hy) (by simpa [Value.cells] using slo_keyR hx) (by simpa [Value.cells] using slo_keyR hy)
  have : r = decide (x = y) := by
    rw [sloL_inj hx.1 hy.1] at hiff
    cases r <;> simp_all
  rw [← this]
  exact hr
theorem built_slotR {p : Px} (hp : okPx p) (c e : Int) : Try.prog.built 53 [(0, .agg (pxC p).toArray), (1, .int .i64 c), (2, .int .i64 e)] = some (sloC ⟨p, c, e⟩).toArray := by
  obtain ⟨v, l⟩ := p
  obtain ⟨a, b, c, d, e, f, g, rfl⟩ := list7 hp.1
  kernel_rfl
theorem built_slotR0 {p : Px} (hp : okPx p) : Try.prog.built 53 [(0, .agg (pxC p).toArray)] = some (sloC ⟨p, 0, 0⟩).toArray := by
  obtain ⟨v, l⟩ := p
  obtain ⟨a, b, c, d, e, f, g, rfl⟩ := list7 hp.1
  kernel_rfl
theorem run_slotR (w : World) {s : Slo} (h : okPx s.p) : (Instr.buildSlice 48 1 #[(0, .agg (sloC s).toArray)]).run Try.prog w = .ok (.slice (some ⟨w.heap.size, 0, none⟩) 1 1) (w.alloc (.cells (sloC s).toArray 53)) := by
  have hinfo : (Try.prog.info? 53).map (fun i => (i.zero, i.size, i.bytes)) = some (some (.agg #[.bool false, .int .u8 0, .int .u8 0, .int .u8 0, .int .u8 0, .int .u8 0, .int .u8 0, .int .u8 0, .int .i64 0, .int .i64 0]), 10, 24) := by kernel_rfl
  obtain ⟨i0, hi, hzz⟩ := Option.map_eq_some_iff.1 hinfo
  simp only [Prod.mk.injEq] at hzz
  obtain ⟨hz0, hz1, hz2⟩ := hzz
  refine run_buildSlice w 48 53 1 _ _ i0 _ Try.underlying48 hi hz0 (by rw [hz1]; omega) (by rw [hz1]; omega) ?_
  rw [hz1]
  obtain ⟨⟨v, l⟩, c, e⟩ := s
  obtain ⟨a, b, c, d, e, f, g, rfl⟩ := list7 h.1
  kernel_rfl
theorem wp_slotR {o : Oper} {a : Act} {Q : Exit → Act → World → Prop} {W : World} {K : Act → World → Prop} {s : Slo} (h : okPx s.p) (x : Operand) (ho : o.op = .buildSlice 48 1 #[(0, x)]) (hx : a.eval x = .agg (sloC s).toArray)
    (hK : K (a.put o.dst (.slice (some ⟨W.heap.size, 0, none⟩) 1 1)) (W.alloc (.cells (sloC s).toArray 53))) : o.wp Try.prog a W K Q := by
  unfold Oper.wp execOp
  simp only [ho, hx, List.map_toArray, List.map_cons, List.map_nil, Sem.run_bind, run_slotR W h, Result.andThen_ok, Sem.run_pure]
  simpa [Oper.upon] using hK


section
variable {ops : Array Oper} {rest : List Oper} {o : Oper} {a : Act} {Q : Exit → Act → World → Prop} {W : World}
theorem list_slotR {s : Slo} (hgd : o.guard = none) (h : okPx s.p) (x : Operand) (ho : o.op = .buildSlice 48 1 #[(0, x)]) (hx : a.eval x = .agg (sloC s).toArray)
    (hK : wpList Try.prog ops Q rest (a.put o.dst (.slice (some ⟨W.heap.size, 0, none⟩) 1 1)) (W.alloc (.cells (sloC s).toArray 53))) : wpList Try.prog ops Q (o :: rest) a W :=
  wpList_plain hgd fun K hKK => wp_slotR h x ho hx (hKK _ _ hK)
theorem list_buildR {p : Px} (hgd : o.guard = none) (h : okPx p) (x : Operand) (ho : o.op = .build 53 #[(0, x)]) (hx : a.eval x = .agg (pxC p).toArray)
    (hK : wpList Try.prog ops Q rest (a.put o.dst (.agg (sloC ⟨p, 0, 0⟩).toArray)) W) : wpList Try.prog ops Q (o :: rest) a W :=
  wpList_plain hgd fun K hKK => by
    unfold Oper.wp execOp
    have hbd := run_build (P := Try.prog) W 53 #[(0, .agg (pxC p).toArray)] _ (built_slotR0 h)
    simp only [ho, hx, List.map_toArray, List.map_cons, List.map_nil, Sem.run_bind, hbd, Result.andThen_ok, Sem.run_pure]
    simpa [Oper.upon] using hKK _ _ hK
end
theorem slo_rd (w : World) (s : Slo) (t : TypeId) : Rd (w.alloc (.cells (sloC s).toArray t)) (some ⟨w.heap.size, 0, none⟩) (sloC s) := fun j v hj => ⟨_, rfl, obj_cells (Obj1.new w (sloC s).toArray t) (fun j v h => h) j v hj⟩

/-- A row of slots that is only read. -/
def RefV (w : World) (B0 : Nat) (v : Value) (l : List Slo) : Prop :=
  ∃ A c, v = .slice A l.length c ∧ l.length ≤ c ∧ (l = [] ∨ ∃ g, B0 ≤ g ∧ A = some ⟨g, 0, none⟩) ∧ Rd w A (slosC l)
theorem RefV.nil (w : World) (B0 : Nat) : RefV w B0 (.slice none 0 0) [] := ⟨none, 0, rfl, Nat.le_refl _, .inl rfl, Rd.nil _ _⟩
theorem RefV.below {w w' : World} {B0 : Nat} {v : Value} {l : List Slo} (h : RefV w B0 v l) (hb : Below w.heap.size w w') : RefV w' B0 v l :=
  let ⟨A, c, h1, h2, h3, h4⟩ := h; ⟨A, c, h1, h2, h3, h4.below hb⟩
theorem RefV.of_own {w : World} {B : Nat} {v : Value} {n : Nat} {l : List Slo} {t : TypeId} (h : w.ownsRow B t 10 v n (slosC l)) (hl : ∀ x ∈ l, okPx x.p) : RefV w B v l := by
  obtain ⟨A, c, rfl, hnc, hn, _⟩ := own_read h hl
  obtain ⟨A2, c2, e, hrd⟩ := own_Rd h
  cases e
  refine ⟨A, c, by rw [hn], by rw [hn]; exact hnc, ?_, hrd⟩
  rcases own_room h with ⟨h0, _, _⟩ | ⟨g, cap, e, hg, _, _⟩
  · exact .inl (List.eq_nil_of_length_eq_zero (by rw [hn, h0]))
  · cases e
    exact .inr ⟨g, hg, rfl⟩
theorem RefV.slice {w : World} {B0 : Nat} {v : Value} {l : List Slo} (h : RefV w B0 v l) (hl : ∀ x ∈ l, okPx x.p) : ∃ A c, v = .slice A l.length c ∧ l.length ≤ c ∧ Rd w A (slosC l) ∧ ∀ k x, l[k]? = some x → ∃ g, B0 ≤ g ∧ A = some ⟨g, 0, none⟩ ∧ CellsAt w g (k * 10) (sloC x) := by
  obtain ⟨A, c, h1, h2, h3, h4⟩ := h
  refine ⟨A, c, h1, h2, h4, fun k x hk => ?_⟩
  rcases h3 with rfl | ⟨g, hg, rfl⟩
  · simp at hk
  · refine ⟨g, hg, rfl, fun q u hq => ?_⟩
    have hq10 : q < 10 := by
      have := (List.getElem?_eq_some_iff.1 hq).1
      rw [sloC_length (hl x (List.mem_of_getElem? hk))] at this
      exact this
    obtain ⟨ad, e, hc⟩ := h4 (k * 10 + q) u ((slosC_at hl hk hq10).trans hq)
    cases e
    rw [add_flat] at hc ⊢
    rwa [Nat.zero_add] at hc
theorem RefV.upd2 {w w' : World} {B0 S L : Nat} {v : Value} {l : List Slo} (h : RefV w B0 v l) (hu : Upd2 S L w w') (hS : S < B0) (hL : L < B0) : RefV w' B0 v l := by
  obtain ⟨A, c, h1, h2, h3, h4⟩ := h
  refine ⟨A, c, h1, h2, h3, fun j u hj => ?_⟩
  rcases h3 with rfl | ⟨g, hg, rfl⟩
  · simp [slosC_nil] at hj
  · obtain ⟨ad, e, hc⟩ := h4 j u hj
    cases e
    rw [add_flat] at hc
    refine ⟨_, rfl, ?_⟩
    rw [add_flat]
    exact (World.cell?_of_block (w := w) (hu.2.2.2.2 g (cell_lt hc) (by omega) (by omega))).trans hc
theorem RefV.upd {w w' : World} {B0 X : Nat} {v : Value} {l : List Slo} (h : RefV w B0 v l) (hu : Upd X w w') (hX : X < B0) : RefV w' B0 v l := h.upd2 (Upd2.of1 (D := X) hu) hX hX
theorem RefV.mono {w : World} {B0 B1 : Nat} {v : Value} {l : List Slo} (h : RefV w B0 v l) (hB : B1 ≤ B0) : RefV w B1 v l :=
  let ⟨A, c, h1, h2, h3, h4⟩ := h; ⟨A, c, h1, h2, h3.imp id (fun ⟨g, a, b⟩ => ⟨g, Nat.le_trans hB a, b⟩), h4⟩
def refC (v : Value) (s : Sk) : Array Value := #[v, .int .i64 s.room, .int .i64 s.total]

set_option maxRecDepth 100000 in
set_option maxHeartbeats 2000000 in
theorem refFind_w (B0 : Nat) (v : Value) (s : Sk) (p : Px) (hl : ∀ x ∈ s.l, okPx x.p) (hlen : s.l.length ≤ 64) (hp : okPx p) (w : World) (h : RefV w B0 v s.l) :
    Calls Try.prog 23 #[.agg (refC v s), .agg (pxC p).toArray] w fun e w' => e = .returned (.int .i64 (fndV s.l p)) ∧ Below w.heap.size w w' := by
  obtain ⟨A, c, rfl, hnc, _, hrd⟩ := h.slice hl
  obtain ⟨n, hn⟩ : ∃ n, s.l.length = n := ⟨_, rfl⟩
  rw [hn] at hnc hlen ⊢
  have HPA := Lib.hid (px_sizeA hp)
  have hb1 := bl_alloc (Below.refl w.heap.size w) (.cells (refC (.slice A n c) s) 50)
  have hb2 := bl_next hb1 (bl_alloc (Below.refl _ _) (.cells (pxC p).toArray 30))
  have HB0 := Lib.hid hb2
  have HK0 := Lib.hid ((Obj1.new w (refC (.slice A n c) s) 50).alloc (.cells (pxC p).toArray 30))
  have HP0 := Lib.hid (show Obj1 ((w.alloc (.cells (refC (.slice A n c) s) 50)).alloc (.cells (pxC p).toArray 30)) (w.heap.size + 1) (pxC p).toArray 30 by
    have := Obj1.new (w.alloc (.cells (refC (.slice A n c) s) 50)) (pxC p).toArray 30
    rwa [World.size_alloc] at this)
  have HRD := Lib.hid hrd
  have HL := Lib.hid hl
  have HN := Lib.hid hn
  obtain ⟨W1, hW1⟩ : ∃ W1, W1 = (w.alloc (.cells (refC (.slice A n c) s) 50)).alloc (.cells (pxC p).toArray 30) := ⟨_, rfl⟩
  have c0 : ((w.alloc (.cells (refC (.slice A n c) s) 50)).alloc (.cells (pxC p).toArray 30)).cell? ⟨w.heap.size, 0, none⟩ = some (.slice A n c) := HK0.out.cell 0
  rw [← hW1] at HB0 HK0 HP0
  have HW1 := Lib.hid hW1
  clear hb1 hb2 hrd hl hn h hW1
  go_enter Try.func23, Try.ntmps23
  go_wp2_with fail
  go_loopw [9] (fun i wr => ∃ k : Nat, k ≤ n ∧ i = .int .i64 k ∧ (∀ j s', j < k → s.l[j]? = some s' → s'.p ≠ p) ∧ Below W1.heap.size W1 wr) (fun i _ => n - (intOf i).toNat)
  case atStart => exact ⟨0, Nat.zero_le _, rfl, fun j s' h => absurd h (Nat.not_lt_zero _), by rw [HW1.out]; exact Below.refl _ _⟩
  case round =>
    obtain ⟨k, hk, rfl, hno, hbel⟩ := hrel
    have HNO := Lib.hid hno
    have HB := Lib.hid hbel
    have HBW := Lib.hid (bl_next HB0.out hbel)
    clear hno hbel c0
    by_cases hlt : k < n
    · have hk0 : (0 : Int) ≤ (k : Int) := Int.natCast_nonneg k
      have hk1 : (k : Int) < (n : Int) := by omega
      obtain ⟨x, hx⟩ : ∃ x, s.l[k]? = some x := ⟨_, List.getElem?_eq_getElem (by have := HN.out; omega)⟩
      obtain ⟨g, _, rfl, hc⟩ := HRD.out k x hx
      have hxp : okPx x.p := HL.out x (List.mem_of_getElem? hx)
      have HC := Lib.hid (show CellsAt w g (k * 10) (pxC x.p) from fun q u hq => hc q u (slo_px hq))
      have HPS := Lib.hid (px_size hxp)
      have HX2 := Lib.hid hx
      clear hx hc
      go_wp2_with fail
      refine wp_region_held_drew (S := (fun w' => CellsAt w' g (k * 10) (pxC x.p) ∧ w'.cell? ⟨w.heap.size, 0, none⟩ = some (.slice (some ⟨g, 0, none⟩) n c) ∧ Obj1 w' (w.heap.size + 1) (pxC p).toArray 30)) (by kernel_rfl) (⟨HC.out.below (bl_drewN HBW.out 1), (HK0.out.below (bl_drewN HB.out 1)).cell 0, HP0.out.below (bl_drewN HB.out 1)⟩) (fun hHeld => ?_)
      generalize hW0 : World.drew _ = W0 at hHeld ⊢
      have HBD := Lib.hid (show Below W1.heap.size W1 W0 by rw [← hW0]; exact bl_drewN HB.out 1)
      have HX := Lib.hid hHeld
      clear hW0 hHeld
      refine wpAnyH_take (i := 0) (v := ?_) rfl (by kernel_rfl) (by kernel_rfl) (by kernel_rfl) (fun _ _ _ h => h) (Or.inl ⟨by rfl, ?_⟩) HX.out ?_
      rotate_left
      · intro w hSw; have hSw1 := hSw.1; have hSw2 := hSw.2.1; go_simp
        try with_reducible rfl
      go_simp
      refine wpAnyH_take (i := 1) (v := ?_) rfl (by kernel_rfl) (by kernel_rfl) (by kernel_rfl) (fun _ _ _ h => h) (Or.inl ⟨by rfl, ?_⟩) HX.out ?_
      rotate_left
      · intro w hSw; have hSw1 := hSw.1; have hSw2 := hSw.2.1; go_simp
        try with_reducible rfl
      go_simp
      refine wpAnyH_take (i := 2) (v := ?_) rfl (by kernel_rfl) (by kernel_rfl) (by kernel_rfl) (fun _ _ _ h => h) (Or.inl ⟨by rfl, ?_⟩) HX.out ?_
      rotate_left
      · intro w hSw; have hSw1 := hSw.1; have hSw2 := hSw.2.1; go_simp
        try with_reducible rfl
      go_simp
      refine wpAnyH_take (i := 3) (v := ?_) rfl (by kernel_rfl) (by kernel_rfl) (by kernel_rfl) (fun _ _ _ h => h) (Or.inl ⟨by rfl, ?_⟩) HX.out ?_
      rotate_left
      · intro w hSw; have hSw1 := hSw.1; have hSw2 := hSw.2.1; go_simp
        try with_reducible rfl
      go_simp
      refine wpAnyH_take (i := 4) (v := ?_) rfl (by kernel_rfl) (by kernel_rfl) (by kernel_rfl) (fun _ _ _ h => h) (Or.inl ⟨by rfl, ?_⟩) HX.out ?_
      rotate_left
      · intro w hSw; have hSw1 := hSw.1; have hSw2 := hSw.2.1; go_simp
        try with_reducible rfl
      go_simp
      refine wpAnyH_take (i := 5) (v := .agg (pxC x.p).toArray) rfl (by kernel_rfl) (by kernel_rfl) (by kernel_rfl) (fun _ _ _ h => h) (Or.inl ⟨by rfl, ?_⟩) HX.out ?_
      · intro w' hSw
        have hld := run_loadVar_cells (P := Try.prog) w' ⟨g, k * 10, none⟩ 30 (pxC x.p) _ hSw.1 Try.underlying30 rfl HPS.out
        simp [execOp, Act.eval, Instr.loadAt, Instr.sureAddr, Sem.run_bind, hld, Result.andThen]
      go_simp
      refine wpAnyH_take (i := 6) (v := .agg (pxC p).toArray) rfl (by kernel_rfl) (by kernel_rfl) (by kernel_rfl) (fun _ _ _ h => h) (Or.inl ⟨by rfl, ?_⟩) HX.out ?_
      · intro w' hSw
        have hld := run_loadVar_row (P := Try.prog) w' (w.heap.size + 1) 30 30 (pxC p).toArray (0, 0) _ hSw.2.2 Try.underlying30 rfl HPA.out
        simp [execOp, Act.eval, Instr.loadAt, Instr.sureAddr, Sem.run_bind, hld, Result.andThen]
      go_simp
      refine wpAnyH_take (i := 7) (v := .bool (decide (x.p = p))) rfl (by kernel_rfl) (by kernel_rfl) (by kernel_rfl) (fun _ _ _ h => h) (Or.inl ⟨by rfl, ?_⟩) HX.out ?_
      · intro w' hSw
        exact exec_eql 30 30 (.tmp 17) (.tmp 18) rfl _ _ rfl rfl _ (by kernel_rfl) (eq_px w' hxp hp)
      go_simp
      refine wpAnyH_done (by kernel_rfl) ?_ _
      by_cases he : x.p = p
      · have hd : decide (x.p = p) = true := by simp [he]
        rw [hd]
        have hf : fndV s.l p = (k : Int) := by
          unfold fndV
          rw [fnd_yes HX2.out he HNO.out, if_pos (by have := HN.out; omega)]
        have HF := Lib.hid hf
        clear hf he hd
        go_wp2
        go_ret
        exact ⟨by rw [HF.out]; rfl, bl_next HB0.out HBD.out⟩
      · have hd : decide (x.p = p) = false := by simp [he]
        rw [hd]
        have hno2 : ∀ j s', j < k + 1 → s.l[j]? = some s' → s'.p ≠ p := by
          intro j s' hj hs'
          by_cases hjk : j = k
          · subst hjk
            rw [HX2.out] at hs'
            cases hs'
            exact he
          · exact HNO.out j s' (by omega) hs'
        have HN2 := Lib.hid hno2
        clear he hd hno2
        go_wp2_with fail
        go_roundw
        case rel => exact ⟨k + 1, by omega, by go_num, HN2.out, HBD.out⟩
        case measure => simp [intOf]; omega
    · have hk1 : ¬ (k : Int) < (n : Int) := by omega
      have hf : fndV s.l p = -1 := by
        unfold fndV
        rw [fnd_no (fun j s' hj => HNO.out j s' (by have := HN.out; omega)), if_neg (by have := HN.out; omega)]
      have HF := Lib.hid hf
      clear hf
      go_wp2
      go_ret
      exact ⟨by rw [HF.out]; rfl, HBW.out⟩

set_option maxRecDepth 100000 in
set_option maxHeartbeats 2000000 in
theorem same18_w (B0 : Nat) (v : Value) (l : List Slo) (hl : ∀ x ∈ l, okSlo x) (hlen : l.length ≤ 64) (A1 : Option Addr) (n c1 : Nat) (hn : l.length = n) (w : World) (h : RefV w B0 v l) (hc1 : ∀ k x, l[k]? = some x → ∃ g, A1 = some ⟨g, 0, none⟩ ∧ CellsAt w g (k * 10) (sloC x)) :
    Calls Try.prog 22 #[.slice A1 n c1, v] w fun e w' => e = .returned (.bool true) ∧ ∃ q, w' = w.drewN q := by
  obtain ⟨A, c, rfl, hnc, _, hrd⟩ := h.slice (fun x hx => (hl x hx).1)
  rw [hn] at hnc hlen ⊢
  have HRD := Lib.hid hrd
  have HR1 := Lib.hid hc1
  have HL := Lib.hid hl
  have HN := Lib.hid hn
  clear h hrd hc1 hl hn
  go_enter Try.func22, Try.ntmps22
  go_wp2_with fail
  go_loopw [13] (fun i wr => ∃ k : Nat, k ≤ n ∧ i = .int .i64 k ∧ ∃ q, wr = w.drewN q) (fun i _ => n - (intOf i).toNat)
  case atStart => exact ⟨0, Nat.zero_le _, rfl, 0, rfl⟩
  case round =>
    obtain ⟨k, hk, rfl, q0, rfl⟩ := hrel
    by_cases hlt : k < n
    · have hk0 : (0 : Int) ≤ (k : Int) := Int.natCast_nonneg k
      have hk1 : (k : Int) < (n : Int) := by omega
      obtain ⟨x, hx⟩ : ∃ x, l[k]? = some x := ⟨_, List.getElem?_eq_getElem (by have := HN.out; omega)⟩
      obtain ⟨g, _, rfl, hc⟩ := HRD.out k x hx
      obtain ⟨g1, rfl, hc1⟩ := HR1.out k x hx
      have hxo : okSlo x := HL.out x (List.mem_of_getElem? hx)
      have HSZ := Lib.hid (slo_size hxo.1)
      have HSR := Lib.hid (slo_sizeR hxo.1)
      have HCC := Lib.hid (show CellsAt ((w.drewN q0).drewN 1) g1 (k * 10) (sloC x) ∧ CellsAt ((w.drewN q0).drewN 1) g (k * 10) (sloC x) from ⟨fun q u hq => hc1 q u hq, fun q u hq => hc q u hq⟩)
      clear hx hc hc1
      go_wp2_with fail
      refine wp_region_held_drew (S := (fun w' => CellsAt w' g1 (k * 10) (sloC x) ∧ CellsAt w' g (k * 10) (sloC x))) (by kernel_rfl) (HCC.out) (fun hHeld => ?_)
      have HX := Lib.hid hHeld
      clear hHeld
      refine wpAnyH_take (i := 0) (v := ?_) rfl (by kernel_rfl) (by kernel_rfl) (by kernel_rfl) (fun _ _ _ h => h) (Or.inl ⟨by rfl, ?_⟩) HX.out ?_
      rotate_left
      · intro w hSw; have hSw2 := hSw.2; go_simp
        try with_reducible rfl
      go_simp
      refine wpAnyH_take (i := 1) (v := ?_) rfl (by kernel_rfl) (by kernel_rfl) (by kernel_rfl) (fun _ _ _ h => h) (Or.inl ⟨by rfl, ?_⟩) HX.out ?_
      rotate_left
      · intro w hSw; have hSw2 := hSw.2; go_simp
        try with_reducible rfl
      go_simp
      refine wpAnyH_take (i := 2) (v := ?_) rfl (by kernel_rfl) (by kernel_rfl) (by kernel_rfl) (fun _ _ _ h => h) (Or.inl ⟨by rfl, ?_⟩) HX.out ?_
      rotate_left
      · intro w hSw; have hSw2 := hSw.2; go_simp
        try with_reducible rfl
      go_simp
      refine wpAnyH_take (i := 3) (v := .agg (sloC x).toArray) rfl (by kernel_rfl) (by kernel_rfl) (by kernel_rfl) (fun _ _ _ h => h) (Or.inl ⟨by rfl, ?_⟩) HX.out ?_
      · intro w' hSw
        have hld := run_loadVar_cells (P := Try.prog) w' ⟨g1, k * 10, none⟩ 32 (sloC x) _ hSw.1 Try.underlying32 rfl HSZ.out
        simp [execOp, Act.eval, Instr.loadAt, Instr.sureAddr, Sem.run_bind, hld, Result.andThen]
      go_simp
      refine wpAnyH_take (i := 4) (v := ?_) rfl (by kernel_rfl) (by kernel_rfl) (by kernel_rfl) (fun _ _ _ h => h) (Or.inl ⟨by rfl, ?_⟩) HX.out ?_
      rotate_left
      · intro w hSw; have hSw2 := hSw.2; go_simp
        try with_reducible rfl
      go_simp
      refine wpAnyH_take (i := 5) (v := ?_) rfl (by kernel_rfl) (by kernel_rfl) (by kernel_rfl) (fun _ _ _ h => h) (Or.inl ⟨by rfl, ?_⟩) HX.out ?_
      rotate_left
      · intro w hSw; have hSw2 := hSw.2; go_simp
        try with_reducible rfl
      go_simp
      refine wpAnyH_take (i := 6) (v := ?_) rfl (by kernel_rfl) (by kernel_rfl) (by kernel_rfl) (fun _ _ _ h => h) (Or.inl ⟨by rfl, ?_⟩) HX.out ?_
      rotate_left
      · intro w hSw; have hSw2 := hSw.2; go_simp
        try with_reducible rfl
      go_simp
      refine wpAnyH_take (i := 7) (v := .agg (sloC x).toArray) rfl (by kernel_rfl) (by kernel_rfl) (by kernel_rfl) (fun _ _ _ h => h) (Or.inl ⟨by rfl, ?_⟩) HX.out ?_
      · intro w' hSw
        have hld := run_loadVar_cells (P := Try.prog) w' ⟨g, k * 10, none⟩ 53 (sloC x) _ hSw.2 Try.underlying53 rfl HSR.out
        simp [execOp, Act.eval, Instr.loadAt, Instr.sureAddr, Sem.run_bind, hld, Result.andThen]
      go_simp
      refine wpAnyH_take (i := 8) (v := .bool false) rfl (by kernel_rfl) (by kernel_rfl) (by kernel_rfl) (fun _ _ _ h => h) (Or.inl ⟨by rfl, ?_⟩) HX.out ?_
      · intro w' hSw
        exact exec_neq 53 53 (.tmp 19) (.tmp 23) rfl _ _ rfl rfl true (by kernel_rfl) (by rw [eq_sloR w' hxo hxo]; simp)
      go_simp
      refine wpAnyH_done (by kernel_rfl) ?_ _
      go_wp2_with fail
      go_roundw
      case rel => exact ⟨k + 1, by omega, by go_num, q0 + 1, rfl⟩
      case measure => simp [intOf]; omega
    · have hk1 : ¬ (k : Int) < (n : Int) := by omega
      go_wp2
      go_ret
      exact ⟨rfl, q0, rfl⟩

set_option maxRecDepth 100000 in
set_option maxHeartbeats 2000000 in
theorem same19_w (B0 : Nat) (v : Value) (l : List Slo) (hl : ∀ x ∈ l, okSlo x) (hlen : l.length ≤ 64) (A1 : Option Addr) (n c1 : Nat) (hn : l.length = n) (w : World) (h : RefV w B0 v l) (hc1 : ∀ k x, l[k]? = some x → ∃ g, A1 = some ⟨g, 0, none⟩ ∧ CellsAt w g (k * 10) (sloC x)) :
    Calls Try.prog 33 #[.slice A1 n c1, v] w fun e w' => e = .returned (.bool true) ∧ ∃ q, w' = w.drewN q := by
  obtain ⟨A, c, rfl, hnc, _, hrd⟩ := h.slice (fun x hx => (hl x hx).1)
  rw [hn] at hnc hlen ⊢
  have HRD := Lib.hid hrd
  have HR1 := Lib.hid hc1
  have HL := Lib.hid hl
  have HN := Lib.hid hn
  clear h hrd hc1 hl hn
  go_enter Try.func33, Try.ntmps33
  go_wp2_with fail
  go_loopw [13] (fun i wr => ∃ k : Nat, k ≤ n ∧ i = .int .i64 k ∧ ∃ q, wr = w.drewN q) (fun i _ => n - (intOf i).toNat)
  case atStart => exact ⟨0, Nat.zero_le _, rfl, 0, rfl⟩
  case round =>
    obtain ⟨k, hk, rfl, q0, rfl⟩ := hrel
    by_cases hlt : k < n
    · have hk0 : (0 : Int) ≤ (k : Int) := Int.natCast_nonneg k
      have hk1 : (k : Int) < (n : Int) := by omega
      obtain ⟨x, hx⟩ : ∃ x, l[k]? = some x := ⟨_, List.getElem?_eq_getElem (by have := HN.out; omega)⟩
      obtain ⟨g, _, rfl, hc⟩ := HRD.out k x hx
      obtain ⟨g1, rfl, hc1⟩ := HR1.out k x hx
      have hxo : okSlo x := HL.out x (List.mem_of_getElem? hx)
      have HSZ := Lib.hid (slo_size hxo.1)
      have HSR := Lib.hid (slo_sizeR hxo.1)
      have HCC := Lib.hid (show CellsAt ((w.drewN q0).drewN 1) g1 (k * 10) (sloC x) ∧ CellsAt ((w.drewN q0).drewN 1) g (k * 10) (sloC x) from ⟨fun q u hq => hc1 q u hq, fun q u hq => hc q u hq⟩)
      clear hx hc hc1
      go_wp2_with fail
      refine wp_region_held_drew (S := (fun w' => CellsAt w' g1 (k * 10) (sloC x) ∧ CellsAt w' g (k * 10) (sloC x))) (by kernel_rfl) (HCC.out) (fun hHeld => ?_)
      have HX := Lib.hid hHeld
      clear hHeld
      refine wpAnyH_take (i := 0) (v := ?_) rfl (by kernel_rfl) (by kernel_rfl) (by kernel_rfl) (fun _ _ _ h => h) (Or.inl ⟨by rfl, ?_⟩) HX.out ?_
      rotate_left
      · intro w hSw; have hSw2 := hSw.2; go_simp
        try with_reducible rfl
      go_simp
      refine wpAnyH_take (i := 1) (v := ?_) rfl (by kernel_rfl) (by kernel_rfl) (by kernel_rfl) (fun _ _ _ h => h) (Or.inl ⟨by rfl, ?_⟩) HX.out ?_
      rotate_left
      · intro w hSw; have hSw2 := hSw.2; go_simp
        try with_reducible rfl
      go_simp
      refine wpAnyH_take (i := 2) (v := ?_) rfl (by kernel_rfl) (by kernel_rfl) (by kernel_rfl) (fun _ _ _ h => h) (Or.inl ⟨by rfl, ?_⟩) HX.out ?_
      rotate_left
      · intro w hSw; have hSw2 := hSw.2; go_simp
        try with_reducible rfl
      go_simp
      refine wpAnyH_take (i := 3) (v := .agg (sloC x).toArray) rfl (by kernel_rfl) (by kernel_rfl) (by kernel_rfl) (fun _ _ _ h => h) (Or.inl ⟨by rfl, ?_⟩) HX.out ?_
      · intro w' hSw
        have hld := run_loadVar_cells (P := Try.prog) w' ⟨g1, k * 10, none⟩ 32 (sloC x) _ hSw.1 Try.underlying32 rfl HSZ.out
        simp [execOp, Act.eval, Instr.loadAt, Instr.sureAddr, Sem.run_bind, hld, Result.andThen]
      go_simp
      refine wpAnyH_take (i := 4) (v := ?_) rfl (by kernel_rfl) (by kernel_rfl) (by kernel_rfl) (fun _ _ _ h => h) (Or.inl ⟨by rfl, ?_⟩) HX.out ?_
      rotate_left
      · intro w hSw; have hSw2 := hSw.2; go_simp
        try with_reducible rfl
      go_simp
      refine wpAnyH_take (i := 5) (v := ?_) rfl (by kernel_rfl) (by kernel_rfl) (by kernel_rfl) (fun _ _ _ h => h) (Or.inl ⟨by rfl, ?_⟩) HX.out ?_
      rotate_left
      · intro w hSw; have hSw2 := hSw.2; go_simp
        try with_reducible rfl
      go_simp
      refine wpAnyH_take (i := 6) (v := ?_) rfl (by kernel_rfl) (by kernel_rfl) (by kernel_rfl) (fun _ _ _ h => h) (Or.inl ⟨by rfl, ?_⟩) HX.out ?_
      rotate_left
      · intro w hSw; have hSw2 := hSw.2; go_simp
        try with_reducible rfl
      go_simp
      refine wpAnyH_take (i := 7) (v := .agg (sloC x).toArray) rfl (by kernel_rfl) (by kernel_rfl) (by kernel_rfl) (fun _ _ _ h => h) (Or.inl ⟨by rfl, ?_⟩) HX.out ?_
      · intro w' hSw
        have hld := run_loadVar_cells (P := Try.prog) w' ⟨g, k * 10, none⟩ 53 (sloC x) _ hSw.2 Try.underlying53 rfl HSR.out
        simp [execOp, Act.eval, Instr.loadAt, Instr.sureAddr, Sem.run_bind, hld, Result.andThen]
      go_simp
      refine wpAnyH_take (i := 8) (v := .bool false) rfl (by kernel_rfl) (by kernel_rfl) (by kernel_rfl) (fun _ _ _ h => h) (Or.inl ⟨by rfl, ?_⟩) HX.out ?_
      · intro w' hSw
        exact exec_neq 53 53 (.tmp 19) (.tmp 23) rfl _ _ rfl rfl true (by kernel_rfl) (by rw [eq_sloR w' hxo hxo]; simp)
      go_simp
      refine wpAnyH_done (by kernel_rfl) ?_ _
      go_wp2_with fail
      go_roundw
      case rel => exact ⟨k + 1, by omega, by go_num, q0 + 1, rfl⟩
      case measure => simp [intOf]; omega
    · have hk1 : ¬ (k : Int) < (n : Int) := by omega
      go_wp2
      go_ret
      exact ⟨rfl, q0, rfl⟩
end Go.Proofs.Ytdmfmanmhlnleaa
