/- New turns; what heads a class; the next one's turn. -/
import Derived.Test.YtlnfenjoagkpdaaTuC
import Derived.Deep.LoopGhost
namespace Go.Proofs.Ytlnfenjoagkpdaa
open Go.RowKit
set_option linter.unusedVariables false
set_option linter.unusedSimpArgs false

section
variable {P : Program} {o : Oper} {a : Act} {Q : Exit → Act → World → Prop} {w : World}
theorem wp_make_full {K : Act → World → Prop} (l c : Operand) (t : TypeId) (hop : o.op = Op.makeSlice t l c)
    (base : Nat) (e : TypeId) (i : TypeInfo) (z : Value) (size : Nat) (h1 : P.underlying t = some (.slice e)) (h2 : P.info? e = some i) (h3 : i.zero = some z) (h4 : i.size = size)
    (n : Nat) (hl : a.eval l = .int .i64 (n : Int)) (hc : a.eval c = .int .i64 (n : Int)) (b2 : i.bytes * n ≤ 281474976710656) (b3 : n ≤ maxLen) (b4 : base ≤ w.heap.size)
    (hK : ∀ w', w'.ownsRow base e size (.slice (some ⟨w.heap.size, 0, none⟩) n n) n (madeCells z.cells (n * size)).toList → w.grownBy w' none → K (a.put o.dst (.slice (some ⟨w.heap.size, 0, none⟩) n n)) w') : o.wp P a w K Q := by
  obtain ⟨w', hrun, r1, r2⟩ := run_make_full (P := P) w base t e i z size h1 h2 h3 h4 .i64 .i64 n b2 b3 b4
  unfold Oper.wp
  simp [execOp, hop, hl, hc, hrun, Result.andThen]
  exact hK _ r1 r2
theorem wp_make_own {K : Act → World → Prop} (l c : Operand) (t : TypeId) (hop : o.op = Op.makeSlice t l c)
    (base : Nat) (e : TypeId) (i : TypeInfo) (z : Value) (size : Nat) (h1 : P.underlying t = some (.slice e)) (h2 : P.info? e = some i) (h3 : i.zero = some z) (h4 : i.size = size)
    (n : Nat) (hl : a.eval l = .int .i64 0) (hc : a.eval c = .int .i64 (n : Int)) (b2 : i.bytes * n ≤ 281474976710656) (b3 : n ≤ maxLen) (b4 : base ≤ w.heap.size)
    (hK : ∀ w', w'.ownsRow base e size (.slice (some ⟨w.heap.size, 0, none⟩) 0 n) 0 [] → w.grownBy w' none → K (a.put o.dst (.slice (some ⟨w.heap.size, 0, none⟩) 0 n)) w') : o.wp P a w K Q := by
  obtain ⟨w', hrun, r1, r2⟩ := run_make_own (P := P) w base t e i z size h1 h2 h3 h4 .i64 .i64 n b2 b3 b4
  unfold Oper.wp
  simp [execOp, hop, hl, hc, hrun, Result.andThen]
  exact hK _ r1 r2
end
def c00 : Cl := ⟨false, false, 0⟩
theorem made_cls (n : Nat) : (madeCells (Value.agg #[.bool false, .bool false, .int .i64 0]).cells (n * 3)).toList = clsC (List.replicate n c00) := by
  have hsz : (madeCells (Value.agg #[.bool false, .bool false, .int .i64 0]).cells (n * 3)).toList.length = n * 3 := by simp [madeCells]
  apply List.ext_getElem?
  intro i
  by_cases hi : i < n * 3
  · have h1 : (List.replicate n c00)[i / 3]? = some c00 := by
      rw [List.getElem?_replicate, if_pos (by omega)]
    have h2 := clsC_at h1 (q := i % 3) (by omega)
    rw [show i / 3 * 3 + i % 3 = i by omega] at h2
    rw [h2]
    have h3 : (madeCells (Value.agg #[.bool false, .bool false, .int .i64 0]).cells (n * 3)).toList[i]? = some ((Value.agg #[.bool false, .bool false, .int .i64 0]).cells[i % 3]!) := by
      rw [Array.getElem?_toList, Array.getElem?_eq_getElem (by rw [size_madeCells]; exact hi)]
      simp [madeCells, Value.cells]
    rw [h3]
    have hq : i % 3 = 0 ∨ i % 3 = 1 ∨ i % 3 = 2 := by omega
    rcases hq with h | h | h <;> (rw [h]; rfl)
  · rw [List.getElem?_eq_none (by omega), List.getElem?_eq_none (by rw [clsC_length]; simp; omega)]
def tnNew (n : Nat) (q : Int) : Tn := ⟨q, List.replicate n c00, []⟩
theorem tnNew_ok {n : Nat} {q : Int} (hn : 1 ≤ n ∧ n ≤ 129) (hq : 1 ≤ q ∧ q ≤ 1073741824) : okTn (tnNew n q) := by
  refine ⟨by simpa [tnNew] using hn, by simp [tnNew], fun c => ?_, hq, fun x hx => ?_⟩
  · constructor
    · intro h
      simp [tnNew] at h
    · rintro ⟨x, hx, ha⟩
      simp only [tnNew, List.getElem?_replicate] at hx
      split at hx
      · cases hx; cases ha
      · cases hx
  · simp only [tnNew, List.mem_replicate] at hx
    rw [hx.2]
    show (0 : Int) ≤ 0 ∧ (0 : Int) ≤ 9216 + q ∧ (false = true → (0 : Int) ≤ 9216)
    omega
set_option maxRecDepth 100000 in
set_option maxHeartbeats 2000000 in
theorem tnNew_w (n : Nat) (q : Int) (hn : 1 ≤ n ∧ n ≤ 129) (hq : 1 ≤ q ∧ q ≤ 1073741824) (w : World) :
    Calls Try.prog 12 #[.int .i64 n, .int .i64 q] w fun e w' => ∃ T C L, e = .returned (.tuple #[.pointer (some ⟨T, 0, none⟩), .int .i64 0]) ∧ w.heap.size ≤ T ∧ w.heap.size ≤ C ∧ w.heap.size ≤ L ∧ TnO w' T C L n 0 (tnNew n q) ∧ Below w.heap.size w w' := by
  have hinfo : (Try.prog.info? 74).map (fun i => (i.zero, i.size, i.bytes)) = some (some (.agg #[.bool false, .bool false, .int .i64 0]), 3, 16) := by kernel_rfl
  obtain ⟨i1, hi1, hzz⟩ := Option.map_eq_some_iff.1 hinfo
  simp only [Prod.mk.injEq] at hzz
  obtain ⟨hz0, hz1, hz2⟩ := hzz
  have hinfo2 : (Try.prog.info? 3).map (fun i => (i.zero, i.size, i.bytes)) = some (some (.int .i64 0), 1, 8) := by kernel_rfl
  obtain ⟨i2, hi2, hyy⟩ := Option.map_eq_some_iff.1 hinfo2
  simp only [Prod.mk.injEq] at hyy
  obtain ⟨hy0, hy1, hy2⟩ := hyy
  have g1 : decide ((n : Int) < 1) = false := decide_eq_false (by omega)
  have g2 : decide ((129 : Int) < (n : Int)) = false := decide_eq_false (by omega)
  have g3 : decide (q < 1) = false := decide_eq_false (by omega)
  have g4 : ¬ (1073741824 : Int) < q := by omega
  have hb1 : i1.bytes * n ≤ 281474976710656 := by rw [hz2]; omega
  have hb2 : i2.bytes * n ≤ 281474976710656 := by rw [hy2]; omega
  have hmx : n ≤ maxLen := by unfold maxLen; omega
  have HI1 := Lib.hid (And.intro hi1 (And.intro hz0 (And.intro hz1 hb1)))
  have HI2 := Lib.hid (And.intro hi2 (And.intro hy0 (And.intro hy1 hb2)))
  clear hinfo hinfo2 hi1 hz0 hz1 hz2 hi2 hy0 hy1 hy2 hb1 hb2
  go_enter Try.func12, Try.ntmps12
  go_wp2_with fail
  refine wp_region_held_drew (S := (fun w' => w.heap.size ≤ w'.heap.size)) (by kernel_rfl) ((Nat.le_refl _)) (fun hHeld => ?_)
  generalize hW0 : World.drew _ = W0 at hHeld ⊢
  have HB0 := Lib.hid (show Below w.heap.size w W0 by rw [← hW0]; exact bl_drewN (Below.refl _ _) 1)
  clear hW0
  refine wpAnyH_take (i := 0) (v := ?_) rfl (by kernel_rfl) (by kernel_rfl) (by kernel_rfl) (fun _ _ _ h => h) (Or.inl ⟨by rfl, ?_⟩) (by assumption) ?_
  rotate_left
  · intro w hSw; (try dsimp only at hSw); go_simp
    try with_reducible rfl
  refine wpAnyH_take (i := 1) (v := ?_) rfl (by kernel_rfl) (by kernel_rfl) (by kernel_rfl) (fun _ _ _ h => h) (Or.inl ⟨by rfl, ?_⟩) (by assumption) ?_
  rotate_left
  · intro w hSw; (try dsimp only at hSw); go_simp
    try with_reducible rfl
  go_simp
  refine wpAnyH_take (i := 3) (v := ?_) rfl (by kernel_rfl) (by kernel_rfl) (by kernel_rfl) (fun _ _ _ h => h) (Or.inl ⟨by rfl, ?_⟩) (by assumption) ?_
  rotate_left
  · intro w hSw; (try dsimp only at hSw); go_simp
    try with_reducible rfl
  go_simp
  refine wpAnyH_ready (rs := [2, 4]) (by kernel_rfl) (by simp) ?_
  refine AllReadyH.cons rfl (fun K hK => ?_) ?_
  · refine gwanted rfl ?_
    refine wp_make_full (.tmp 21) (.tmp 21) 70 rfl w.heap.size 74 i1 _ 3 Try.underlying70 HI1.out.1 HI1.out.2.1 HI1.out.2.2.1 n rfl rfl HI1.out.2.2.2 hmx hHeld ?_
    intro w5 ho5 hg5
    rw [made_cls] at ho5
    have HC5 := Lib.hid (RoomO.of ho5)
    have HB5 := Lib.hid (show Below w.heap.size w w5 from HB0.out.grown hg5 HB0.out.size (fun k hk => by cases hk))
    clear ho5 hg5
    refine hK.out _ _ HB5.out.size (fun hHeld => ?_)
    clear hK K
    refine wpAnyH_ready (rs := [4]) (by kernel_rfl) (by simp) ?_
    refine AllReadyH.cons rfl (fun K hK => ?_) AllReadyH.nil
    refine gwanted rfl ?_
    refine wp_make_own (.const (.int .i64 0)) (.tmp 23) 32 rfl w.heap.size 3 i2 _ 1 Try.underlying32 HI2.out.1 HI2.out.2.1 HI2.out.2.2.1 n rfl rfl HI2.out.2.2.2 hmx hHeld ?_
    intro w6 ho6 hg6
    have HL6 := Lib.hid (RoomO.of ho6)
    have HC6 := Lib.hid (HC5.out.grown hg6 (by simp))
    have HB6 := Lib.hid (show Below w.heap.size w w6 from HB5.out.grown hg6 HB5.out.size (fun k hk => by cases hk))
    have HSZ := Lib.hid (And.intro hHeld HB0.out.size)
    clear ho6 hg6
    refine hK.out _ _ HB6.out.size (fun hHeld => ?_)
    clear hK K
    go_simp
    refine wpAnyH_take (i := 5) (v := ?_) rfl (by kernel_rfl) (by kernel_rfl) (by kernel_rfl) (fun _ _ _ h => h) (Or.inl ⟨by rfl, ?_⟩) (by assumption) ?_
    rotate_left
    · intro w hSw; (try dsimp only at hSw); go_simp
      try with_reducible rfl
    go_simp
    refine wpAnyH_ready (rs := [6]) (by kernel_rfl) (by simp) ?_
    refine AllReadyH.cons rfl (fun K hK => ?_) AllReadyH.nil
    go_simp
    refine hK.out _ _ (Nat.le_trans HB6.out.size (bl_alloc (Below.refl w6.heap.size w6) _).size) (fun hHeld => ?_)
    clear hK K
    refine wpAnyH_take (i := 7) (v := ?_) rfl (by kernel_rfl) (by kernel_rfl) (by kernel_rfl) (fun _ _ _ h => h) (Or.inl ⟨by rfl, ?_⟩) (by assumption) ?_
    rotate_left
    · intro w hSw; (try dsimp only at hSw); go_simp
      try with_reducible rfl
    refine wpAnyH_take (i := 8) (v := ?_) rfl (by kernel_rfl) (by kernel_rfl) (by kernel_rfl) (fun _ _ _ h => h) (Or.inl ⟨by rfl, ?_⟩) (by assumption) ?_
    rotate_left
    · intro w hSw; (try dsimp only at hSw); go_simp
      try with_reducible rfl
    go_simp
    refine wpAnyH_done (by kernel_rfl) ?_ _
    go_wp2
    go_ret2
    refine ⟨_, _, _, rfl, HB6.out.size, HSZ.out.2, HSZ.out.1, ⟨⟨by simp [tnNew], rfl⟩, Obj1.new w6 _ _, HC6.out.below (bl_alloc (Below.refl _ _) _), HL6.out.below (bl_alloc (Below.refl _ _) _)⟩, bl_alloc HB6.out _⟩
  · refine AllReadyH.cons rfl (fun K hK => ?_) AllReadyH.nil
    refine gwanted rfl ?_
    refine wp_make_own (.const (.int .i64 0)) (.tmp 23) 32 rfl w.heap.size 3 i2 _ 1 Try.underlying32 HI2.out.1 HI2.out.2.1 HI2.out.2.2.1 n rfl rfl HI2.out.2.2.2 hmx hHeld ?_
    intro w5 ho5 hg5
    have HL5 := Lib.hid (RoomO.of ho5)
    have HB5 := Lib.hid (show Below w.heap.size w w5 from HB0.out.grown hg5 HB0.out.size (fun k hk => by cases hk))
    clear ho5 hg5
    refine hK.out _ _ HB5.out.size (fun hHeld => ?_)
    clear hK K
    refine wpAnyH_ready (rs := [2]) (by kernel_rfl) (by simp) ?_
    refine AllReadyH.cons rfl (fun K hK => ?_) AllReadyH.nil
    refine gwanted rfl ?_
    refine wp_make_full (.tmp 21) (.tmp 21) 70 rfl w.heap.size 74 i1 _ 3 Try.underlying70 HI1.out.1 HI1.out.2.1 HI1.out.2.2.1 n rfl rfl HI1.out.2.2.2 hmx hHeld ?_
    intro w6 ho6 hg6
    rw [made_cls] at ho6
    have HC6 := Lib.hid (RoomO.of ho6)
    have HL6 := Lib.hid (HL5.out.grown hg6 (by simp))
    have HB6 := Lib.hid (show Below w.heap.size w w6 from HB5.out.grown hg6 HB5.out.size (fun k hk => by cases hk))
    have HSZ := Lib.hid (And.intro hHeld HB0.out.size)
    clear ho6 hg6
    refine hK.out _ _ HB6.out.size (fun hHeld => ?_)
    clear hK K
    go_simp
    refine wpAnyH_take (i := 5) (v := ?_) rfl (by kernel_rfl) (by kernel_rfl) (by kernel_rfl) (fun _ _ _ h => h) (Or.inl ⟨by rfl, ?_⟩) (by assumption) ?_
    rotate_left
    · intro w hSw; (try dsimp only at hSw); go_simp
      try with_reducible rfl
    go_simp
    refine wpAnyH_ready (rs := [6]) (by kernel_rfl) (by simp) ?_
    refine AllReadyH.cons rfl (fun K hK => ?_) AllReadyH.nil
    go_simp
    refine hK.out _ _ (Nat.le_trans HB6.out.size (bl_alloc (Below.refl w6.heap.size w6) _).size) (fun hHeld => ?_)
    clear hK K
    refine wpAnyH_take (i := 7) (v := ?_) rfl (by kernel_rfl) (by kernel_rfl) (by kernel_rfl) (fun _ _ _ h => h) (Or.inl ⟨by rfl, ?_⟩) (by assumption) ?_
    rotate_left
    · intro w hSw; (try dsimp only at hSw); go_simp
      try with_reducible rfl
    refine wpAnyH_take (i := 8) (v := ?_) rfl (by kernel_rfl) (by kernel_rfl) (by kernel_rfl) (fun _ _ _ h => h) (Or.inl ⟨by rfl, ?_⟩) (by assumption) ?_
    rotate_left
    · intro w hSw; (try dsimp only at hSw); go_simp
      try with_reducible rfl
    go_simp
    refine wpAnyH_done (by kernel_rfl) ?_ _
    go_wp2
    go_ret2
    refine ⟨_, _, _, rfl, HB6.out.size, HSZ.out.1, HSZ.out.2, ⟨⟨by simp [tnNew], rfl⟩, Obj1.new w6 _ _, HC6.out.below (bl_alloc (Below.refl _ _) _), HL6.out.below (bl_alloc (Below.refl _ _) _)⟩, bl_alloc HB6.out _⟩
def headV (l : List Int) (c : Nat) : Int := if c < l.length then nth l c else 0
theorem head_w (A : Option Addr) (n cp : Nat) (l : List Int) (c : Nat) (hn : l.length = n) (w : World) (h : RdI w A l) :
    Calls Try.prog 80 #[.agg #[.slice A n cp], .int .i64 c] w fun e w' => e = .returned (.int .i64 (headV l c)) ∧ Below w.heap.size w w' := by
  have hb := bl_alloc (Below.refl w.heap.size w) (.cells #[.slice A n cp] 37)
  have HB := Lib.hid hb
  have H := Lib.hid h
  have k0 : ¬ (c : Int) < 0 := by omega
  have k0d : decide ((c : Int) < 0) = false := decide_eq_false k0
  have c0 : (w.alloc (.cells #[.slice A n cp] 37)).cell? ⟨w.heap.size, 0, none⟩ = some (.slice A n cp) := new_cell w _ _ 0
  by_cases hc : c < n
  · obtain ⟨ad, rfl, hcell⟩ := H.out.2 c (by omega)
    have r0 : (w.alloc (.cells #[.slice (some ad) n cp] 37)).cell? (ad.add c) = some (.int .i64 (nth l c)) := bl_keeps hb hcell
    have hv : headV l c = nth l c := by unfold headV; rw [if_pos (by omega)]
    have HV := Lib.hid hv
    have k1 : (c : Int) < (n : Int) := by omega
    have k2 : (0 : Int) ≤ (c : Int) := by omega
    clear h hb hv hn hcell
    go_enter Try.func80, Try.ntmps80
    go_wp2
    go_ret
    exact ⟨by rw [HV.out]; rfl, HB.out⟩
  · have hv : headV l c = 0 := by unfold headV; rw [if_neg (by omega)]
    have HV := Lib.hid hv
    have k1 : (n : Int) ≤ (c : Int) := by omega
    clear h hb hv hn
    go_enter Try.func80, Try.ntmps80
    go_wp2
    go_ret
    exact ⟨by rw [HV.out]; rfl, HB.out⟩
end Go.Proofs.Ytlnfenjoagkpdaa
