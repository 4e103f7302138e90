/- Two generations of buckets: their cells; what is read of them; new ones. -/
import Derived.Test.YtgbdkleckmilkaaKeyD
import Derived.Test.YtgbdkleckmilkaaOpenS
import Derived.Deep.RegionHeld3
namespace Go.Proofs.Ytgbdkleckmilkaa
open Go.RowKit
set_option linter.unusedVariables false
set_option linter.unusedSimpArgs false

structure Gn where
  bk : Nat
  k0 : List Int
  k1 : List Int
  old : Nat
  mv : Bool
  md : Nat
  ep : Int
def gnC (g : Gn) : List Value := [.int .i64 g.bk] ++ bys g.k0 ++ bys g.k1 ++ [.int .i64 g.old, .bool g.mv, .int .i64 g.md, .int .i64 g.ep]
def okKey (k : List Int) : Prop := k.length = 16 ∧ ∀ x ∈ k, 0 ≤ x ∧ x ≤ 255
def okGn (g : Gn) : Prop := (1 ≤ g.bk ∧ g.bk ≤ 64) ∧ okKey g.k0 ∧ okKey g.k1 ∧ g.old ≤ 1 ∧ g.md ≤ g.bk ∧ (0 ≤ g.ep ∧ g.ep ≤ 1000000)
def gnKey (g : Gn) (gen : Nat) : List Int := if gen = 0 then g.k0 else g.k1
theorem ok_gnKey {g : Gn} (h : okGn g) (gen : Nat) : okKey (gnKey g gen) := by
  unfold gnKey
  split
  · exact h.2.1
  · exact h.2.2.1
theorem gnC_length {g : Gn} (h : okGn g) : (gnC g).length = 37 := by
  simp [gnC, bys_length, h.2.1.1, h.2.2.1.1]
theorem gnC_tail {g : Gn} (h : okGn g) : (gnC g)[0]? = some (.int .i64 g.bk) ∧ (gnC g)[33]? = some (.int .i64 g.old) ∧ (gnC g)[34]? = some (.bool g.mv) ∧ (gnC g)[35]? = some (.int .i64 g.md) ∧ (gnC g)[36]? = some (.int .i64 g.ep) := by
  have e1 := bys_length g.k0
  have e2 := bys_length g.k1
  rw [h.2.1.1] at e1
  rw [h.2.2.1.1] at e2
  refine ⟨rfl, ?_, ?_, ?_, ?_⟩ <;> (unfold gnC; rw [List.getElem?_append_right (by simp [e1, e2])]; simp [e1, e2])
theorem gn_cell {w : World} {G : Nat} {g : Gn} {t : TypeId} (h : Obj1 w G (gnC g).toArray t) (hg : okGn g) : w.cell? ⟨G, 0, none⟩ = some (.int .i64 g.bk) ∧ w.cell? ⟨G, 33, none⟩ = some (.int .i64 g.old) ∧ w.cell? ⟨G, 34, none⟩ = some (.bool g.mv) ∧ w.cell? ⟨G, 35, none⟩ = some (.int .i64 g.md) ∧ w.cell? ⟨G, 36, none⟩ = some (.int .i64 g.ep) := by
  obtain ⟨h0, h1, h2, h3, h4⟩ := gnC_tail hg
  refine ⟨(h.cell 0).trans ?_, (h.cell 33).trans ?_, (h.cell 34).trans ?_, (h.cell 35).trans ?_, (h.cell 36).trans ?_⟩ <;> rw [List.getElem?_toArray] <;> assumption
theorem gn_key {w : World} {G : Nat} {g : Gn} {t : TypeId} (h : Obj1 w G (gnC g).toArray t) (hg : okGn g) (gen : Nat) (hgen : gen ≤ 1) : ∀ j v, (bys (gnKey g gen))[j]? = some v → w.cell? ((⟨G, 1 + gen * 16, none⟩ : Addr).add j) = some v := by
  intro j v hj
  have hj' := (List.getElem?_eq_some_iff.1 hj).1
  rw [bys_length, (ok_gnKey hg gen).1] at hj'
  have e1 := bys_length g.k0
  have e2 := bys_length g.k1
  rw [hg.2.1.1] at e1
  rw [hg.2.2.1.1] at e2
  have hb2 : (⟨G, 1 + gen * 16, none⟩ : Addr).add j = ⟨G, 1 + gen * 16 + j, none⟩ := by unfold Addr.add; split <;> simp_all
  rw [hb2, h.cell, List.getElem?_toArray]
  obtain rfl | rfl : gen = 0 ∨ gen = 1 := by omega
  · unfold gnC
    rw [List.getElem?_append_left (by simp [e1, e2]; omega), List.getElem?_append_left (by simp [e1]; omega), List.getElem?_append_right (by simp)]
    simpa [gnKey] using hj
  · unfold gnC
    rw [List.getElem?_append_left (by simp [e1, e2]; omega), List.getElem?_append_right (by simp [e1])]
    simp [e1]
    simpa [gnKey] using hj

theorem list16 {l : List Int} (h : l.length = 16) : ∃ a b c d e f g i j k m n o p q r, l = [a, b, c, d, e, f, g, i, j, k, m, n, o, p, q, r] := by
  match l, h with
  | [a, b, c, d, e, f, g, i, j, k, m, n, o, p, q, r], _ => exact ⟨a, b, c, d, e, f, g, i, j, k, m, n, o, p, q, r, rfl⟩

set_option maxRecDepth 100000 in
set_option maxHeartbeats 1000000 in
theorem gnew_w (n : Nat) (hn : 1 ≤ n ∧ n ≤ 64) (key : List Int) (hk : okKey key) (w : World) :
    Calls Try.prog 23 #[.int .i64 n, .agg (bys key).toArray] w fun e w' => ∃ G, e = .returned (.tuple #[.pointer (some ⟨G, 0, none⟩), .int .i64 0]) ∧ w.heap.size ≤ G ∧ Obj1 w' G (gnC ⟨n, key, List.replicate 16 0, 0, false, 0, 0⟩).toArray 75 ∧ Below w.heap.size w w' := by
  obtain ⟨a, b, c, d, e, f, g, i, j, k, m, n1, o, p, q, r, rfl⟩ := list16 hk.1
  have h1 : ¬ (n : Int) < 1 := by omega
  have h2 : ¬ (64 : Int) < (n : Int) := by omega
  have d1 : decide ((n : Int) < 1) = false := by simp; omega
  have d2 : decide ((64 : Int) < (n : Int)) = false := by simp; omega
  unfold bys
  simp only [List.map_cons, List.map_nil]
  go_enter Try.func23, Try.ntmps23
  go_wp2
  go_ret2
  refine ⟨w.heap.size + 1, rfl, by omega, ?_, bl_alloc (bl_alloc (Below.refl _ _) _) _⟩
  have h := Obj1.new (w.alloc (.cells (bys [a, b, c, d, e, f, g, i, j, k, m, n1, o, p, q, r]).toArray 22)) (gnC ⟨n, [a, b, c, d, e, f, g, i, j, k, m, n1, o, p, q, r], List.replicate 16 0, 0, false, 0, 0⟩).toArray 75
  have e1 : (w.alloc (.cells (bys [a, b, c, d, e, f, g, i, j, k, m, n1, o, p, q, r]).toArray 22)).heap.size = w.heap.size + 1 := by simp
  rw [e1] at h
  exact h

set_option maxHeartbeats 1000000 in
theorem gmoving_w (G : Nat) (g : Gn) (hg : okGn g) (w : World) (h : Obj1 w G (gnC g).toArray 75) :
    Calls Try.prog 27 #[.pointer (some ⟨G, 0, none⟩)] w fun e w' => e = .returned (.bool g.mv) ∧ w = w' := by
  obtain ⟨q0, q1, q2, q3, q4⟩ := gn_cell h hg
  clear h
  go_enter Try.func27, Try.ntmps27
  go_wp2
  go_ret
  exact ⟨rfl, rfl⟩
set_option maxHeartbeats 1000000 in
theorem gold_w (G : Nat) (g : Gn) (hg : okGn g) (w : World) (h : Obj1 w G (gnC g).toArray 75) :
    Calls Try.prog 28 #[.pointer (some ⟨G, 0, none⟩)] w fun e w' => e = .returned (.int .i64 g.old) ∧ w = w' := by
  obtain ⟨q0, q1, q2, q3, q4⟩ := gn_cell h hg
  clear h
  go_enter Try.func28, Try.ntmps28
  go_wp2
  go_ret
  exact ⟨rfl, rfl⟩
set_option maxHeartbeats 1000000 in
theorem gepoch_w (G : Nat) (g : Gn) (hg : okGn g) (w : World) (h : Obj1 w G (gnC g).toArray 75) :
    Calls Try.prog 29 #[.pointer (some ⟨G, 0, none⟩)] w fun e w' => e = .returned (.int .i64 g.ep) ∧ w = w' := by
  obtain ⟨q0, q1, q2, q3, q4⟩ := gn_cell h hg
  clear h
  go_enter Try.func29, Try.ntmps29
  go_wp2
  go_ret
  exact ⟨rfl, rfl⟩

/-- A flow's class in a generation. -/
def classV (g : Gn) (gen : Nat) (f : Fl) : Int := (gen : Int) * (g.bk : Int) + fallV (gnKey g gen) f 0 g.bk

set_option maxRecDepth 100000 in
set_option maxHeartbeats 2000000 in
theorem class_w (G : Nat) (g : Gn) (hg : okGn g) (gen : Nat) (hgen : gen ≤ 1) (f : Fl) (hf : okFl f) (w : World) (h : Obj1 w G (gnC g).toArray 75) :
    Calls Try.prog 39 #[.pointer (some ⟨G, 0, none⟩), .int .i64 gen, .agg (flC f).toArray] w fun e w' => e = .returned (.int .i64 (classV g gen f)) ∧ Below w.heap.size w w' := by
  have hb1 : 1 ≤ g.bk ∧ g.bk ≤ 64 := hg.1
  have hkey := ok_gnKey hg gen
  have hfr := fallV_range (gnKey g gen) f 0 g.bk (by omega)
  have HCV := Lib.hid (show classV g gen f = (gen : Int) * (g.bk : Int) + fallV (gnKey g gen) f 0 g.bk from rfl)
  obtain ⟨X, hX⟩ : ∃ X, fallV (gnKey g gen) f 0 g.bk = X := ⟨_, rfl⟩
  rw [hX] at hfr
  obtain ⟨P, hP⟩ : ∃ P, P = gen * g.bk := ⟨_, rfl⟩
  have hP2 : (gen : Int) * (g.bk : Int) = (P : Int) := by rw [hP]; exact (Int.natCast_mul _ _).symm
  have hP3 : P ≤ 64 := by
    obtain rfl | rfl : gen = 0 ∨ gen = 1 := by omega
    · rw [hP]; omega
    · rw [hP]; omega
  have a1 : IntKind.i64.wrap ((gen : Int) * (g.bk : Int)) = (P : Int) := by rw [hP2]; exact IntWalk.i64_in _ (by omega)
  have a2 : IntKind.i64.wrap ((P : Int) + X) = (P : Int) + X := IntWalk.i64_in _ (by omega)
  have HP2 := Lib.hid hP2
  have HXX := Lib.hid hX
  have HFS := Lib.hid (fl_size hf)
  have HO1 := Lib.hid (h.alloc (.cells (flC f).toArray 34))
  have HO2 := Lib.hid (Obj1.new w (flC f).toArray 34)
  have HB := Lib.hid (bl_alloc (Below.refl w.heap.size w) (.cells (flC f).toArray 34))
  have hKI : (Try.prog.info? 22).map (·.size) = some (bys (gnKey g gen)).length := by rw [bys_length, hkey.1]; rfl
  have HKI := Lib.hid hKI
  have HG0 := Lib.hid (show (0 : Int) ≤ (gen : Int) ∧ (gen : Int) < 2 by omega)
  obtain ⟨g0, g1⟩ := HG0.out
  clear h hP2 hX hP hKI
  go_enter Try.func39, Try.ntmps39
  go_wp2_with fail
  refine wp_region_held_drew (S := (fun w' => Obj1 w' G (gnC g).toArray 75 ∧ Obj1 w' w.heap.size (flC f).toArray 34)) (by kernel_rfl) (⟨HO1.out.drewN 1, HO2.out.drewN 1⟩) (fun hHeld => ?_)
  generalize hW0 : World.drew _ = W0 at hHeld ⊢
  have HB0 : Below w.heap.size w W0 := by rw [← hW0]; exact HB.out.drew
  have HX := Lib.hid hHeld
  clear hW0 hHeld HO1 HO2 HB
  refine wpAnyH_take (i := 0) (v := ?_) rfl (by kernel_rfl) (by kernel_rfl) (by kernel_rfl) (fun _ _ _ h => h) (Or.inl ⟨by rfl, ?_⟩) HX.out ?_
  rotate_left
  · intro w hSw; obtain ⟨q0, q1, q2, q3, q4⟩ := gn_cell hSw.1 hg; go_simp
    try with_reducible rfl
  go_simp
  refine wpAnyH_take (i := 1) (v := ?_) rfl (by kernel_rfl) (by kernel_rfl) (by kernel_rfl) (fun _ _ _ h => h) (Or.inl ⟨by rfl, ?_⟩) HX.out ?_
  rotate_left
  · intro w hSw; obtain ⟨q0, q1, q2, q3, q4⟩ := gn_cell hSw.1 hg; go_simp
    try with_reducible rfl
  go_simp
  refine wpAnyH_take (i := 2) (v := ?_) rfl (by kernel_rfl) (by kernel_rfl) (by kernel_rfl) (fun _ _ _ h => h) (Or.inl ⟨by rfl, ?_⟩) HX.out ?_
  rotate_left
  · intro w hSw; obtain ⟨q0, q1, q2, q3, q4⟩ := gn_cell hSw.1 hg; go_simp
    try with_reducible rfl
  go_simp
  refine wpAnyH_take (i := 3) (v := ?_) rfl (by kernel_rfl) (by kernel_rfl) (by kernel_rfl) (fun _ _ _ h => h) (Or.inl ⟨by rfl, ?_⟩) HX.out ?_
  rotate_left
  · intro w hSw; obtain ⟨q0, q1, q2, q3, q4⟩ := gn_cell hSw.1 hg; go_simp
    try with_reducible rfl
  go_simp
  refine wpAnyH_take (i := 4) (v := ?_) rfl (by kernel_rfl) (by kernel_rfl) (by kernel_rfl) (fun _ _ _ h => h) (Or.inl ⟨by rfl, ?_⟩) HX.out ?_
  rotate_left
  · intro w hSw; obtain ⟨q0, q1, q2, q3, q4⟩ := gn_cell hSw.1 hg; go_simp
    try with_reducible rfl
  go_simp
  refine wpAnyH_take (i := 5) (v := ?_) rfl (by kernel_rfl) (by kernel_rfl) (by kernel_rfl) (fun _ _ _ h => h) (Or.inl ⟨by rfl, ?_⟩) HX.out ?_
  rotate_left
  · intro w hSw; obtain ⟨q0, q1, q2, q3, q4⟩ := gn_cell hSw.1 hg; go_simp
    try with_reducible rfl
  go_simp
  refine wpAnyH_take (i := 6) (v := ?_) rfl (by kernel_rfl) (by kernel_rfl) (by kernel_rfl) (fun _ _ _ h => h) (Or.inl ⟨by rfl, ?_⟩) HX.out ?_
  rotate_left
  · intro w hSw; obtain ⟨q0, q1, q2, q3, q4⟩ := gn_cell hSw.1 hg; go_simp
    try with_reducible rfl
  go_simp
  refine wpAnyH_take (i := 7) (v := ?_) rfl (by kernel_rfl) (by kernel_rfl) (by kernel_rfl) (fun _ _ _ h => h) (Or.inl ⟨by rfl, ?_⟩) HX.out ?_
  rotate_left
  · intro w hSw; obtain ⟨q0, q1, q2, q3, q4⟩ := gn_cell hSw.1 hg; go_simp
    try with_reducible rfl
  go_simp
  refine wpAnyH_take (i := 8) (v := ?_) rfl (by kernel_rfl) (by kernel_rfl) (by kernel_rfl) (fun _ _ _ h => h) (Or.inl ⟨by rfl, ?_⟩) HX.out ?_
  rotate_left
  · intro w hSw; obtain ⟨q0, q1, q2, q3, q4⟩ := gn_cell hSw.1 hg; go_simp
    try with_reducible rfl
  go_simp
  refine wpAnyH_take (i := 9) (v := ?_) rfl (by kernel_rfl) (by kernel_rfl) (by kernel_rfl) (fun _ _ _ h => h) (Or.inl ⟨by rfl, ?_⟩) HX.out ?_
  rotate_left
  · intro w hSw; obtain ⟨q0, q1, q2, q3, q4⟩ := gn_cell hSw.1 hg; go_simp
    try with_reducible rfl
  go_simp
  refine wpAnyH_take (i := 10) (v := ?_) rfl (by kernel_rfl) (by kernel_rfl) (by kernel_rfl) (fun _ _ _ h => h) (Or.inl ⟨by rfl, ?_⟩) HX.out ?_
  rotate_left
  · intro w hSw; obtain ⟨q0, q1, q2, q3, q4⟩ := gn_cell hSw.1 hg; go_simp
    try with_reducible rfl
  go_simp
  refine wpAnyH_take (i := 11) (v := .agg (bys (gnKey g gen)).toArray) rfl (by kernel_rfl) (by kernel_rfl) (by kernel_rfl) (fun _ _ _ h => h) (Or.inl ⟨by rfl, ?_⟩) HX.out ?_
  · intro w' hSw
    have hld := run_loadVar_cells (P := Try.prog) w' ⟨G, 1 + gen * 16, none⟩ 22 (bys (gnKey g gen)) _ (gn_key hSw.1 hg gen hgen) Try.underlying22 rfl HKI.out
    simp [execOp, Act.eval, Instr.loadAt, Instr.sureAddr, Sem.run_bind, hld, Result.andThen]
  go_simp
  refine wpAnyH_take (i := 12) (v := .agg (flC f).toArray) rfl (by kernel_rfl) (by kernel_rfl) (by kernel_rfl) (fun _ _ _ h => h) (Or.inl ⟨by rfl, ?_⟩) HX.out ?_
  · intro w' hSw
    have hld := run_loadVar_row (P := Try.prog) w' w.heap.size 34 34 (flC f).toArray (0, 0) _ hSw.2 Try.underlying34 rfl HFS.out
    simp [execOp, Act.eval, Instr.loadAt, Instr.sureAddr, Sem.run_bind, hld, Result.andThen]
  go_simp
  refine wpAnyH_take (i := 13) (v := ?_) rfl (by kernel_rfl) (by kernel_rfl) (by kernel_rfl) (fun _ _ _ h => h) (Or.inl ⟨by rfl, ?_⟩) HX.out ?_
  rotate_left
  · intro w hSw; obtain ⟨q0, q1, q2, q3, q4⟩ := gn_cell hSw.1 hg; go_simp
    try with_reducible rfl
  go_simp
  refine wpAnyH_take (i := 14) (v := ?_) rfl (by kernel_rfl) (by kernel_rfl) (by kernel_rfl) (fun _ _ _ h => h) (Or.inl ⟨by rfl, ?_⟩) HX.out ?_
  rotate_left
  · intro w hSw; obtain ⟨q0, q1, q2, q3, q4⟩ := gn_cell hSw.1 hg; go_simp
    try with_reducible rfl
  go_simp
  refine wpAnyH_take (i := 15) (v := ?_) rfl (by kernel_rfl) (by kernel_rfl) (by kernel_rfl) (fun _ _ _ h => h) (Or.inl ⟨by rfl, ?_⟩) HX.out ?_
  rotate_left
  · intro w hSw; obtain ⟨q0, q1, q2, q3, q4⟩ := gn_cell hSw.1 hg; go_simp
    try with_reducible rfl
  go_simp
  refine wpAnyH_take (i := 16) (v := ?_) rfl (by kernel_rfl) (by kernel_rfl) (by kernel_rfl) (fun _ _ _ h => h) (Or.inl ⟨by rfl, ?_⟩) HX.out ?_
  rotate_left
  · intro w hSw; obtain ⟨q0, q1, q2, q3, q4⟩ := gn_cell hSw.1 hg; go_simp
    try with_reducible rfl
  go_simp
  refine wpAnyH_ready (rs := [17]) (by kernel_rfl) (by simp) ?_
  refine AllReadyH.cons rfl (fun K hK => ?_) AllReadyH.nil
  go_simp
  refine (bucket_w (gnKey g gen) hkey.1 hkey.2 f hf g.bk (by omega) (by omega) _).mono ?_
  rintro e W1 ⟨rfl, hb⟩
  have HBq := Lib.hid hb
  clear hb
  dsimp only
  refine hK.out _ _ (⟨HX.out.1.below HBq.out, HX.out.2.below HBq.out⟩) (fun hHeld => ?_)
  have HX1 := Lib.hid hHeld
  clear hK K hHeld
  rw [HXX.out]
  go_simp
  refine wpAnyH_take (i := 18) (v := ?_) rfl (by kernel_rfl) (by kernel_rfl) (by kernel_rfl) (fun _ _ _ h => h) (Or.inl ⟨by rfl, ?_⟩) HX1.out ?_
  rotate_left
  · intro w hSw; obtain ⟨q0, q1, q2, q3, q4⟩ := gn_cell hSw.1 hg; go_simp
    try with_reducible rfl
  go_simp
  refine wpAnyH_take (i := 19) (v := ?_) rfl (by kernel_rfl) (by kernel_rfl) (by kernel_rfl) (fun _ _ _ h => h) (Or.inl ⟨by rfl, ?_⟩) HX1.out ?_
  rotate_left
  · intro w hSw; obtain ⟨q0, q1, q2, q3, q4⟩ := gn_cell hSw.1 hg; go_simp
    try with_reducible rfl
  go_simp
  refine wpAnyH_done (by kernel_rfl) ?_ _
  go_wp2
  go_ret
  exact ⟨by rw [HCV.out, HXX.out, HP2.out]; rfl, bl_next HB0 HBq.out⟩
end Go.Proofs.Ytgbdkleckmilkaa
