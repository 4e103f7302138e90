/- A new key. -/
import Derived.Test.YtgbdkleckmilkaaGenC
import Derived.Deep.MidRow
namespace Go.Proofs.Ytgbdkleckmilkaa
open Go.RowKit
set_option linter.unusedVariables false
set_option linter.unusedSimpArgs false

theorem setCells_mid (p : Nat) (t : TypeId) : ∀ (cs : List Value) (i : Nat) (old : Array Value) (w : World), Obj1 w p old t → i + cs.length ≤ old.size →
    Obj1 (w.setCells p i cs) p ((old.toList.take i ++ (cs ++ old.toList.drop (i + cs.length))).toArray) t ∧ Upd p w (w.setCells p i cs)
  | [], i, old, w, h, hl => by
    refine ⟨?_, Upd.refl _ _⟩
    simp only [World.setCells, List.nil_append, List.length_nil, Nat.add_zero, List.take_append_drop]
    simpa using h
  | v :: cs, i, old, w, h, hl => by
    simp at hl
    have h1 := h.set i v
    have h2 := setCells_mid p t cs (i + 1) (old.setIfInBounds i v) (w.setCell ⟨p, i, none⟩ v) h1 (by simp; omega)
    refine ⟨?_, ((Upd.refl p w).set i v).trans h2.2⟩
    have e : (old.setIfInBounds i v).toList.take (i + 1) ++ (cs ++ (old.setIfInBounds i v).toList.drop (i + 1 + cs.length)) = old.toList.take i ++ (v :: cs ++ old.toList.drop (i + (v :: cs).length)) := by
      have hi : i < old.toList.length := by simp; omega
      have e1 : (old.toList.set i v).take (i + 1) = old.toList.take i ++ [v] := by
        apply List.ext_getElem?
        intro j
        rcases Nat.lt_trichotomy j i with h | h | h
        · rw [List.getElem?_append_left (by simp; omega), List.getElem?_take, List.getElem?_take, if_pos (by omega), if_pos h, List.getElem?_set_ne (by omega)]
        · subst h
          rw [List.getElem?_append_right (by simp; omega), List.getElem?_take, if_pos (by omega), List.getElem?_set_self hi]
          rw [List.length_take, Nat.min_eq_left (Nat.le_of_lt hi), Nat.sub_self]
          rfl
        · rw [List.getElem?_eq_none (by simp; omega), List.getElem?_eq_none (by simp; omega)]
      rw [Array.toList_setIfInBounds, e1, List.drop_set_of_lt (by omega)]
      simp [Nat.add_assoc, Nat.add_comm 1]
    rw [← e]
    exact h2.1

/-- With another key in a generation. -/
def gnWith (g : Gn) (gen : Nat) (key : List Int) : Gn := if gen = 0 then { g with k0 := key } else { g with k1 := key }
/-- Behind a Rekey (of those that don't move). -/
def gnRe (g : Gn) (key : List Int) : Gn := { gnWith g (1 - g.old) key with mv := true, md := 0 }
theorem ok_with {g : Gn} (h : okGn g) (gen : Nat) {key : List Int} (hk : okKey key) : okGn (gnWith g gen key) := by
  unfold gnWith
  split
  · exact ⟨h.1, hk, h.2.2⟩
  · exact ⟨h.1, h.2.1, hk, h.2.2.2⟩
theorem with_cells {g : Gn} (h : okGn g) (gen : Nat) (hgen : gen ≤ 1) {key : List Int} (hk : okKey key) :
    (gnC g).take (1 + gen * 16) ++ (bys key ++ (gnC g).drop (1 + gen * 16 + (bys key).length)) = gnC (gnWith g gen key) := by
  have e1 := bys_length g.k0
  have e2 := bys_length g.k1
  have e3 := bys_length key
  rw [h.2.1.1] at e1
  rw [h.2.2.1.1] at e2
  rw [hk.1] at e3
  rw [e3]
  obtain rfl | rfl : gen = 0 ∨ gen = 1 := by omega
  · unfold gnWith gnC
    rw [if_pos rfl]
    generalize bys g.k0 = a at *
    generalize bys g.k1 = b at *
    generalize bys key = c at *
    have d1 : a.drop 16 = [] := List.drop_of_length_le (by omega)
    simp [List.take_append, List.drop_append, e1, e2, e3, d1]
  · unfold gnWith gnC
    rw [if_neg (by omega)]
    generalize bys g.k0 = a at *
    generalize bys g.k1 = b at *
    generalize bys key = c at *
    have d1 : a.take 16 = a := List.take_of_length_le (by omega)
    have d2 : a.drop 32 = [] := List.drop_of_length_le (by omega)
    have d3 : b.drop 16 = [] := List.drop_of_length_le (by omega)
    simp [List.take_append, List.drop_append, e1, e2, e3, d1, d2, d3]

set_option maxHeartbeats 1000000 in
theorem rekey_busy_w (G : Nat) (g : Gn) (hg : okGn g) (hmv : g.mv = true) (key : List Int) (hk : okKey key) (w : World) (h : Obj1 w G (gnC g).toArray 75) :
    Calls Try.prog 25 #[.pointer (some ⟨G, 0, none⟩), .agg (bys key).toArray] w fun e w' => e = .returned (.int .i64 4) ∧ Below w.heap.size w w' := by
  obtain ⟨q0, q1, q2, q3, q4⟩ := gn_cell (h.alloc (.cells (bys key).toArray 22)) hg
  rw [hmv] at q2
  clear h
  go_enter Try.func25, Try.ntmps25
  go_wp2
  go_ret
  exact ⟨rfl, bl_alloc (Below.refl _ _) _⟩

theorem gwanted {P : Program} {o : Oper} {ops : Array Oper} {a : Act} {w : World} {K : Act → World → Prop} {Q : Exit → Act → World → Prop} {E : Prop} (hgd : o.guard = none) (h : Oper.wp P o a w K Q) : if Region.wanted o (yielded ops a.tmps) = true then Oper.wp P o a w K Q else E := by
  have hw : Region.wanted o (yielded ops a.tmps) = true := by simp [Region.wanted, hgd]
  rw [if_pos hw]
  exact h

set_option maxRecDepth 100000 in
set_option maxHeartbeats 1000000 in
theorem rekey_w (G : Nat) (g : Gn) (hg : okGn g) (hmv : g.mv = false) (key : List Int) (hk : okKey key) (w : World) (h : Obj1 w G (gnC g).toArray 75) :
    Calls Try.prog 25 #[.pointer (some ⟨G, 0, none⟩), .agg (bys key).toArray] w fun e w' => e = .returned (.int .i64 0) ∧ Obj1 w' G (gnC (gnRe g key)).toArray 75 ∧ Upd G w w' := by
  have hold : g.old ≤ 1 := hg.2.2.2.1
  have h0 := h.alloc (.cells (bys key).toArray 22)
  obtain ⟨q0, q1, q2, q3, q4⟩ := gn_cell h0 hg
  rw [hmv] at q2
  obtain ⟨N1, hN1⟩ : ∃ N1, N1 = 1 - g.old := ⟨_, rfl⟩
  have hN1b : N1 ≤ 1 := by omega
  have a4 : IntKind.i64.wrap (1 - (g.old : Int)) = (N1 : Int) := by rw [show 1 - (g.old : Int) = (N1 : Int) by omega]; exact IntWalk.i64_in _ (by omega)
  have n0 : (0 : Int) ≤ (N1 : Int) := Int.natCast_nonneg N1
  have n1 : (N1 : Int) < 2 := by omega
  have HK := Lib.hid (Obj1.new w (bys key).toArray 22)
  have HKS := Lib.hid (key_size hk.1)
  have H := Lib.hid h0
  have HU := Lib.hid ((Upd.refl G w).alloc (.cells (bys key).toArray 22))
  have HRE := Lib.hid (show gnRe g key = { gnWith g N1 key with mv := true, md := 0 } by unfold gnRe; rw [hN1])
  have how := ok_with hg N1 hk
  have hGlt : G < w.heap.size := h.lt
  clear h h0 hN1
  go_enter Try.func25, Try.ntmps25
  go_wp2_with fail
  refine wp_region_held_drew (S := (fun w' => Obj1 w' w.heap.size (bys key).toArray 22 ∧ w'.cell? ⟨G, 33, none⟩ = some (.int .i64 g.old))) (by kernel_rfl) (⟨HK.out.drewN 1, q1⟩) (fun hHeld => ?_)
  obtain ⟨W0, hW0⟩ : ∃ W0, W0 = World.drew (w.alloc (.cells (bys key).toArray 22)) := ⟨_, rfl⟩
  have HW := Lib.hid (show Obj1 W0 G (gnC g).toArray 75 by rw [hW0]; exact H.out.drewN 1)
  have HUW := Lib.hid (show Upd G w W0 by rw [hW0]; exact HU.out.drewN 1)
  have HKW := Lib.hid (show Obj1 W0 w.heap.size (bys key).toArray 22 by rw [hW0]; exact HK.out.drewN 1)
  rw [← hW0] at hHeld ⊢
  have HX := Lib.hid hHeld
  clear hHeld hW0 q0 q1 q2 q3 q4
  refine wpAnyH_take (i := 0) (v := ?_) rfl (by kernel_rfl) (by kernel_rfl) (by kernel_rfl) (fun _ _ _ h => h) (Or.inl ⟨by rfl, ?_⟩) HX.out ?_
  rotate_left
  · intro w hSw; have hSw2 := hSw.2; go_simp
    try with_reducible rfl
  go_simp
  refine wpAnyH_take (i := 1) (v := ?_) rfl (by kernel_rfl) (by kernel_rfl) (by kernel_rfl) (fun _ _ _ h => h) (Or.inl ⟨by rfl, ?_⟩) HX.out ?_
  rotate_left
  · intro w hSw; have hSw2 := hSw.2; go_simp
    try with_reducible rfl
  go_simp
  refine wpAnyH_take (i := 2) (v := ?_) rfl (by kernel_rfl) (by kernel_rfl) (by kernel_rfl) (fun _ _ _ h => h) (Or.inl ⟨by rfl, ?_⟩) HX.out ?_
  rotate_left
  · intro w hSw; have hSw2 := hSw.2; go_simp
    try with_reducible rfl
  go_simp
  refine wpAnyH_take (i := 3) (v := ?_) rfl (by kernel_rfl) (by kernel_rfl) (by kernel_rfl) (fun _ _ _ h => h) (Or.inl ⟨by rfl, ?_⟩) HX.out ?_
  rotate_left
  · intro w hSw; have hSw2 := hSw.2; go_simp
    try with_reducible rfl
  go_simp
  refine wpAnyH_take (i := 4) (v := ?_) rfl (by kernel_rfl) (by kernel_rfl) (by kernel_rfl) (fun _ _ _ h => h) (Or.inl ⟨by rfl, ?_⟩) HX.out ?_
  rotate_left
  · intro w hSw; have hSw2 := hSw.2; go_simp
    try with_reducible rfl
  go_simp
  refine wpAnyH_take (i := 5) (v := ?_) rfl (by kernel_rfl) (by kernel_rfl) (by kernel_rfl) (fun _ _ _ h => h) (Or.inl ⟨by rfl, ?_⟩) HX.out ?_
  rotate_left
  · intro w hSw; have hSw2 := hSw.2; go_simp
    try with_reducible rfl
  go_simp
  refine wpAnyH_take (i := 6) (v := .agg (bys key).toArray) rfl (by kernel_rfl) (by kernel_rfl) (by kernel_rfl) (fun _ _ _ h => h) (Or.inl ⟨by rfl, ?_⟩) HX.out ?_
  · intro w' hSw
    have hld := run_loadVar_row (P := Try.prog) w' w.heap.size 22 22 (bys key).toArray (0, 0) _ hSw.1 Try.underlying22 rfl HKS.out
    simp [execOp, Act.eval, Instr.loadAt, Instr.sureAddr, Sem.run_bind, hld, Result.andThen]
  go_simp
  refine wpAnyH_take (i := 7) (v := ?_) rfl (by kernel_rfl) (by kernel_rfl) (by kernel_rfl) (fun _ _ _ h => h) (Or.inl ⟨by rfl, ?_⟩) HX.out ?_
  rotate_left
  · intro w hSw; have hSw2 := hSw.2; go_simp
    try with_reducible rfl
  go_simp
  refine wpAnyH_take (i := 8) (v := ?_) rfl (by kernel_rfl) (by kernel_rfl) (by kernel_rfl) (fun _ _ _ h => h) (Or.inl ⟨by rfl, ?_⟩) HX.out ?_
  rotate_left
  · intro w hSw; have hSw2 := hSw.2; go_simp
    try with_reducible rfl
  go_simp
  refine wpAnyH_take (i := 9) (v := ?_) rfl (by kernel_rfl) (by kernel_rfl) (by kernel_rfl) (fun _ _ _ h => h) (Or.inl ⟨by rfl, ?_⟩) HX.out ?_
  rotate_left
  · intro w hSw; have hSw2 := hSw.2; go_simp
    try with_reducible rfl
  go_simp
  refine wpAnyH_ready (rs := [10]) (by kernel_rfl) (by simp) ?_
  refine AllReadyH.cons rfl (fun K hK => ?_) AllReadyH.nil
  refine gwanted rfl ?_
  refine wp_store_mid 22 (.tmp 22) (.tmp 19) rfl G (1 + N1 * 16) (bys key).toArray rfl rfl (fun j hj => ?_) HKS.out (all_oneCell_toArray (bys_one key)) ?_
  · have hsz : (gnC g).toArray.size = 37 := by simp [gnC_length hg]
    have hj16 : j < 16 := by simpa [bys_length, hk.1] using hj
    have hlt : 1 + N1 * 16 + j < (gnC g).toArray.size := by
      obtain rfl | rfl : N1 = 0 ∨ N1 = 1 := by omega
      · omega
      · omega
    rw [HW.out.cell, HW.out.free]
    exact ⟨by rw [Array.getElem?_eq_getElem hlt]; rfl, rfl⟩
  show K _ (World.setCells W0 G (1 + N1 * 16) (bys key))
  have hm := setCells_mid G 75 (bys key) (1 + N1 * 16) (gnC g).toArray _ HW.out (by
    obtain rfl | rfl : N1 = 0 ∨ N1 = 1 := by omega
    · simp [gnC_length hg, bys_length, hk.1]
    · simp [gnC_length hg, bys_length, hk.1])
  have hm1 := hm.1
  have hm2 := hm.2
  rw [show (gnC g).toArray.toList = gnC g from rfl, with_cells hg N1 hN1b hk] at hm1
  have hro : (gnWith g N1 key).old = g.old := by unfold gnWith; split <;> rfl
  obtain ⟨r0, r1, r2, r3, r4⟩ := gn_cell hm1 how
  rw [hro] at r1
  refine hK.out _ _ (⟨HKW.out.of_grown hm2 (by simp; omega), r1⟩) (fun hHeld => ?_)
  clear hK K hHeld
  have f2 := hm1.free 34
  have f3 := hm1.free 35
  have HM1 := Lib.hid hm1
  have HM2 := Lib.hid (HUW.out.trans hm2)
  have hfin : ((gnC (gnWith g N1 key)).toArray.setIfInBounds 34 (.bool true)).setIfInBounds 35 (.int .i64 ((0 : Nat) : Int)) = (gnC (gnRe g key)).toArray := by
    rw [gn_set_mv how, gn_set_md (g := { gnWith g N1 key with mv := true }) how, HRE.out]
  have HFIN := Lib.hid hfin
  clear hm hm1 hm2 hfin
  generalize hW5 : World.setCells W0 G (1 + N1 * 16) (bys key) = W5 at *
  clear hW5
  go_simp
  refine wpAnyH_done (by kernel_rfl) ?_ _
  go_wp2
  go_ret
  refine ⟨rfl, ?_, (HM2.out.set 34 _).set 35 _⟩
  rw [← HFIN.out]
  exact (HM1.out.set 34 _).set 35 _
end Go.Proofs.Ytgbdkleckmilkaa
