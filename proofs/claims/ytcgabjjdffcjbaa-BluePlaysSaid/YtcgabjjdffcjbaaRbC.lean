/- The document's Blue: a flow's bins. -/
import Derived.Test.YtcgabjjdffcjbaaRbB
namespace Go.Proofs.Ytcgabjjdffcjbaa
open Go.RowKit
set_option linter.unusedVariables false
set_option linter.unusedSimpArgs false

theorem bnC_one (l : List Bn) : ∀ v ∈ fl bnC l, v.oneCell' = true := fl_oneCell (fun x _ v hv => by
  simp [bnC] at hv
  rcases hv with rfl | rfl | rfl <;> rfl)
theorem bnC_one1 (x : Bn) : ∀ v ∈ bnC x, v.oneCell' = true := by
  intro v hv
  simp [bnC] at hv
  rcases hv with rfl | rfl | rfl <;> rfl
/-- A bin of a flow, wherever it lies. -/
theorem SlB.bin {lo : Nat} {w : World} {A : Option Addr} {nl c nb : Nat} {ls : List (List Bn)} {ks : List Int} (h : SlB lo w A nl c ls) (hr : ∀ l ∈ ls, l.length = nb) {k : Nat} (hk : k < nl) (hx : 0 ≤ nth ks k ∧ nth ks k < (nb : Int)) :
    ∃ b o b1 o1 d i, A = some ⟨b, o, none⟩ ∧ w.cell? ⟨b, o + k, none⟩ = some (.slice (some ⟨b1, o1, none⟩) nb d) ∧ nth ks k = ((i : Nat) : Int) ∧ i < nb ∧ w.cell? ⟨b1, o1 + i * 3, none⟩ = some (.int .i64 (binAt ls ks k).n) ∧ w.cell? ⟨b1, o1 + i * 3 + 1, none⟩ = some (.int .i64 (binAt ls ks k).c) ∧ w.cell? ⟨b1, o1 + i * 3 + 2, none⟩ = some (.int .i64 (binAt ls ks k).p) := by
  obtain ⟨l, hl⟩ : ∃ l, ls[k]? = some l := ⟨_, List.getElem?_eq_getElem (by rw [h.len]; exact hk)⟩
  have hll : l.length = nb := hr l (List.mem_of_getElem? hl)
  obtain ⟨b, o, a, m, d, e, hc, hs⟩ := h.at hl
  obtain rfl : nb = m := by rw [← hll, hs.1]
  obtain ⟨i, hi⟩ : ∃ i : Nat, nth ks k = (i : Int) := ⟨(nth ks k).toNat, by omega⟩
  have hib : i < nb := by omega
  have hbin : l[i]? = some (binAt ls ks k) := by
    unfold binAt
    rw [hl, hi]
    simp only [Option.getD_some, Int.toNat_natCast]
    rw [List.getElem?_eq_getElem (by omega)]
    rfl
  obtain ⟨b1, o1, rfl, r0, r1, r2⟩ := hs.bn hbin
  exact ⟨b, o, b1, o1, d, i, e, hc, hi, hib, r0, r1, r2⟩

set_option maxRecDepth 100000 in
set_option maxHeartbeats 4000000 in
theorem rof_w (target hold up down : Int) (A A1 : Option Addr) (nl c n c1 nb lo : Nat) (ls : List (List Bn)) (ks : List Int) (hnl : 1 ≤ nl ∧ nl ≤ 4) (hnb : 1 ≤ nb ∧ nb ≤ 64) (hf : flowsB nl nb ks = true) (w : World) (h : SlB lo w A nl c ls) (hs : SlI .i64 w A1 n c1 ks) (hr : ∀ l ∈ ls, l.length = nb) :
    Calls Try.prog 47 #[.agg (rbC A nl c target hold up down), .slice A1 n c1] w fun e w' => ∃ v, e = .returned v ∧ w'.ownsRow w.heap.size 87 3 v nl (fl bnC (ofN ls ks nl)) ∧ Below w.heap.size w w' := by
  have HS := Lib.hid h
  have HI := Lib.hid hs
  have HR := Lib.hid hr
  have hnn : n = nl := hs.1.symm.trans (flowsB_at hf).1
  subst hnn
  have HK := Lib.hid (flowsB_at hf).2
  obtain ⟨W, hW⟩ : ∃ W, W = w.alloc (.cells (rbC A n c target hold up down) 65) := ⟨_, rfl⟩
  have HB := Lib.hid (show Below w.heap.size w W by rw [hW]; exact bl_alloc (Below.refl w.heap.size w) _)
  have HO := Lib.hid (show Obj1 W w.heap.size (rbC A n c target hold up down) 65 by rw [hW]; exact Obj1.new w _ _)
  have HW := Lib.hid hW
  clear hW h hs hr hf
  go_enter Try.func47, Try.ntmps47
  go_upto_region 1 with (fail)
  rw [← HW.out]
  clear HW
  go_wp2_with fail
  go_loopw [5, 9] (fun v i wr => ∃ (k : Nat), k ≤ n ∧ i = .int .i64 k ∧ wr.ownsRow w.heap.size 87 3 v k (fl bnC (ofN ls ks k)) ∧ Below w.heap.size w wr ∧ Obj1 wr w.heap.size (rbC A n c target hold up down) 65) (fun _ i _ => n - (intOf i).toNat)
  case atStart => exact ⟨0, Nat.zero_le _, rfl, World.ownsRow_nil _ _ _ _, HB.out, HO.out⟩
  case round =>
    obtain ⟨k, hk, rfl, hA, hB, hO⟩ := hrel
    have HA := Lib.hid hA
    have HX := Lib.hid (And.intro hB hO)
    clear hA hB hO
    by_cases hlt : k < n
    · have hk0 : (0 : Int) ≤ (k : Int) := Int.natCast_nonneg k
      have hk1 : (k : Int) < (n : Int) := by omega
      obtain ⟨b0, o0, b1, o1, d, i, rfl, ra, hi, hib, r0, r1, r2⟩ := HS.out.bin HR.out hlt (HK.out k hlt)
      obtain ⟨ad, rfl, rb, _⟩ := HI.out.at k hlt
      rw [hi] at rb
      have HII := Lib.hid hi
      have RA := Lib.hid ra
      have RB := Lib.hid rb
      have RC := Lib.hid (And.intro r0 (And.intro r1 r2))
      have hi0 : (0 : Int) ≤ (i : Int) := Int.natCast_nonneg i
      have hi1 : (i : Int) < (nb : Int) := by omega
      clear ra rb r0 r1 r2 hi

      go_wp2_with fail

      refine wp_region_held_drew (S := fun w' => Below w.heap.size w w' ∧ Obj1 w' w.heap.size (rbC (some ⟨b0, o0, none⟩) n c target hold up down) 65) (by kernel_rfl) (⟨HX.out.1.drew, HX.out.2⟩) (fun hHeld => ?_)
      have HX := Lib.hid hHeld
      clear hHeld
      have hq : World.ownsRow _ w.heap.size 87 3 u5 k (fl bnC (ofN ls ks k)) := HA.out.drew
      clear HA
      have HA := Lib.hid hq
      clear hq
      generalize hWd : World.drew _ = W at HX HA ⊢
      clear hWd
      refine wpAnyH_take (i := 0) (v := ?_) rfl (by kernel_rfl) (by kernel_rfl) (by kernel_rfl) (fun _ _ _ h => h) (Or.inl ⟨by rfl, ?_⟩) HX.out ?_
      rotate_left
      · intro w' hSw; go_simp
        try with_reducible rfl
      go_simp
      refine wpAnyH_take (i := 1) (v := ?_) rfl (by kernel_rfl) (by kernel_rfl) (by kernel_rfl) (fun _ _ _ h => h) (Or.inl ⟨by rfl, ?_⟩) HX.out ?_
      rotate_left
      · intro w' hSw; go_simp
        try with_reducible rfl
      go_simp
      refine wpAnyH_take (i := 2) (v := ?_) rfl (by kernel_rfl) (by kernel_rfl) (by kernel_rfl) (fun _ _ _ h => h) (Or.inl ⟨by rfl, ?_⟩) HX.out ?_
      rotate_left
      · intro w' hSw; have c0 : w'.cell? ⟨w.heap.size, 0, none⟩ = some (.slice (some ⟨b0, o0, none⟩) n c) := hSw.2.cell 0; go_simp
        try with_reducible rfl
      go_simp
      refine wpAnyH_take (i := 3) (v := ?_) rfl (by kernel_rfl) (by kernel_rfl) (by kernel_rfl) (fun _ _ _ h => h) (Or.inl ⟨by rfl, ?_⟩) HX.out ?_
      rotate_left
      · intro w' hSw; go_simp
        try with_reducible rfl
      go_simp
      refine wpAnyH_take (i := 4) (v := ?_) rfl (by kernel_rfl) (by kernel_rfl) (by kernel_rfl) (fun _ _ _ h => h) (Or.inl ⟨by rfl, ?_⟩) HX.out ?_
      rotate_left
      · intro w' hSw; go_simp
        try with_reducible rfl
      go_simp
      refine wpAnyH_take (i := 5) (v := ?_) rfl (by kernel_rfl) (by kernel_rfl) (by kernel_rfl) (fun _ _ _ h => h) (Or.inl ⟨by rfl, ?_⟩) HX.out ?_
      rotate_left
      · intro w' hSw; have c1 := bl_keeps hSw.1 RA.out; go_simp
        try with_reducible rfl
      go_simp
      refine wpAnyH_take (i := 6) (v := ?_) rfl (by kernel_rfl) (by kernel_rfl) (by kernel_rfl) (fun _ _ _ h => h) (Or.inl ⟨by rfl, ?_⟩) HX.out ?_
      rotate_left
      · intro w' hSw; go_simp
        try with_reducible rfl
      go_simp
      refine wpAnyH_take (i := 7) (v := ?_) rfl (by kernel_rfl) (by kernel_rfl) (by kernel_rfl) (fun _ _ _ h => h) (Or.inl ⟨by rfl, ?_⟩) HX.out ?_
      rotate_left
      · intro w' hSw; go_simp
        try with_reducible rfl
      go_simp
      refine wpAnyH_take (i := 8) (v := ?_) rfl (by kernel_rfl) (by kernel_rfl) (by kernel_rfl) (fun _ _ _ h => h) (Or.inl ⟨by rfl, ?_⟩) HX.out ?_
      rotate_left
      · intro w' hSw; go_simp
        try with_reducible rfl
      go_simp
      refine wpAnyH_take (i := 9) (v := ?_) rfl (by kernel_rfl) (by kernel_rfl) (by kernel_rfl) (fun _ _ _ h => h) (Or.inl ⟨by rfl, ?_⟩) HX.out ?_
      rotate_left
      · intro w' hSw; have c2 := bl_keeps hSw.1 RB.out; go_simp
        try with_reducible rfl
      go_simp
      refine wpAnyH_take (i := 10) (v := ?_) rfl (by kernel_rfl) (by kernel_rfl) (by kernel_rfl) (fun _ _ _ h => h) (Or.inl ⟨by rfl, ?_⟩) HX.out ?_
      rotate_left
      · intro w' hSw; go_simp
        try with_reducible rfl
      go_simp
      refine wpAnyH_take (i := 11) (v := .agg #[.int .i64 (binAt ls ks k).n, .int .i64 (binAt ls ks k).c, .int .i64 (binAt ls ks k).p]) rfl (by kernel_rfl) (by kernel_rfl) (by kernel_rfl) (fun _ _ _ h => h) (Or.inl ⟨by rfl, ?_⟩) HX.out ?_
      · intro w' hSw
        have hld := run_loadVar_cells (P := Try.prog) w' ⟨b1, o1 + i * 3, none⟩ 87 [.int .i64 (binAt ls ks k).n, .int .i64 (binAt ls ks k).c, .int .i64 (binAt ls ks k).p] _ (three_cells (bl_keeps hSw.1 RC.out.1) (bl_keeps hSw.1 RC.out.2.1) (bl_keeps hSw.1 RC.out.2.2)) Try.underlying87 rfl (by kernel_rfl)
        simp [execOp, Act.eval, Instr.loadAt, Instr.sureAddr, Sem.run_bind, hld, Result.andThen]
      go_simp
      refine wpAnyH_ready (rs := [12]) (by kernel_rfl) (by simp) ?_
      refine AllReadyH.cons rfl (fun K hK => ?_) AllReadyH.nil
      go_simp
      have hL := lit_rd W (bnC (binAt ls ks k)) 87
      have hb := bl_alloc (Below.refl W.heap.size W) (.cells (bnC (binAt ls ks k)).toArray 87)
      obtain ⟨gL, hgL⟩ : ∃ gL, gL = W.heap.size := ⟨_, rfl⟩
      rw [← hgL] at hL
      change K _ (W.alloc (.cells (bnC (binAt ls ks k)).toArray 87))
      rw [← hgL]
      generalize hWn : World.alloc _ _ = W1 at hL hb ⊢
      clear hWn hgL
      have hX : Below w.heap.size w _ ∧ Obj1 _ w.heap.size (rbC (some ⟨b0, o0, none⟩) n c target hold up down) 65 := ⟨bl_next HX.out.1 hb, HX.out.2.below hb⟩
      have hq := own_below HA.out hb
      clear HA
      have HA := Lib.hid hq
      clear hq
      have HL := Lib.hid hL
      clear hL hb
      refine hK.out _ _ (hX) (fun hHeld => ?_)
      clear HX hK K
      have HX := Lib.hid hHeld
      clear hHeld
      go_simp
      refine wpAnyH_ready (rs := [13]) (by kernel_rfl) (by simp) ?_
      refine AllReadyH.cons rfl (fun K hK => ?_) AllReadyH.nil
      refine app_step w.heap.size rfl (.tmp 12) (.tmp 24) 84 87 (.agg #[.int .i64 0, .int .i64 0, .int .i64 0]) 3 24 rfl Try.underlying84 (by kernel_rfl) (by simp [Value.cells]) (by omega) (by omega) u5 k (fl bnC (ofN ls ks k)) (some ⟨gL, 0, none⟩) 1 1 (bnC (binAt ls ks k)) rfl rfl HA.out (rfl) (HL.out) (bnC_one1 _) (by omega) HX.out.1.size ?_
      intro vB W1 hA hg
      have hX : Below w.heap.size w W1 ∧ Obj1 W1 w.heap.size (rbC (some ⟨b0, o0, none⟩) n c target hold up down) 65 := ⟨bl_grown HX.out.1 HA.out hg (Nat.le_refl _), HX.out.2.of_grown hg (own_neO HX.out.2 HA.out (by decide))⟩
      clear HA HL hg
      have HA := Lib.hid hA
      clear hA
      refine hK.out _ _ (hX) (fun hHeld => ?_)
      clear HX hK K
      have HX := Lib.hid hHeld
      clear hHeld
      go_simp
      refine wpAnyH_take (i := 14) (v := ?_) rfl (by kernel_rfl) (by kernel_rfl) (by kernel_rfl) (fun _ _ _ h => h) (Or.inl ⟨by rfl, ?_⟩) HX.out ?_
      rotate_left
      · intro w' hSw; go_simp
        try with_reducible rfl
      go_simp
      refine wpAnyH_done (by kernel_rfl) ?_ _
      go_wp2_with fail
      go_roundw
      case rel => exact ⟨k + 1, by omega, by go_num, by rw [ofN, fl_app, fl_one]; exact HA.out, HX.out.1, HX.out.2⟩
      case measure => simp [intOf]; omega
    · obtain rfl : k = n := by omega
      go_wp2
      go_ret
      exact ⟨_, rfl, HA.out, HX.out.1⟩
end Go.Proofs.Ytcgabjjdffcjbaa
