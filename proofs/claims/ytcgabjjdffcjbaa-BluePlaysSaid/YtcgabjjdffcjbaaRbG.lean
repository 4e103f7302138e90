/- The document's Blue: Clear. -/
import Derived.Test.YtcgabjjdffcjbaaRbF
namespace Go.Proofs.Ytcgabjjdffcjbaa
open Go.RowKit
set_option linter.unusedVariables false
set_option linter.unusedSimpArgs false

set_option maxRecDepth 100000 in
set_option maxHeartbeats 1000000 in
theorem rclear_w (target hold up down : Int) (A : Option Addr) (nl c nb lo : Nat) (ls : List (List Bn)) (hnl : 1 ≤ nl ∧ nl ≤ 4) (hnb : 1 ≤ nb ∧ nb ≤ 64) (w : World) (h : SlB lo w A nl c ls) (hr : ∀ l ∈ ls, l.length = nb) :
    Calls Try.prog 32 #[.agg (rbC A nl c target hold up down)] w fun e w' => ∃ A' c', e = .returned (.agg (rbC A' nl c' target hold up down)) ∧ SlB w.heap.size w' A' nl c' (List.replicate nl (List.replicate nb (⟨0, 0, 0⟩ : Bn))) ∧ Below w.heap.size w w' := by
  obtain ⟨l, hl⟩ : ∃ l, ls[0]? = some l := ⟨_, List.getElem?_eq_getElem (by rw [h.len]; omega)⟩
  have hll : l.length = nb := hr l (List.mem_of_getElem? hl)
  obtain ⟨b0, o0, a0, m0, d0, rfl, ra, hs0⟩ := h.at hl
  obtain rfl : nb = m0 := by rw [← hll, hs0.1]
  rw [Nat.add_zero] at ra
  have RA := Lib.hid ra
  have hl0 : (0 : Int) < (nl : Int) := by omega
  have hl0n : 0 < nl := by omega
  obtain ⟨W, hW⟩ : ∃ W, W = (w.alloc (.cells (rbC (some ⟨b0, o0, none⟩) nl c target hold up down) 65)).alloc (.cells #[.slice none 0 0, .int .i64 0, .int .i64 0, .int .i64 0, .int .i64 0] 65) := ⟨_, rfl⟩
  have HB := Lib.hid (show Below w.heap.size w W by rw [hW]; exact bl_alloc (bl_alloc (Below.refl w.heap.size w) _) _)
  have HO := Lib.hid (show Obj1 W w.heap.size (rbC (some ⟨b0, o0, none⟩) nl c target hold up down) 65 by rw [hW]; exact (Obj1.new w _ _).alloc _)
  have HZ := Lib.hid (show Obj1 W (w.heap.size + 1) #[.slice none 0 0, .int .i64 0, .int .i64 0, .int .i64 0, .int .i64 0] 65 by
    rw [hW]
    have := Obj1.new (w.alloc (.cells (rbC (some ⟨b0, o0, none⟩) nl c target hold up down) 65)) #[.slice none 0 0, .int .i64 0, .int .i64 0, .int .i64 0, .int .i64 0] 65
    rwa [World.size_alloc] at this)
  have HW := Lib.hid hW
  clear hW h hr ra hs0 hl hll
  go_enter Try.func32, Try.ntmps32
  go_upto_region 1 with (fail)
  rw [← HW.out]
  clear HW
  go_wp2_with fail
  refine wp_region_held_drew (S := fun w' => Below w.heap.size w w' ∧ Obj1 w' w.heap.size (rbC (some ⟨b0, o0, none⟩) nl c target hold up down) 65) (by kernel_rfl) (⟨HB.out.drew, HO.out⟩) (fun hHeld => ?_)
  have HX := Lib.hid hHeld
  clear hHeld
  have hq : Obj1 (World.drew _) (w.heap.size + 1) #[.slice none 0 0, .int .i64 0, .int .i64 0, .int .i64 0, .int .i64 0] 65 := HZ.out
  clear HZ
  have HZ := Lib.hid hq
  clear hq
  generalize hWd : World.drew _ = W0 at HX HZ ⊢
  clear hWd
  refine wpAnyH_take (i := 0) (v := ?_) rfl (by kernel_rfl) (by kernel_rfl) (by kernel_rfl) (fun _ _ _ h => h) (Or.inl ⟨by rfl, ?_⟩) HX.out ?_
  rotate_left
  · intro w' hSw; go_simp
    try with_reducible rfl
  go_simp
  refine wpAnyH_take (i := 1) (v := ?_) rfl (by kernel_rfl) (by kernel_rfl) (by kernel_rfl) (fun _ _ _ h => h) (Or.inl ⟨by rfl, ?_⟩) HX.out ?_
  rotate_left
  · intro w' hSw; have c0 : w'.cell? ⟨w.heap.size, 0, none⟩ = some (.slice (some ⟨b0, o0, none⟩) nl c) := hSw.2.cell 0; go_simp
    try with_reducible rfl
  go_simp
  refine wpAnyH_take (i := 2) (v := ?_) rfl (by kernel_rfl) (by kernel_rfl) (by kernel_rfl) (fun _ _ _ h => h) (Or.inl ⟨by rfl, ?_⟩) HX.out ?_
  rotate_left
  · intro w' hSw; go_simp
    try with_reducible rfl
  go_simp
  refine wpAnyH_take (i := 3) (v := ?_) rfl (by kernel_rfl) (by kernel_rfl) (by kernel_rfl) (fun _ _ _ h => h) (Or.inl ⟨by rfl, ?_⟩) HX.out ?_
  rotate_left
  · intro w' hSw; go_simp
    try with_reducible rfl
  go_simp
  refine wpAnyH_take (i := 4) (v := ?_) rfl (by kernel_rfl) (by kernel_rfl) (by kernel_rfl) (fun _ _ _ h => h) (Or.inl ⟨by rfl, ?_⟩) HX.out ?_
  rotate_left
  · intro w' hSw; have c0 : w'.cell? ⟨w.heap.size, 0, none⟩ = some (.slice (some ⟨b0, o0, none⟩) nl c) := hSw.2.cell 0; go_simp
    try with_reducible rfl
  go_simp
  refine wpAnyH_take (i := 5) (v := ?_) rfl (by kernel_rfl) (by kernel_rfl) (by kernel_rfl) (fun _ _ _ h => h) (Or.inl ⟨by rfl, ?_⟩) HX.out ?_
  rotate_left
  · intro w' hSw; go_simp
    try with_reducible rfl
  go_simp
  refine wpAnyH_take (i := 6) (v := ?_) rfl (by kernel_rfl) (by kernel_rfl) (by kernel_rfl) (fun _ _ _ h => h) (Or.inl ⟨by rfl, ?_⟩) HX.out ?_
  rotate_left
  · intro w' hSw; have cr := bl_keeps hSw.1 RA.out; go_simp
    try with_reducible rfl
  go_simp
  refine wpAnyH_take (i := 7) (v := ?_) rfl (by kernel_rfl) (by kernel_rfl) (by kernel_rfl) (fun _ _ _ h => h) (Or.inl ⟨by rfl, ?_⟩) HX.out ?_
  rotate_left
  · intro w' hSw; go_simp
    try with_reducible rfl
  go_simp
  refine wpAnyH_take (i := 8) (v := ?_) rfl (by kernel_rfl) (by kernel_rfl) (by kernel_rfl) (fun _ _ _ h => h) (Or.inl ⟨by rfl, ?_⟩) HX.out ?_
  rotate_left
  · intro w' hSw; go_simp
    try with_reducible rfl
  go_simp
  refine wpAnyH_take (i := 9) (v := ?_) rfl (by kernel_rfl) (by kernel_rfl) (by kernel_rfl) (fun _ _ _ h => h) (Or.inl ⟨by rfl, ?_⟩) HX.out ?_
  rotate_left
  · intro w' hSw; have c1 : w'.cell? ⟨w.heap.size, 1, none⟩ = some (.int .i64 target) := hSw.2.cell 1; go_simp
    try with_reducible rfl
  go_simp
  refine wpAnyH_take (i := 10) (v := ?_) rfl (by kernel_rfl) (by kernel_rfl) (by kernel_rfl) (fun _ _ _ h => h) (Or.inl ⟨by rfl, ?_⟩) HX.out ?_
  rotate_left
  · intro w' hSw; go_simp
    try with_reducible rfl
  go_simp
  refine wpAnyH_take (i := 11) (v := ?_) rfl (by kernel_rfl) (by kernel_rfl) (by kernel_rfl) (fun _ _ _ h => h) (Or.inl ⟨by rfl, ?_⟩) HX.out ?_
  rotate_left
  · intro w' hSw; have c2 : w'.cell? ⟨w.heap.size, 2, none⟩ = some (.int .i64 hold) := hSw.2.cell 2; go_simp
    try with_reducible rfl
  go_simp
  refine wpAnyH_take (i := 12) (v := ?_) rfl (by kernel_rfl) (by kernel_rfl) (by kernel_rfl) (fun _ _ _ h => h) (Or.inl ⟨by rfl, ?_⟩) HX.out ?_
  rotate_left
  · intro w' hSw; go_simp
    try with_reducible rfl
  go_simp
  refine wpAnyH_take (i := 13) (v := ?_) rfl (by kernel_rfl) (by kernel_rfl) (by kernel_rfl) (fun _ _ _ h => h) (Or.inl ⟨by rfl, ?_⟩) HX.out ?_
  rotate_left
  · intro w' hSw; have c3 : w'.cell? ⟨w.heap.size, 3, none⟩ = some (.int .i64 up) := hSw.2.cell 3; go_simp
    try with_reducible rfl
  go_simp
  refine wpAnyH_take (i := 14) (v := ?_) rfl (by kernel_rfl) (by kernel_rfl) (by kernel_rfl) (fun _ _ _ h => h) (Or.inl ⟨by rfl, ?_⟩) HX.out ?_
  rotate_left
  · intro w' hSw; go_simp
    try with_reducible rfl
  go_simp
  refine wpAnyH_take (i := 15) (v := ?_) rfl (by kernel_rfl) (by kernel_rfl) (by kernel_rfl) (fun _ _ _ h => h) (Or.inl ⟨by rfl, ?_⟩) HX.out ?_
  rotate_left
  · intro w' hSw; have c4 : w'.cell? ⟨w.heap.size, 4, none⟩ = some (.int .i64 down) := hSw.2.cell 4; go_simp
    try with_reducible rfl
  go_simp
  refine wpAnyH_ready (rs := [16]) (by kernel_rfl) (by simp) ?_
  refine AllReadyH.cons rfl (fun K hK => ?_) AllReadyH.nil
  go_simp
  refine (rnew_w target hold up down nl nb hnl hnb _).mono ?_
  rintro e W1 ⟨A9, c9, rfl, hs9, hb⟩
  have HS9 := Lib.hid (hs9.mono (show w.heap.size + 2 ≤ _ from HZ.out.lt))
  have hX : Below w.heap.size w W1 ∧ Obj1 W1 w.heap.size (rbC (some ⟨b0, o0, none⟩) nl c target hold up down) 65 := ⟨bl_next HX.out.1 hb, HX.out.2.below hb⟩
  have hZ := HZ.out.below hb
  clear HZ
  have HZ := Lib.hid hZ
  clear hZ hs9 hb
  dsimp only
  refine hK.out _ _ (hX) (fun hHeld => ?_)
  clear HX hK K
  have HX := Lib.hid hHeld
  clear hHeld
  go_simp
  refine wpAnyH_ready (rs := [17]) (by kernel_rfl) (by simp) ?_
  refine AllReadyH.cons rfl (fun K hK => ?_) AllReadyH.nil
  refine gwanted rfl ?_
  refine wp_storeO 65 (.tmp 2) (.tmp 19) rfl (w.heap.size + 1) 65 #[.slice none 0 0, .int .i64 0, .int .i64 0, .int .i64 0, .int .i64 0] (rbC A9 nl c9 target hold up down) rfl rfl HZ.out rfl rfl (by simp [rbC, Value.oneCell']) ?_
  intro W2 hob hup
  have hX : Below w.heap.size w W2 ∧ Obj1 W2 w.heap.size (rbC (some ⟨b0, o0, none⟩) nl c target hold up down) 65 := ⟨bl_upd HX.out.1 hup (by omega), HX.out.2.of_grown hup (by simp)⟩
  have hq := HS9.out.upd hup (by omega)
  clear HZ HS9 hup
  have HZ := Lib.hid hob
  have HS9 := Lib.hid hq
  clear hob hq
  refine hK.out _ _ (hX) (fun hHeld => ?_)
  clear HX hK K
  have HX := Lib.hid hHeld
  clear hHeld
  go_simp
  refine wpAnyH_done (by kernel_rfl) ?_ _
  go_wp2_with fail
  refine bodyPost_ret (results_cell_row rfl _ _ (w.heap.size + 1) 65 (rbC A9 nl c9 target hold up down) (0, 0) _ rfl HZ.out Try.underlying65 rfl rfl) rfl ?_
  exact ⟨A9, c9, rfl, HS9.out.mono (by omega), HX.out.1⟩
end Go.Proofs.Ytcgabjjdffcjbaa
