/- The document's Blue: New. -/
import Derived.Test.YtcgabjjdffcjbaaRbD
import Derived.Test.YtcgabjjdffcjbaaBlueD
namespace Go.Proofs.Ytcgabjjdffcjbaa
open Go.RowKit
set_option linter.unusedVariables false
set_option linter.unusedSimpArgs false

theorem binsL_fl : ∀ l : List Bn, binsL l = fl bnC l
  | [] => rfl
  | b :: l => by rw [fl_cons, ← binsL_fl l]; rfl
theorem own_updd {B D : Nat} {w w' : World} {e : TypeId} {k : Nat} {v : Value} {n : Nat} {xs : List Value} (h : w.ownsRow B e k v n xs) (hu : Upd D w w') (hD : D < B) : w'.ownsRow B e k v n xs := by
  refine h.kept hu ?_
  rcases h.2 with ⟨h0, _⟩ | ⟨g, cap, cur, h0, hb, _⟩
  · subst h0; exact .inl rfl
  · subst h0
    refine .inr ?_
    simp [Value.ownBlock]
    omega
theorem make_bins (W : World) (n : Nat) (hn : n ≤ 64) : (Instr.makeSlice 84 (.int .i64 (n : Int)) (.int .i64 (n : Int))).run Try.prog W = .ok (.slice (some ⟨W.heap.size, 0, none⟩) n n) (W.alloc (.cells (binsC (List.replicate n ⟨0, 0, 0⟩)) 87)) := by
  have hinfo : (Try.prog.info? 87).map (fun i => (i.zero, i.size, i.bytes)) = some (some (.agg #[.int .i64 0, .int .i64 0, .int .i64 0]), 3, 24) := by kernel_rfl
  obtain ⟨i0, hi, hzz⟩ := Option.map_eq_some_iff.1 hinfo
  simp only [Prod.mk.injEq] at hzz
  obtain ⟨hz0, hz1, hz2⟩ := hzz
  rw [run_make (P := Try.prog) W 84 87 i0 _ Try.underlying84 hi hz0 .i64 .i64 n n (Int.natCast_nonneg _) (Int.le_refl _) (by rw [hz2]; omega) (by omega), hz1, Int.toNat_natCast]
  rw [show (Value.agg #[.int .i64 0, .int .i64 0, .int .i64 0]).cells = #[.int .i64 0, .int .i64 0, .int .i64 0] from by simp [Value.cells], zeros_cells]
theorem wp_makeB {o : Oper} {a : Act} {Q : Exit → Act → World → Prop} {W : World} {K : Act → World → Prop} (x : Operand) (ho : o.op = .makeSlice 84 x x) (n : Nat) (hx : a.eval x = .int .i64 (n : Int)) (hn : n ≤ 64)
    (hK : K (a.put o.dst (.slice (some ⟨W.heap.size, 0, none⟩) n n)) (W.alloc (.cells (binsC (List.replicate n ⟨0, 0, 0⟩)) 87))) : o.wp Try.prog a W K Q := by
  unfold Oper.wp execOp
  simp only [ho, hx, Sem.run_bind, make_bins W n hn, Result.andThen_ok, Sem.run_pure]
  simpa [Oper.upon] using hK

/-- New's state behind k levels. -/
def NewSt (w W : World) (target hold up down : Int) (nb : Nat) (v : Value) (k : Nat) (xs : List Value) : Prop := W.ownsRow (w.heap.size + 2) 84 1 v k xs ∧ RowsB (w.heap.size + 2) W xs (List.replicate k (List.replicate nb (⟨0, 0, 0⟩ : Bn))) ∧ Below w.heap.size w W ∧ Obj1 W w.heap.size #[.slice none 0 0, .int .i64 0, .int .i64 0, .int .i64 0, .int .i64 0] 65 ∧ Obj1 W (w.heap.size + 1) #[v, .int .i64 target, .int .i64 hold, .int .i64 up, .int .i64 down] 65
theorem NewSt.below {w W W' : World} {target hold up down : Int} {nb : Nat} {v : Value} {k : Nat} {xs : List Value} (h : NewSt w W target hold up down nb v k xs) (hb : Below W.heap.size W W') : NewSt w W' target hold up down nb v k xs :=
  ⟨own_below h.1 hb, h.2.1.below hb, bl_next h.2.2.1 hb, h.2.2.2.1.below hb, h.2.2.2.2.below hb⟩
theorem rep_snoc {α : Type} (k : Nat) (x : α) : List.replicate (k + 1) x = List.replicate k x ++ [x] := by
  apply List.ext_getElem?
  intro i
  rw [List.getElem?_append, List.getElem?_replicate, List.getElem?_replicate, List.length_replicate]
  by_cases h : i < k
  · simp [h, Nat.lt_succ_of_lt h]
  · by_cases h2 : i = k
    · subst h2; simp
    · have : ¬ i < k + 1 := by omega
      have h3 : ¬ i - k = 0 := by omega
      simp [h, this]
      omega

set_option maxRecDepth 100000 in
set_option maxHeartbeats 4000000 in
theorem rnew_w (target hold up down : Int) (nl nb : Nat) (hnl : 1 ≤ nl ∧ nl ≤ 4) (hnb : 1 ≤ nb ∧ nb ≤ 64) (w : World) :
    Calls Try.prog 27 #[.int .i64 nl, .int .i64 nb, .int .i64 target, .int .i64 hold, .int .i64 up, .int .i64 down] w fun e w' => ∃ A' c', e = .returned (.agg (rbC A' nl c' target hold up down)) ∧ SlB w.heap.size w' A' nl c' (List.replicate nl (List.replicate nb (⟨0, 0, 0⟩ : Bn))) ∧ Below w.heap.size w w' := by
  obtain ⟨W, hW⟩ : ∃ W, W = (w.alloc (.cells #[.slice none 0 0, .int .i64 0, .int .i64 0, .int .i64 0, .int .i64 0] 65)).alloc (.cells #[.slice none 0 0, .int .i64 target, .int .i64 hold, .int .i64 up, .int .i64 down] 65) := ⟨_, rfl⟩
  have HN := Lib.hid (show NewSt w W target hold up down nb (.slice none 0 0) 0 [] from ⟨World.ownsRow_nil _ _ _ _, RowsB.nil _ _, by rw [hW]; exact bl_alloc (bl_alloc (Below.refl w.heap.size w) _) _, by rw [hW]; exact (Obj1.new w _ _).alloc _, by
    rw [hW]
    have := Obj1.new (w.alloc (.cells #[.slice none 0 0, .int .i64 0, .int .i64 0, .int .i64 0, .int .i64 0] 65)) #[.slice none 0 0, .int .i64 target, .int .i64 hold, .int .i64 up, .int .i64 down] 65
    rwa [World.size_alloc] at this⟩)
  have HW := Lib.hid hW
  clear hW
  go_enter Try.func27, Try.ntmps27
  go_upto_region 2 with (fail)
  rw [← HW.out]
  clear HW
  go_wp2_with fail
  go_loopw [20] (fun i wr => ∃ (k : Nat) (v : Value) (xs : List Value), k ≤ nl ∧ i = .int .i64 k ∧ NewSt w wr target hold up down nb v k xs) (fun i _ => nl - (intOf i).toNat)
  case atStart => exact ⟨0, _, [], Nat.zero_le _, rfl, HN.out⟩
  case round =>
    obtain ⟨k, v, xs, hk, rfl, hN⟩ := hrel
    clear HN
    have HN := Lib.hid hN
    clear hN
    by_cases hlt : k < nl
    · have hk0 : (0 : Int) ≤ (k : Int) := Int.natCast_nonneg k
      have hk1 : (k : Int) < (nl : Int) := by omega
      go_wp2_with fail
      refine wp_region_held_drew (S := fun w' => Below w.heap.size w w') (by kernel_rfl) (HN.out.2.2.1.drew) (fun hHeld => ?_)
      have HX := Lib.hid hHeld
      clear hHeld
      have hq : NewSt w (World.drew _) target hold up down nb v k xs := HN.out.below (Below.refl _ _).drew
      clear HN
      have HN := Lib.hid hq
      clear hq
      generalize hWd : World.drew _ = W at HX HN ⊢
      clear hWd
      refine wpAnyH_take (i := 0) (v := ?_) rfl (by kernel_rfl) (by kernel_rfl) (by kernel_rfl) (fun _ _ _ h => h) (Or.inl ⟨by rfl, ?_⟩) HX.out ?_
      rotate_left
      · intro w' hSw; go_simp
        try with_reducible rfl
      go_simp
      refine wpAnyH_take (i := 2) (v := ?_) rfl (by kernel_rfl) (by kernel_rfl) (by kernel_rfl) (fun _ _ _ h => h) (Or.inl ⟨by rfl, ?_⟩) HX.out ?_
      rotate_left
      · intro w' hSw; go_simp
        try with_reducible rfl
      go_simp
      refine wpAnyH_ready (rs := [1, 3]) (by kernel_rfl) (by simp) ?_
      refine AllReadyH.cons rfl (fun K hK => ?_) ?_
      · have c0 : W.cell? ⟨w.heap.size + 1, 0, none⟩ = some v := HN.out.2.2.2.2.cell 0
        go_simp
        have hX : Below w.heap.size w W := HN.out.2.2.1
        clear c0
        refine hK.out _ _ (hX) (fun hHeld => ?_)
        clear HX hK K
        have HX := Lib.hid hHeld
        clear hHeld
        go_simp
        refine wpAnyH_ready (rs := [3]) (by kernel_rfl) (by simp) ?_
        refine AllReadyH.cons rfl (fun K hK => ?_) AllReadyH.nil
        refine gwanted rfl ?_
        refine wp_makeB (.tmp 24) rfl nb rfl hnb.2 ?_
        obtain ⟨ol, hol⟩ : ∃ ol : Obj, ol = .cells (binsC (List.replicate nb (⟨0, 0, 0⟩ : Bn))) 87 := ⟨_, rfl⟩
        have hM : OwnB (w.heap.size + 2) (W.alloc ol) (some ⟨W.heap.size, 0, none⟩) nb nb (List.replicate nb (⟨0, 0, 0⟩ : Bn)) := by
          have h1 : Obj1 (W.alloc ol) W.heap.size (binsC (List.replicate nb (⟨0, 0, 0⟩ : Bn))) 87 := by rw [hol]; exact Obj1.new W _ _
          refine ⟨⟨by simp, Nat.le_refl _, by omega, (fun _ h => by cases h; rfl), fun j v hj => ⟨_, rfl, ?_⟩⟩, fun ad e => ?_⟩
          · rw [add_flat, Nat.zero_add, h1.cell, ← hj, ← binsL_fl]
            simp [binsC]
          · cases e
            have := HN.out.2.2.2.2.lt
            exact ⟨by show w.heap.size + 2 ≤ W.heap.size; omega, _, h1⟩
        have hb := bl_alloc (Below.refl W.heap.size W) ol
        rw [← hol]
        clear hol
        obtain ⟨g, hg⟩ : ∃ g, g = W.heap.size := ⟨_, rfl⟩
        rw [← hg] at hM
        rw [← hg]
        clear hg
        generalize hWn : W.alloc ol = W1 at hM hb ⊢
        clear hWn
        have hq := HN.out.below hb
        clear HN
        have HN := Lib.hid hq
        clear hq
        have HM := Lib.hid hM
        have hX : Below w.heap.size w W1 := HN.out.2.2.1
        clear hM hb
        refine hK.out _ _ (hX) (fun hHeld => ?_)
        clear HX hK K
        have HX := Lib.hid hHeld
        clear hHeld
        go_simp
        refine wpAnyH_ready (rs := [4]) (by kernel_rfl) (by simp) ?_
        refine AllReadyH.cons rfl (fun K hK => ?_) AllReadyH.nil
        go_simp
        obtain ⟨ol, hol⟩ : ∃ ol : Obj, ol = .cells #[.slice (some ⟨g, 0, none⟩) nb nb] 84 := ⟨_, rfl⟩
        have hL : Rd (W1.alloc ol) (some ⟨W1.heap.size, 0, none⟩) [.slice (some ⟨g, 0, none⟩) nb nb] := by rw [hol]; exact lit_rd W1 [.slice (some ⟨g, 0, none⟩) nb nb] _
        have hb := bl_alloc (Below.refl W1.heap.size W1) ol
        rw [← hol]
        clear hol
        obtain ⟨gL, hgL⟩ : ∃ gL, gL = W1.heap.size := ⟨_, rfl⟩
        rw [← hgL] at hL
        rw [← hgL]
        clear hgL
        have hM := HM.out.below hb
        clear HM
        generalize hWn : W1.alloc ol = W2 at hM hL hb ⊢
        clear hWn
        have hq := HN.out.below hb
        clear HN
        have HN := Lib.hid hq
        clear hq
        have HM := Lib.hid hM
        have HL := Lib.hid hL
        have hX : Below w.heap.size w W2 := HN.out.2.2.1
        clear hM hL hb
        refine hK.out _ _ (hX) (fun hHeld => ?_)
        clear HX hK K
        have HX := Lib.hid hHeld
        clear hHeld
        go_simp
        refine wpAnyH_ready (rs := [5]) (by kernel_rfl) (by simp) ?_
        refine AllReadyH.cons rfl (fun K hK => ?_) AllReadyH.nil
        refine app_step (w.heap.size + 2) rfl (.tmp 23) (.tmp 26) 63 84 (.slice none 0 0) 1 24 rfl Try.underlying63 (by kernel_rfl) rfl (by omega) (by omega) v k xs (some ⟨gL, 0, none⟩) 1 1 [.slice (some ⟨g, 0, none⟩) nb nb] rfl rfl HN.out.1 rfl HL.out (by simp [Value.oneCell']) (by omega) (by have := HN.out.2.2.2.2.lt; omega) ?_
        intro v3 W3 hown hg
        obtain ⟨A3, c3, rfl, _⟩ := own_Rd hown
        have HOW := Lib.hid hown
        have HRW := Lib.hid ((HN.out.2.1.snoc HM.out).grown hg (fun b cs _ ho => own_neO ho HN.out.1 (by decide)))
        have HZ3 := Lib.hid (HN.out.2.2.2.1.of_grown hg (own_neO HN.out.2.2.2.1 HN.out.1 (by decide)))
        have HC3 := Lib.hid (HN.out.2.2.2.2.of_grown hg (own_neO HN.out.2.2.2.2 HN.out.1 (by decide)))
        have hX : Below w.heap.size w W3 := bl_grown HN.out.2.2.1 HN.out.1 hg (by omega)
        clear HN HM HL hown hg
        refine hK.out _ _ (hX) (fun hHeld => ?_)
        clear HX hK K
        have HX := Lib.hid hHeld
        clear hHeld
        go_simp
        refine wpAnyH_take (i := 6) (v := ?_) rfl (by kernel_rfl) (by kernel_rfl) (by kernel_rfl) (fun _ _ _ h => h) (Or.inl ⟨by rfl, ?_⟩) HX.out ?_
        rotate_left
        · intro w' hSw; go_simp
          try with_reducible rfl
        go_simp
        refine wpAnyH_ready (rs := [7]) (by kernel_rfl) (by simp) ?_
        refine AllReadyH.cons rfl (fun K hK => ?_) AllReadyH.nil
        have c0 : W3.cell? ⟨w.heap.size + 1, 0, none⟩ = some v := HC3.out.cell 0
        have f0 : W3.frozen? ⟨w.heap.size + 1, 0, none⟩ = false := HC3.out.free 0
        go_simp
        have hu := (Upd.refl (w.heap.size + 1) W3).set 0 (.slice A3 (k + 1) c3)
        have hX : Below w.heap.size w _ := bl_upd HX.out hu (by omega)
        have hN : NewSt w _ target hold up down nb (.slice A3 (k + 1) c3) (k + 1) (xs ++ [.slice (some ⟨g, 0, none⟩) nb nb]) := ⟨own_updd HOW.out hu (by omega), by rw [rep_snoc]; exact HRW.out.grown hu (fun b cs hb _ e => by cases e; omega), hX, HZ3.out.of_grown hu (by simp), HC3.out.set 0 (.slice A3 (k + 1) c3)⟩
        have HN := Lib.hid hN
        clear hN c0 f0 hu
        refine hK.out _ _ (hX) (fun hHeld => ?_)
        clear HX hK K
        have HX := Lib.hid hHeld
        clear hHeld
        go_simp
        refine wpAnyH_done (by kernel_rfl) ?_ _
        go_wp2_with fail
        go_roundw
        case rel => exact ⟨k + 1, _, _, by omega, by go_num, HN.out⟩
        case measure => simp [intOf]; omega
      refine AllReadyH.cons rfl (fun K hK => ?_) AllReadyH.nil
      refine gwanted rfl ?_
      refine wp_makeB (.tmp 24) rfl nb rfl hnb.2 ?_
      obtain ⟨ol, hol⟩ : ∃ ol : Obj, ol = .cells (binsC (List.replicate nb (⟨0, 0, 0⟩ : Bn))) 87 := ⟨_, rfl⟩
      have hM : OwnB (w.heap.size + 2) (W.alloc ol) (some ⟨W.heap.size, 0, none⟩) nb nb (List.replicate nb (⟨0, 0, 0⟩ : Bn)) := by
        have h1 : Obj1 (W.alloc ol) W.heap.size (binsC (List.replicate nb (⟨0, 0, 0⟩ : Bn))) 87 := by rw [hol]; exact Obj1.new W _ _
        refine ⟨⟨by simp, Nat.le_refl _, by omega, (fun _ h => by cases h; rfl), fun j v hj => ⟨_, rfl, ?_⟩⟩, fun ad e => ?_⟩
        · rw [add_flat, Nat.zero_add, h1.cell, ← hj, ← binsL_fl]
          simp [binsC]
        · cases e
          have := HN.out.2.2.2.2.lt
          exact ⟨by show w.heap.size + 2 ≤ W.heap.size; omega, _, h1⟩
      have hb := bl_alloc (Below.refl W.heap.size W) ol
      rw [← hol]
      clear hol
      obtain ⟨g, hg⟩ : ∃ g, g = W.heap.size := ⟨_, rfl⟩
      rw [← hg] at hM
      rw [← hg]
      clear hg
      generalize hWn : W.alloc ol = W1 at hM hb ⊢
      clear hWn
      have hq := HN.out.below hb
      clear HN
      have HN := Lib.hid hq
      clear hq
      have HM := Lib.hid hM
      have hX : Below w.heap.size w W1 := HN.out.2.2.1
      clear hM hb
      refine hK.out _ _ (hX) (fun hHeld => ?_)
      clear HX hK K
      have HX := Lib.hid hHeld
      clear hHeld
      go_simp
      refine wpAnyH_ready (rs := [1, 4]) (by kernel_rfl) (by simp) ?_
      refine AllReadyH.cons rfl (fun K hK => ?_) ?_
      · have c0 : W1.cell? ⟨w.heap.size + 1, 0, none⟩ = some v := HN.out.2.2.2.2.cell 0
        go_simp
        have hX : Below w.heap.size w W1 := HN.out.2.2.1
        clear c0
        refine hK.out _ _ (hX) (fun hHeld => ?_)
        clear HX hK K
        have HX := Lib.hid hHeld
        clear hHeld
        go_simp
        refine wpAnyH_ready (rs := [4]) (by kernel_rfl) (by simp) ?_
        refine AllReadyH.cons rfl (fun K hK => ?_) AllReadyH.nil
        go_simp
        obtain ⟨ol, hol⟩ : ∃ ol : Obj, ol = .cells #[.slice (some ⟨g, 0, none⟩) nb nb] 84 := ⟨_, rfl⟩
        have hL : Rd (W1.alloc ol) (some ⟨W1.heap.size, 0, none⟩) [.slice (some ⟨g, 0, none⟩) nb nb] := by rw [hol]; exact lit_rd W1 [.slice (some ⟨g, 0, none⟩) nb nb] _
        have hb := bl_alloc (Below.refl W1.heap.size W1) ol
        rw [← hol]
        clear hol
        obtain ⟨gL, hgL⟩ : ∃ gL, gL = W1.heap.size := ⟨_, rfl⟩
        rw [← hgL] at hL
        rw [← hgL]
        clear hgL
        have hM := HM.out.below hb
        clear HM
        generalize hWn : W1.alloc ol = W2 at hM hL hb ⊢
        clear hWn
        have hq := HN.out.below hb
        clear HN
        have HN := Lib.hid hq
        clear hq
        have HM := Lib.hid hM
        have HL := Lib.hid hL
        have hX : Below w.heap.size w W2 := HN.out.2.2.1
        clear hM hL hb
        refine hK.out _ _ (hX) (fun hHeld => ?_)
        clear HX hK K
        have HX := Lib.hid hHeld
        clear hHeld
        go_simp
        refine wpAnyH_ready (rs := [5]) (by kernel_rfl) (by simp) ?_
        refine AllReadyH.cons rfl (fun K hK => ?_) AllReadyH.nil
        refine app_step (w.heap.size + 2) rfl (.tmp 23) (.tmp 26) 63 84 (.slice none 0 0) 1 24 rfl Try.underlying63 (by kernel_rfl) rfl (by omega) (by omega) v k xs (some ⟨gL, 0, none⟩) 1 1 [.slice (some ⟨g, 0, none⟩) nb nb] rfl rfl HN.out.1 rfl HL.out (by simp [Value.oneCell']) (by omega) (by have := HN.out.2.2.2.2.lt; omega) ?_
        intro v3 W3 hown hg
        obtain ⟨A3, c3, rfl, _⟩ := own_Rd hown
        have HOW := Lib.hid hown
        have HRW := Lib.hid ((HN.out.2.1.snoc HM.out).grown hg (fun b cs _ ho => own_neO ho HN.out.1 (by decide)))
        have HZ3 := Lib.hid (HN.out.2.2.2.1.of_grown hg (own_neO HN.out.2.2.2.1 HN.out.1 (by decide)))
        have HC3 := Lib.hid (HN.out.2.2.2.2.of_grown hg (own_neO HN.out.2.2.2.2 HN.out.1 (by decide)))
        have hX : Below w.heap.size w W3 := bl_grown HN.out.2.2.1 HN.out.1 hg (by omega)
        clear HN HM HL hown hg
        refine hK.out _ _ (hX) (fun hHeld => ?_)
        clear HX hK K
        have HX := Lib.hid hHeld
        clear hHeld
        go_simp
        refine wpAnyH_take (i := 6) (v := ?_) rfl (by kernel_rfl) (by kernel_rfl) (by kernel_rfl) (fun _ _ _ h => h) (Or.inl ⟨by rfl, ?_⟩) HX.out ?_
        rotate_left
        · intro w' hSw; go_simp
          try with_reducible rfl
        go_simp
        refine wpAnyH_ready (rs := [7]) (by kernel_rfl) (by simp) ?_
        refine AllReadyH.cons rfl (fun K hK => ?_) AllReadyH.nil
        have c0 : W3.cell? ⟨w.heap.size + 1, 0, none⟩ = some v := HC3.out.cell 0
        have f0 : W3.frozen? ⟨w.heap.size + 1, 0, none⟩ = false := HC3.out.free 0
        go_simp
        have hu := (Upd.refl (w.heap.size + 1) W3).set 0 (.slice A3 (k + 1) c3)
        have hX : Below w.heap.size w _ := bl_upd HX.out hu (by omega)
        have hN : NewSt w _ target hold up down nb (.slice A3 (k + 1) c3) (k + 1) (xs ++ [.slice (some ⟨g, 0, none⟩) nb nb]) := ⟨own_updd HOW.out hu (by omega), by rw [rep_snoc]; exact HRW.out.grown hu (fun b cs hb _ e => by cases e; omega), hX, HZ3.out.of_grown hu (by simp), HC3.out.set 0 (.slice A3 (k + 1) c3)⟩
        have HN := Lib.hid hN
        clear hN c0 f0 hu
        refine hK.out _ _ (hX) (fun hHeld => ?_)
        clear HX hK K
        have HX := Lib.hid hHeld
        clear hHeld
        go_simp
        refine wpAnyH_done (by kernel_rfl) ?_ _
        go_wp2_with fail
        go_roundw
        case rel => exact ⟨k + 1, _, _, by omega, by go_num, HN.out⟩
        case measure => simp [intOf]; omega
      refine AllReadyH.cons rfl (fun K hK => ?_) AllReadyH.nil
      go_simp
      obtain ⟨ol, hol⟩ : ∃ ol : Obj, ol = .cells #[.slice (some ⟨g, 0, none⟩) nb nb] 84 := ⟨_, rfl⟩
      have hL : Rd (W1.alloc ol) (some ⟨W1.heap.size, 0, none⟩) [.slice (some ⟨g, 0, none⟩) nb nb] := by rw [hol]; exact lit_rd W1 [.slice (some ⟨g, 0, none⟩) nb nb] _
      have hb := bl_alloc (Below.refl W1.heap.size W1) ol
      rw [← hol]
      clear hol
      obtain ⟨gL, hgL⟩ : ∃ gL, gL = W1.heap.size := ⟨_, rfl⟩
      rw [← hgL] at hL
      rw [← hgL]
      clear hgL
      have hM := HM.out.below hb
      clear HM
      generalize hWn : W1.alloc ol = W2 at hM hL hb ⊢
      clear hWn
      have hq := HN.out.below hb
      clear HN
      have HN := Lib.hid hq
      clear hq
      have HM := Lib.hid hM
      have HL := Lib.hid hL
      have hX : Below w.heap.size w W2 := HN.out.2.2.1
      clear hM hL hb
      refine hK.out _ _ (hX) (fun hHeld => ?_)
      clear HX hK K
      have HX := Lib.hid hHeld
      clear hHeld
      go_simp
      refine wpAnyH_ready (rs := [1]) (by kernel_rfl) (by simp) ?_
      refine AllReadyH.cons rfl (fun K hK => ?_) AllReadyH.nil
      have c0 : W2.cell? ⟨w.heap.size + 1, 0, none⟩ = some v := HN.out.2.2.2.2.cell 0
      go_simp
      have hX : Below w.heap.size w W2 := HN.out.2.2.1
      clear c0
      refine hK.out _ _ (hX) (fun hHeld => ?_)
      clear HX hK K
      have HX := Lib.hid hHeld
      clear hHeld
      go_simp
      refine wpAnyH_ready (rs := [5]) (by kernel_rfl) (by simp) ?_
      refine AllReadyH.cons rfl (fun K hK => ?_) AllReadyH.nil
      refine app_step (w.heap.size + 2) rfl (.tmp 23) (.tmp 26) 63 84 (.slice none 0 0) 1 24 rfl Try.underlying63 (by kernel_rfl) rfl (by omega) (by omega) v k xs (some ⟨gL, 0, none⟩) 1 1 [.slice (some ⟨g, 0, none⟩) nb nb] rfl rfl HN.out.1 rfl HL.out (by simp [Value.oneCell']) (by omega) (by have := HN.out.2.2.2.2.lt; omega) ?_
      intro v3 W3 hown hg
      obtain ⟨A3, c3, rfl, _⟩ := own_Rd hown
      have HOW := Lib.hid hown
      have HRW := Lib.hid ((HN.out.2.1.snoc HM.out).grown hg (fun b cs _ ho => own_neO ho HN.out.1 (by decide)))
      have HZ3 := Lib.hid (HN.out.2.2.2.1.of_grown hg (own_neO HN.out.2.2.2.1 HN.out.1 (by decide)))
      have HC3 := Lib.hid (HN.out.2.2.2.2.of_grown hg (own_neO HN.out.2.2.2.2 HN.out.1 (by decide)))
      have hX : Below w.heap.size w W3 := bl_grown HN.out.2.2.1 HN.out.1 hg (by omega)
      clear HN HM HL hown hg
      refine hK.out _ _ (hX) (fun hHeld => ?_)
      clear HX hK K
      have HX := Lib.hid hHeld
      clear hHeld
      go_simp
      refine wpAnyH_take (i := 6) (v := ?_) rfl (by kernel_rfl) (by kernel_rfl) (by kernel_rfl) (fun _ _ _ h => h) (Or.inl ⟨by rfl, ?_⟩) HX.out ?_
      rotate_left
      · intro w' hSw; go_simp
        try with_reducible rfl
      go_simp
      refine wpAnyH_ready (rs := [7]) (by kernel_rfl) (by simp) ?_
      refine AllReadyH.cons rfl (fun K hK => ?_) AllReadyH.nil
      have c0 : W3.cell? ⟨w.heap.size + 1, 0, none⟩ = some v := HC3.out.cell 0
      have f0 : W3.frozen? ⟨w.heap.size + 1, 0, none⟩ = false := HC3.out.free 0
      go_simp
      have hu := (Upd.refl (w.heap.size + 1) W3).set 0 (.slice A3 (k + 1) c3)
      have hX : Below w.heap.size w _ := bl_upd HX.out hu (by omega)
      have hN : NewSt w _ target hold up down nb (.slice A3 (k + 1) c3) (k + 1) (xs ++ [.slice (some ⟨g, 0, none⟩) nb nb]) := ⟨own_updd HOW.out hu (by omega), by rw [rep_snoc]; exact HRW.out.grown hu (fun b cs hb _ e => by cases e; omega), hX, HZ3.out.of_grown hu (by simp), HC3.out.set 0 (.slice A3 (k + 1) c3)⟩
      have HN := Lib.hid hN
      clear hN c0 f0 hu
      refine hK.out _ _ (hX) (fun hHeld => ?_)
      clear HX hK K
      have HX := Lib.hid hHeld
      clear hHeld
      go_simp
      refine wpAnyH_done (by kernel_rfl) ?_ _
      go_wp2_with fail
      go_roundw
      case rel => exact ⟨k + 1, _, _, by omega, by go_num, HN.out⟩
      case measure => simp [intOf]; omega
    · obtain rfl : k = nl := by omega
      obtain ⟨A9, c9, rfl, hs9⟩ := SlB.of_own HN.out.1 HN.out.2.1
      have HS9 := Lib.hid hs9
      clear hs9
      go_wp2_with (first
        | (refine load_obj rfl 65 (.tmp 13) rfl (w.heap.size + 1) 65 (rbC A9 k c9 target hold up down) _ rfl HN.out.2.2.2.2 Try.underlying65 rfl rfl ?_)
        | (refine store_obj rfl 65 (.tmp 12) (.tmp 30) rfl w.heap.size 65 _ (rbC A9 k c9 target hold up down) rfl rfl HN.out.2.2.2.1 rfl rfl (by simp [rbC, Value.oneCell']) ?_; intro w3 ho3 hu3; have HZ3 := Lib.hid ho3; have HB3 := Lib.hid (bl_upd HN.out.2.2.1 hu3 (Nat.le_refl _)); have HS3 := Lib.hid (HS9.out.upd hu3 (by omega)); clear ho3 hu3))
      refine bodyPost_ret (results_cell_row rfl _ _ w.heap.size 65 (rbC A9 k c9 target hold up down) (0, 0) _ rfl HZ3.out Try.underlying65 rfl rfl) rfl ?_
      exact ⟨A9, c9, rfl, HS3.out.mono (by omega), HB3.out⟩

end Go.Proofs.Ytcgabjjdffcjbaa
