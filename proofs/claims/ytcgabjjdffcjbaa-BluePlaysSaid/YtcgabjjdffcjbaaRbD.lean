/- The document's Blue: other bins of a flow. -/
import Derived.Test.YtcgabjjdffcjbaaRbC
namespace Go.Proofs.Ytcgabjjdffcjbaa
open Go.RowKit
set_option linter.unusedVariables false
set_option linter.unusedSimpArgs false

set_option maxRecDepth 100000 in
set_option maxHeartbeats 4000000 in
theorem rchange_w (target hold up down : Int) (A A1 A2 : Option Addr) (nl c n c1 c2 nb lo : Nat) (ls : List (List Bn)) (ks : List Int) (tb : List Bn) (hnl : 1 ≤ nl ∧ nl ≤ 4) (hnb : 1 ≤ nb ∧ nb ≤ 64) (hf : flowsB nl nb ks = true) (w : World) (h : SlB lo w A nl c ls) (hs : SlI .i64 w A1 n c1 ks) (ht : SlR bnC w A2 nl c2 tb) (hr : ∀ l ∈ ls, l.length = nb) :
    Calls Try.prog 48 #[.agg (rbC A nl c target hold up down), .slice A1 n c1, .slice A2 nl c2] w fun e w' => ∃ A' c', e = .returned (.agg (rbC A' nl c' target hold up down)) ∧ SlB w.heap.size w' A' nl c' (changeN ls ks tb nl) ∧ Below w.heap.size w w' := by
  have HS := Lib.hid h
  have HI := Lib.hid hs
  have HR := Lib.hid hr
  have HT := Lib.hid ht
  have hnn : n = nl := hs.1.symm.trans (flowsB_at hf).1
  subst hnn
  have HK := Lib.hid (flowsB_at hf).2
  obtain ⟨W, hW⟩ : ∃ W, W = (w.alloc (.cells (rbC A n c target hold up down) 65)).alloc (.cells #[.slice none 0 0, .int .i64 0, .int .i64 0, .int .i64 0, .int .i64 0] 65) := ⟨_, rfl⟩
  have HB := Lib.hid (show Below w.heap.size w W by rw [hW]; exact bl_alloc (bl_alloc (Below.refl w.heap.size w) _) _)
  have HO := Lib.hid (show Obj1 W w.heap.size (rbC A n c target hold up down) 65 by rw [hW]; exact (Obj1.new w _ _).alloc _)
  have HZ := Lib.hid (show Obj1 W (w.heap.size + 1) #[.slice none 0 0, .int .i64 0, .int .i64 0, .int .i64 0, .int .i64 0] 65 by
    rw [hW]
    have := Obj1.new (w.alloc (.cells (rbC A n c target hold up down) 65)) #[.slice none 0 0, .int .i64 0, .int .i64 0, .int .i64 0, .int .i64 0] 65
    rwa [World.size_alloc] at this)
  have HW := Lib.hid hW
  clear hW h hs hr hf ht
  have c0 : W.cell? ⟨w.heap.size, 0, none⟩ = some (.slice A n c) := HO.out.cell 0
  go_enter Try.func48, Try.ntmps48
  go_upto_region 1 with (fail)
  rw [← HW.out]
  clear HW
  go_wp2_with fail
  go_loopw [7, 13] (fun v i wr => ∃ (k : Nat) (xs : List Value), k ≤ n ∧ i = .int .i64 k ∧ wr.ownsRow (w.heap.size + 2) 84 1 v k xs ∧ RowsB (w.heap.size + 2) wr xs (changeN ls ks tb k) ∧ Below w.heap.size w wr ∧ Obj1 wr w.heap.size (rbC A n c target hold up down) 65 ∧ Obj1 wr (w.heap.size + 1) #[.slice none 0 0, .int .i64 0, .int .i64 0, .int .i64 0, .int .i64 0] 65) (fun _ i _ => n - (intOf i).toNat)
  case atStart => exact ⟨0, [], Nat.zero_le _, rfl, World.ownsRow_nil _ _ _ _, RowsB.nil _ _, HB.out, HO.out, HZ.out⟩
  case round =>
    obtain ⟨k, xs, hk, rfl, hA, hRB, hB, hO, hZ⟩ := hrel
    clear HB HO HZ c0
    have HA := Lib.hid hA
    have HRB := Lib.hid hRB
    have HB := Lib.hid hB
    have HO := Lib.hid hO
    have HZ := Lib.hid hZ
    clear hA hB hO hZ hRB
    by_cases hlt : k < n
    · have hk0 : (0 : Int) ≤ (k : Int) := Int.natCast_nonneg k
      have hk1 : (k : Int) < (n : Int) := by omega
      obtain ⟨l, hl⟩ : ∃ l, ls[k]? = some l := ⟨_, List.getElem?_eq_getElem (by rw [HS.out.len]; exact hlt)⟩
      have hll : l.length = nb := HR.out l (List.mem_of_getElem? hl)
      obtain ⟨b0, o0, a0, m0, d0, rfl, ra, hs0⟩ := HS.out.at hl
      obtain rfl : nb = m0 := by rw [← hll, hs0.1]
      obtain ⟨ad, rfl, rb, _⟩ := HI.out.at k hlt
      obtain ⟨i, hi⟩ : ∃ i : Nat, nth ks k = (i : Int) := ⟨(nth ks k).toNat, by have := HK.out k hlt; omega⟩
      have hib : i < nb := by have := HK.out k hlt; omega
      rw [hi] at rb
      obtain ⟨x, hx⟩ : ∃ x, tb[k]? = some x := ⟨_, List.getElem?_eq_getElem (by rw [HT.out.1]; exact hlt)⟩
      obtain ⟨b2, o2, rfl, x0, x1, x2⟩ := HT.out.bn hx
      have HCH := Lib.hid (show changeN ls ks tb (k + 1) = changeN ls ks tb k ++ [l.set i x] by rw [changeN, hl, hx, hi]; rfl)
      have RA := Lib.hid (bl_keeps HB.out ra)
      have RB := Lib.hid (bl_keeps HB.out rb)
      have RX := Lib.hid (And.intro (bl_keeps HB.out x0) (And.intro (bl_keeps HB.out x1) (bl_keeps HB.out x2)))
      have RL := Lib.hid (hs0.below HB.out)
      have HLL := Lib.hid hll
      have hi0 : (0 : Int) ≤ (i : Int) := Int.natCast_nonneg i
      have hi1 : (i : Int) < (nb : Int) := by omega
      clear ra rb x0 x1 x2 hi hx hl hs0 hll
      have ca : (wr.alloc (.cells #[] 87)).cell? ⟨w.heap.size, 0, none⟩ = some (.slice (some ⟨b0, o0, none⟩) n c) := (HO.out.alloc _).cell 0
      have cb : (wr.alloc (.cells #[] 87)).cell? ⟨b0, o0 + k, none⟩ = some (.slice a0 nb d0) := bl_keeps (bl_alloc (Below.refl _ _) _) RA.out
      go_wp2_with (at_builtin; refine app_new_list wr.heap.size rfl (.tmp 16) (.tmp 21) 84 87 (.agg #[.int .i64 0, .int .i64 0, .int .i64 0]) 3 24 rfl Try.underlying84 (by kernel_rfl) (by simp [Value.cells]) (by omega) (by omega) wr.heap.size a0 nb d0 (fl bnC l) rfl rfl (own_nil wr wr.heap.size 87 3 (Nat.le_refl _)) (by rw [fl_length _ (bnC_len l), HLL.out]) (Rd.below RL.out.2.2.2.2 (bl_alloc (Below.refl _ _) _)) (bnC_one l) (by omega) (by simp) ?_; intro vA w1 hA1 hb1; obtain ⟨g, cap, rfl, hg, hcap, hroom⟩ : ∃ g cap, vA = .slice (some ⟨g, 0, none⟩) nb cap ∧ wr.heap.size ≤ g ∧ cap ≤ 9223372036854775807 ∧ RoomO w1 g nb cap 3 (fl bnC l) 87 := (by rcases own_room hA1 with ⟨h0, _, _⟩ | h0; omega; exact h0); have HG := Lib.hid hg; have HC := Lib.hid hcap; have HX := Lib.hid (show Below wr.heap.size wr w1 from bl_next (bl_alloc (Below.refl _ _) _) hb1); have HRM := Lib.hid hroom; clear hA1 hb1 hg hcap hroom)
      refine wp_region_held_drew (S := fun w' => Below wr.heap.size wr w') (by kernel_rfl) (HX.out.drew) (fun hHeld => ?_)
      have HX := Lib.hid hHeld
      clear hHeld
      have hq : RoomO (World.drew _) g nb cap 3 (fl bnC l) 87 := HRM.out
      clear HRM
      have HRM := Lib.hid hq
      clear hq
      generalize hWd : World.drew _ = W at HX HRM ⊢
      clear hWd
      refine wpAnyH_take (i := 0) (v := ?_) rfl (by kernel_rfl) (by kernel_rfl) (by kernel_rfl) (fun _ _ _ h => h) (Or.inl ⟨by rfl, ?_⟩) HX.out ?_
      rotate_left
      · intro w' hSw; go_simp
        try with_reducible rfl
      go_simp
      refine wpAnyH_take (i := 1) (v := ?_) rfl (by kernel_rfl) (by kernel_rfl) (by kernel_rfl) (fun _ _ _ h => h) (Or.inl ⟨by rfl, ?_⟩) HX.out ?_
      rotate_left
      · intro w' hSw; go_simp
        try with_reducible rfl
      go_simp
      refine wpAnyH_take (i := 2) (v := ?_) rfl (by kernel_rfl) (by kernel_rfl) (by kernel_rfl) (fun _ _ _ h => h) (Or.inl ⟨by rfl, ?_⟩) HX.out ?_
      rotate_left
      · intro w' hSw; go_simp
        try with_reducible rfl
      go_simp
      refine wpAnyH_take (i := 3) (v := ?_) rfl (by kernel_rfl) (by kernel_rfl) (by kernel_rfl) (fun _ _ _ h => h) (Or.inl ⟨by rfl, ?_⟩) HX.out ?_
      rotate_left
      · intro w' hSw; go_simp
        try with_reducible rfl
      go_simp
      refine wpAnyH_take (i := 4) (v := ?_) rfl (by kernel_rfl) (by kernel_rfl) (by kernel_rfl) (fun _ _ _ h => h) (Or.inl ⟨by rfl, ?_⟩) HX.out ?_
      rotate_left
      · intro w' hSw; have c2 := bl_keeps hSw RB.out; go_simp
        try with_reducible rfl
      go_simp
      refine wpAnyH_take (i := 5) (v := ?_) rfl (by kernel_rfl) (by kernel_rfl) (by kernel_rfl) (fun _ _ _ h => h) (Or.inl ⟨by rfl, ?_⟩) HX.out ?_
      rotate_left
      · intro w' hSw; go_simp
        try with_reducible rfl
      go_simp
      refine wpAnyH_take (i := 6) (v := ?_) rfl (by kernel_rfl) (by kernel_rfl) (by kernel_rfl) (fun _ _ _ h => h) (Or.inl ⟨by rfl, ?_⟩) HX.out ?_
      rotate_left
      · intro w' hSw; go_simp
        try with_reducible rfl
      go_simp
      refine wpAnyH_take (i := 7) (v := ?_) rfl (by kernel_rfl) (by kernel_rfl) (by kernel_rfl) (fun _ _ _ h => h) (Or.inl ⟨by rfl, ?_⟩) HX.out ?_
      rotate_left
      · intro w' hSw; go_simp
        try with_reducible rfl
      go_simp
      refine wpAnyH_take (i := 8) (v := .agg #[.int .i64 x.n, .int .i64 x.c, .int .i64 x.p]) rfl (by kernel_rfl) (by kernel_rfl) (by kernel_rfl) (fun _ _ _ h => h) (Or.inl ⟨by rfl, ?_⟩) HX.out ?_
      · intro w' hSw
        have hld := run_loadVar_cells (P := Try.prog) w' ⟨b2, o2 + k * 3, none⟩ 87 [.int .i64 x.n, .int .i64 x.c, .int .i64 x.p] _ (three_cells (bl_keeps hSw RX.out.1) (bl_keeps hSw RX.out.2.1) (bl_keeps hSw RX.out.2.2)) Try.underlying87 rfl (by kernel_rfl)
        simp [execOp, Act.eval, Instr.loadAt, Instr.sureAddr, Sem.run_bind, hld, Result.andThen]
      go_simp
      refine wpAnyH_take (i := 9) (v := ?_) rfl (by kernel_rfl) (by kernel_rfl) (by kernel_rfl) (fun _ _ _ h => h) (Or.inl ⟨by rfl, ?_⟩) HX.out ?_
      rotate_left
      · intro w' hSw; go_simp
        try with_reducible rfl
      go_simp
      refine wpAnyH_ready (rs := [10]) (by kernel_rfl) (by simp) ?_
      refine AllReadyH.cons rfl (fun K hK => ?_) AllReadyH.nil
      refine gwanted rfl ?_
      refine wp_rowAt 87 (.tmp 32) (.tmp 31) rfl g nb cap 3 (i * 3) (fl bnC l) 87 HRM.out (bnC x) (by simp only [bnC, List.length_cons, List.length_nil]; omega) rfl rfl (by kernel_rfl) (bnC_one1 x) ?_
      intro W1 hro hup
      have hX : Below wr.heap.size wr W1 := bl_upd HX.out hup HG.out
      have hq : RoomO W1 g nb cap 3 (fl bnC (l.set i x)) 87 := by rw [fl_set (bnC_len l) x rfl (by rw [HLL.out]; exact hib)]; exact hro
      clear hro hup HRM
      have HRM := Lib.hid hq
      clear hq
      refine hK.out _ _ (hX) (fun hHeld => ?_)
      clear HX hK K
      have HX := Lib.hid hHeld
      clear hHeld
      go_simp
      refine wpAnyH_done (by kernel_rfl) ?_ _
      have HOA := Lib.hid (own_below HA.out HX.out)
      have HRB2 := Lib.hid (HRB.out.below HX.out)
      have HB2 := Lib.hid (bl_next HB.out HX.out)
      have HO2 := Lib.hid (HO.out.below HX.out)
      have HZ2 := Lib.hid (HZ.out.below HX.out)
      have HNEW := Lib.hid (show OwnB (w.heap.size + 2) _ (some ⟨g, 0, none⟩) nb cap (l.set i x) from ⟨⟨by rw [List.length_set, HLL.out], HRM.out.2.1, HC.out, (fun _ h => by cases h; rfl), HRM.out.rd⟩, fun ad e => by
        cases e
        have h1 := HG.out
        have h2 := HZ.out.lt
        obtain ⟨_, _, junk, _, h4⟩ := HRM.out
        exact ⟨by show w.heap.size + 2 ≤ g; omega, _, h4⟩⟩)
      clear HA HRB HB HO HZ HX HRM
      obtain ⟨ol, hol⟩ : ∃ ol : Obj, ol = .cells #[.slice (some ⟨g, 0, none⟩) nb cap] 84 := ⟨_, rfl⟩
      have HAL := Lib.hid (own_below HOA.out (bl_alloc (Below.refl W1.heap.size W1) ol))
      have HRL := Lib.hid ((HRB2.out.snoc HNEW.out).below (bl_alloc (Below.refl W1.heap.size W1) ol))
      have HOL := Lib.hid (HO2.out.alloc ol)
      have HZL := Lib.hid (HZ2.out.alloc ol)
      have HBL := Lib.hid (bl_alloc HB2.out ol)
      have HLL9 := Lib.hid (lit_rd W1 [.slice (some ⟨g, 0, none⟩) nb cap] 84)
      have HSZ := Lib.hid (show w.heap.size + 2 ≤ (W1.alloc ol).heap.size by have := HZ2.out.lt; rw [World.size_alloc]; omega)
      have HN1 := Lib.hid (show ∀ b cs, w.heap.size + 2 ≤ b → Obj1 (W1.alloc ol) b cs 87 → some b ≠ u7.ownBlock from fun b cs _ ho => own_neO ho HAL.out (by decide))
      have HN2 := Lib.hid (own_neO HOL.out HAL.out (by decide))
      have HN3 := Lib.hid (own_neO HZL.out HAL.out (by decide))
      subst hol
      clear HOA HRB2 HNEW HO2 HZ2 HB2
      go_wp2_with (at_builtin; go_loud (refine app_list (w.heap.size + 2) rfl (.tmp 33) (.tmp 35) 63 84 (.slice none 0 0) 1 24 rfl Try.underlying63 (by kernel_rfl) rfl (by omega) (by omega) u7 k xs (some ⟨W1.heap.size, 0, none⟩) 1 1 [.slice (some ⟨g, 0, none⟩) nb cap] rfl rfl HAL.out rfl HLL9.out (by simp [Value.oneCell']) (by omega) HSZ.out ?_); intro v6 w6 hown6 hg6; have HOA6 := Lib.hid hown6; have HRB6 := Lib.hid (HRL.out.grown hg6 HN1.out); have HB6 := Lib.hid (bl_grown HBL.out HAL.out hg6 (by omega)); have HO6 := Lib.hid (HOL.out.of_grown hg6 HN2.out); have HZ6 := Lib.hid (HZL.out.of_grown hg6 HN3.out); clear hown6 hg6)
      go_roundw
      case rel => exact ⟨k + 1, _, by omega, by go_num, HOA6.out, by rw [HCH.out]; exact HRB6.out, HB6.out, HO6.out, HZ6.out⟩
      case measure => simp [intOf]; omega
    · obtain rfl : k = n := by omega
      obtain ⟨A9, c9, rfl, hs9⟩ := SlB.of_own HA.out HRB.out
      have HS9 := Lib.hid hs9
      clear hs9 HA HRB
      have f0 : wr.frozen? ⟨w.heap.size, 0, none⟩ = false := HO.out.free 0
      have c0 : wr.cell? ⟨w.heap.size, 0, none⟩ = some (.slice A k c) := HO.out.cell 0
      have HUB := Lib.hid ((Upd.refl w.heap.size wr).set 0 (.slice A9 k c9))
      have HOB := Lib.hid (show Obj1 _ w.heap.size (rbC A9 k c9 target hold up down) 65 from HO.out.set 0 (.slice A9 k c9))
      have HZB := Lib.hid (HZ.out.of_grown HUB.out (by simp))
      have HSB := Lib.hid (HS9.out.upd HUB.out (by omega))
      have HBB := Lib.hid (bl_upd HB.out HUB.out (Nat.le_refl _))
      go_wp2_with (first
        | (refine load_obj rfl 65 (.tmp 3) rfl w.heap.size 65 (rbC A9 k c9 target hold up down) _ rfl HOB.out Try.underlying65 rfl rfl ?_)
        | (refine store_obj rfl 65 (.tmp 6) (.tmp 40) rfl (w.heap.size + 1) 65 _ (rbC A9 k c9 target hold up down) rfl rfl HZB.out rfl rfl (by simp [rbC, Value.oneCell']) ?_; intro w3 ho3 hu3; have HZ3 := Lib.hid ho3; have HB3 := Lib.hid (bl_upd HBB.out hu3 (by omega)); have HS3 := Lib.hid (HSB.out.upd hu3 (by omega)); clear ho3 hu3))
      refine bodyPost_ret (results_cell_row rfl _ _ (w.heap.size + 1) 65 (rbC A9 k c9 target hold up down) (0, 0) _ rfl HZ3.out Try.underlying65 rfl rfl) rfl ?_
      exact ⟨A9, c9, rfl, HS3.out.mono (by omega), HB3.out⟩
end Go.Proofs.Ytcgabjjdffcjbaa
