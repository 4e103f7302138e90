/- The walk of SipParts: it answers true. -/
import Derived.Test.YtgbdkleckmilkaaSipE
import Derived.Test.YtgbdkleckmilkaaOpenS
import Derived.Deep.RegionHeld3
namespace Go.Proofs.Ytgbdkleckmilkaa
open Go.RowKit
set_option linter.unusedVariables false
set_option linter.unusedSimpArgs false

theorem slsl_of {w : World} {A : Option Addr} {n c : Nat} {rows : List (List Value)} (h : SlQ [.sl .u8] w A n c rows) : ∃ ls, SlSl w A n c ls := by
  have hp : ∀ j, j < n → ∃ l, ∃ ad a m d, A = some ad ∧ w.cell? (ad.add j) = some (.slice a m d) ∧ SlI .u8 w a m d l := fun j hj => by
    obtain ⟨r, hr, ho⟩ := h.row j hj
    obtain ⟨a, m, d, l, hs, hsl⟩ := okS_sl ho 0 .u8 rfl
    obtain ⟨ad, e, hc⟩ := h.2.2.2.2 j r 0 _ hr hs
    simp at hc
    exact ⟨l, ad, a, m, d, e, hc, hsl⟩
  obtain ⟨f, hf⟩ : ∃ f : Nat → List Int, ∀ j, j < n → ∃ ad a m d, A = some ad ∧ w.cell? (ad.add j) = some (.slice a m d) ∧ SlI .u8 w a m d (f j) :=
    ⟨fun j => if hj : j < n then Classical.choose (hp j hj) else [], fun j hj => by
      show ∃ ad a m d, A = some ad ∧ w.cell? (ad.add j) = some (.slice a m d) ∧ SlI .u8 w a m d (if hj : j < n then Classical.choose (hp j hj) else [])
      rw [dif_pos hj]
      exact Classical.choose_spec (hp j hj)⟩
  refine ⟨(List.range n).map f, by simp, h.2.1, h.2.2.1, fun j l hj => ?_⟩
  have hjn : j < n := by
    have := (List.getElem?_eq_some_iff.1 hj).1
    simpa using this
  rw [List.getElem?_map, List.getElem?_range hjn] at hj
  simp only [Option.map_some, Option.some.injEq] at hj
  subst hj
  exact hf j hjn
theorem sumP_w (key : List Int) (hk : key.length = 16) (hkb : ∀ x ∈ key, 0 ≤ x ∧ x ≤ 255) (A : Option Addr) (n c : Nat) (ls : List (List Int)) (all : List Int) (hall : ls.flatten = all) (T : Nat) (hT : all.length = T) (hTb : T ≤ 1000000000) (w : World) (h : SlSl w A n c ls) :
    Calls Try.prog 15 #[.agg (bys key).toArray, .slice A n c] w fun e w' => e = .returned (.int .u64 (uv (sipU key all))) ∧ Below w.heap.size w w' := by
  have h1 := sum_w key hk hkb A n c ls T (by rw [hall]; exact hT) hTb w h
  rw [hall] at h1
  exact h1
theorem slsl_nil (w : World) : SlSl w none 0 0 [] := ⟨rfl, Nat.le_refl _, by omega, fun j l hj => by simp at hj⟩
theorem sli_e (w : World) (A : Option Addr) : SlI .u8 w A 0 0 [] := ⟨rfl, Nat.le_refl _, by omega, Rd.nil _ _, by simp⟩
theorem sli_nil (w : World) : SlI .u8 w none 0 0 [] := ⟨rfl, Nat.le_refl _, by omega, Rd.nil _ _, by simp⟩

theorem nilsum_w (key : List Int) (hk : key.length = 16) (hkb : ∀ x ∈ key, 0 ≤ x ∧ x ≤ 255) (e0 : List Int) (h0 : e0 = []) (w : World) :
    Calls Try.prog 15 #[.agg (bys key).toArray, .slice none 0 0] w fun e w' => e = .returned (.int .u64 (uv (sipU key e0))) ∧ Below w.heap.size w w' := by
  have h1 : ([] : List (List Int)).flatten = e0 := by rw [h0]; rfl
  have h2 : e0.length = 0 := by rw [h0]; rfl
  exact sumP_w key hk hkb none 0 0 [] e0 h1 0 h2 (Nat.zero_le _) w (slsl_nil w)
theorem nilsum2_w (key : List Int) (hk : key.length = 16) (hkb : ∀ x ∈ key, 0 ≤ x ∧ x ≤ 255) (e0 : List Int) (h0 : e0 = []) (B : Nat) (w : World) (h : SlSl w (some ⟨B, 0, none⟩) 2 2 [[], []]) :
    Calls Try.prog 15 #[.agg (bys key).toArray, .slice (some ⟨B, 0, none⟩) 2 2] w fun e w' => e = .returned (.int .u64 (uv (sipU key e0))) ∧ Below w.heap.size w w' := by
  have h1 : ([[], []] : List (List Int)).flatten = e0 := by rw [h0]; rfl
  have h2 : e0.length = 0 := by rw [h0]; rfl
  exact sumP_w key hk hkb (some ⟨B, 0, none⟩) 2 2 [[], []] e0 h1 0 h2 (Nat.zero_le _) w h

set_option maxRecDepth 100000 in
set_option maxHeartbeats 1000000 in
theorem SipParts_x (key : List Int) (hk16 : key.length = 16) (hkb : ∀ x ∈ key, 0 ≤ x ∧ x ≤ 255) (A : Option Addr) (n c : Nat) (ls : List (List Int)) (w : World) (hs : SlSl w A n c ls) :
    Calls Try.prog 5 #[.agg (bys key).toArray, .slice A n c] w fun e w' => e = .returned (.bool true) ∧ Below w.heap.size w w' := by
  have HO1 := Lib.hid (Obj1.new w (bys key).toArray 22)
  have HB := Lib.hid (bl_alloc (Below.refl w.heap.size w) (.cells (bys key).toArray 22))
  have HKS := Lib.hid (key_size0 hk16)
  have hn : n ≤ 9223372036854775807 := Nat.le_trans hs.2.1 hs.2.2.1
  have hll : ls.length = n := hs.1
  have HS := Lib.hid hs
  have HLL := Lib.hid hll
  have hby : ∀ x ∈ ls.flatten, 0 ≤ x ∧ x ≤ 255 := fun x hx => by
    obtain ⟨l, hl, hxl⟩ := List.mem_flatten.1 hx
    obtain ⟨j, hj⟩ := List.getElem?_of_mem hl
    obtain ⟨_, _, _, _, _, _, h1⟩ := hs.2.2.2 j l hj
    exact u8_range (h1.2.2.2.2 x hxl)
  have HBY := Lib.hid hby
  clear hs hll hby
  go_enter Try.func5, Try.ntmps5
  go_wp2_with fail
  refine (awake07_w _).mono ?_
  rintro e w1 ⟨rfl, hb1⟩
  have HP1 := Lib.hid (HO1.out.below hb1)
  have HB1 := Lib.hid (bl_next HB.out hb1)
  clear hb1
  by_cases h30 : 30 < n
  · have h30' : (30 : Int) < (n : Int) := by omega
    go_wp2_with fail
    refine (awake07_w _).mono ?_
    rintro e w2 ⟨rfl, hb2⟩
    have HB2 := Lib.hid (bl_next HB1.out hb2)
    clear hb2
    go_wp2
    go_ret
    exact ⟨rfl, HB2.out⟩
  · have h30' : ¬ (30 : Int) < (n : Int) := by omega
    go_wp2_with fail
    go_loopw [5, 17] (fun v i wr => ∃ k : Nat, k ≤ n ∧ i = .int .i64 k ∧ totN ls k ≤ 30 * k ∧ wr.ownsRow w1.heap.size 5 1 v (totN ls k) (bys (ls.take k).flatten) ∧ Below w1.heap.size w1 wr) (fun _ i _ => n - (intOf i).toNat)
    case atStart => exact ⟨0, Nat.zero_le _, rfl, by simp [totN], World.ownsRow_nil _ _ _ _, Below.refl _ _⟩
    case round =>
      obtain ⟨k, hk, rfl, htk, hown, hbel⟩ := hrel
      have HOQ := Lib.hid hown
      have HBQ := Lib.hid hbel
      have HTK := Lib.hid htk
      clear hown hbel htk
      by_cases hlt : k < n
      · have hk0 : (0 : Int) ≤ (k : Int) := Int.natCast_nonneg k
        have hk1 : (k : Int) < (n : Int) := by omega
        have hl : ls[k]? = some (ls[k]'(by rw [HLL.out]; exact hlt)) := List.getElem?_eq_getElem (by rw [HLL.out]; exact hlt)
        obtain ⟨ad, a, m, d, rfl, hc0, hs⟩ := HS.out.2.2.2 k _ hl
        have hc := bl_keeps HBQ.out (bl_keeps HB1.out hc0)
        have hm : (ls[k]'(by rw [HLL.out]; exact hlt)).length = m := hs.1
        have ht := totN_step hl
        have hf := flat_step hl
        rw [hm] at ht
        obtain ⟨l, hll⟩ : ∃ l, (ls[k]'(by rw [HLL.out]; exact hlt)) = l := ⟨_, rfl⟩
        rw [hll] at hf hm hs
        have HS1 := Lib.hid ((hs.below HB1.out).below HBQ.out)
        have HF := Lib.hid hf
        have HTT := Lib.hid ht
        clear hs hf ht hl hll hc0
        by_cases hm30 : 30 < m
        · have hm30' : (30 : Int) < (m : Int) := by omega
          go_wp2_with fail
          go_ret
          exact ⟨rfl, bl_next HB1.out HBQ.out⟩
        · have hm30' : ¬ (30 : Int) < (m : Int) := by omega
          have hmb : (totN ls k + m) * 1 ≤ 140737488355328 := by have := HTK.out; omega
          go_wp2_with (at_builtin; refine app_list w1.heap.size rfl (.tmp 26) (.tmp 30) 23 5 (.int .u8 0) 1 1 rfl Try.underlying23 (by kernel_rfl) rfl (by omega) (by omega) _ (totN ls k) _ a m d (bys l) rfl rfl HOQ.out (by rw [bys_length, hm]; omega) HS1.out.2.2.2.1 (bys_one l) hmb HBQ.out.size ?_; intro v1 w6 hown6 hg6)
          go_roundw
          case rel => exact ⟨k + 1, by omega, by go_num, by rw [HTT.out]; have := HTK.out; omega, by rw [HF.out, bys_append, HTT.out]; exact hown6, bl_grown HBQ.out HOQ.out hg6 (Nat.le_refl _)⟩
          case measure => simp [intOf]; omega
      · obtain rfl : k = n := by omega
        have hown := HOQ.out
        have htk : ls.take k = ls := List.take_of_length_le (by rw [HLL.out]; exact Nat.le_refl _)
        rw [htk] at hown
        obtain ⟨T, hT⟩ : ∃ T, totN ls k = T := ⟨_, rfl⟩
        have hTb := HTK.out
        rw [hT] at hown hTb
        have hTl : ls.flatten.length = T := by rw [← hT, ← HLL.out]; exact (totN_all ls).symm
        obtain ⟨A2, c2, rfl, hs2⟩ := SlI.ownedB hown hTl HBY.out
        obtain ⟨all, hall⟩ : ∃ all, ls.flatten = all := ⟨_, rfl⟩
        rw [hall] at hs2 hTl
        have HALL := Lib.hid hall
        have HS2 := Lib.hid hs2
        have HTL := Lib.hid hTl
        have HLS := Lib.hid ((HS.out.below HB1.out).below HBQ.out)
        have HK := Lib.hid (HP1.out.below HBQ.out)
        have HBW := Lib.hid (bl_next HB1.out HBQ.out)
        have hTb2 : T ≤ 1000000000 := by omega
        clear hown htk hT hTb hTl hall hs2
        obtain ⟨e0, he0⟩ : ∃ e0 : List Int, e0 = [] := ⟨_, rfl⟩
        have HE0 := Lib.hid he0
        clear he0
        go_wp2_with fail
        refine wp_region_held_drew (S := (fun w' => Obj1 w' w.heap.size (bys key).toArray 22)) (by kernel_rfl) (HK.out.drewN 1) (fun hHeld => ?_)
        obtain ⟨WS, hWS⟩ : ∃ WS, WS = wr := ⟨_, rfl⟩
        rw [← hWS] at HS2 HLS HBW
        have HW0 := Lib.hid (show Below WS.heap.size WS (World.drew wr) by rw [hWS]; exact Below.drew (Below.refl _ _))
        generalize hW0 : World.drew _ = W0 at hHeld HW0 ⊢
        have HX := Lib.hid hHeld
        clear hW0 hHeld hWS HK HOQ HBQ
        refine wpAnyH_take (i := 0) (v := .agg (bys key).toArray) rfl (by kernel_rfl) (by kernel_rfl) (by kernel_rfl) (fun _ _ _ h => h) (Or.inl ⟨by rfl, ?_⟩) HX.out ?_
        · intro w' hSw
          have hld := run_loadVar_row (P := Try.prog) w' w.heap.size 22 22 (bys key).toArray (0, 0) _ hSw Try.underlying22 rfl HKS.out
          simp [execOp, Act.eval, Instr.loadAt, Instr.sureAddr, Sem.run_bind, hld, Result.andThen]
        go_simp
        refine wpAnyH_take (i := 1) (v := ?_) rfl (by kernel_rfl) (by kernel_rfl) (by kernel_rfl) (fun _ _ _ h => h) (Or.inl ⟨by rfl, ?_⟩) HX.out ?_
        rotate_left
        · intro w hSw; go_simp
          try with_reducible rfl
        go_simp
        refine wpAnyH_take (i := 3) (v := .agg (bys key).toArray) rfl (by kernel_rfl) (by kernel_rfl) (by kernel_rfl) (fun _ _ _ h => h) (Or.inl ⟨by rfl, ?_⟩) HX.out ?_
        · intro w' hSw
          have hld := run_loadVar_row (P := Try.prog) w' w.heap.size 22 22 (bys key).toArray (0, 0) _ hSw Try.underlying22 rfl HKS.out
          simp [execOp, Act.eval, Instr.loadAt, Instr.sureAddr, Sem.run_bind, hld, Result.andThen]
        go_simp
        refine wpAnyH_take (i := 4) (v := ?_) rfl (by kernel_rfl) (by kernel_rfl) (by kernel_rfl) (fun _ _ _ h => h) (Or.inl ⟨by rfl, ?_⟩) HX.out ?_
        rotate_left
        · intro w hSw; go_simp
          try with_reducible rfl
        go_simp
        refine wpAnyH_ready (rs := [2, 5]) (by kernel_rfl) (by simp) ?_
        refine AllReadyH.cons rfl (fun K hK => ?_) (AllReadyH.cons rfl (fun K hK => ?_) AllReadyH.nil)
        rotate_left
        go_simp
        refine hK.out _ _ (HX.out.alloc _) (fun hHeld => ?_)
        clear hK K
        obtain ⟨B1, hB1⟩ : ∃ B1, B1 = W0.heap.size := ⟨_, rfl⟩
        have hone := SlSl.oneS W0 23 (HS2.out.below HW0.out)
        have HX10 := hHeld
        have HW10 := bl_alloc HW0.out (.cells #[.slice A2 T c2] 23)
        generalize hWn : World.alloc W0 _ = W1 at hHeld HX10 ⊢
        rw [hWn] at HW10
        rw [hWn, ← hB1] at hone
        have HONE := Lib.hid hone
        clear hone
        rw [← hB1]
        have HX1 := Lib.hid HX10
        have HW1 := Lib.hid HW10
        clear hHeld HX10 HW10 hWn hB1
        refine wpAnyH_ready (rs := [2]) (by kernel_rfl) (by simp) ?_
        refine AllReadyH.cons rfl (fun K hK => ?_) AllReadyH.nil
        go_simp
        go_wp2_with (refine (sumP_w key hk16 hkb A k c ls all HALL.out T HTL.out hTb2 _ (HLS.out.below HW1.out)).mono ?_; rintro e W2 ⟨rfl, hb⟩; have HBq := Lib.hid hb; clear hb)
        refine hK.out _ _ (HX1.out.below HBq.out) (fun hHeld => ?_)
        have HX2 := Lib.hid hHeld
        have HW2 := Lib.hid (bl_next HW1.out HBq.out)
        have HONE1 := Lib.hid (HONE.out.below HBq.out)
        clear hK K hHeld HBq HONE
        have HONE := HONE1
        rotate_left
        go_simp
        go_wp2_with (refine (sumP_w key hk16 hkb A k c ls all HALL.out T HTL.out hTb2 _ (HLS.out.below HW0.out)).mono ?_; rintro e W1 ⟨rfl, hb⟩; have HBq := Lib.hid hb; clear hb)
        refine hK.out _ _ (HX.out.below HBq.out) (fun hHeld => ?_)
        have HX1 := Lib.hid hHeld
        have HW1 := Lib.hid (bl_next HW0.out HBq.out)
        clear hK K hHeld HBq
        refine wpAnyH_ready (rs := [5]) (by kernel_rfl) (by simp) ?_
        refine AllReadyH.cons rfl (fun K hK => ?_) AllReadyH.nil
        go_simp
        refine hK.out _ _ (HX1.out.alloc _) (fun hHeld => ?_)
        clear hK K
        obtain ⟨B1, hB1⟩ : ∃ B1, B1 = W1.heap.size := ⟨_, rfl⟩
        have hone := SlSl.oneS W1 23 (HS2.out.below HW1.out)
        have HX20 := hHeld
        have HW20 := bl_alloc HW1.out (.cells #[.slice A2 T c2] 23)
        generalize hWn : World.alloc W1 _ = W2 at hHeld HX20 ⊢
        rw [hWn] at HW20
        rw [hWn, ← hB1] at hone
        have HONE := Lib.hid hone
        clear hone
        rw [← hB1]
        have HX2 := Lib.hid HX20
        have HW2 := Lib.hid HW20
        clear hHeld HX20 HW20 hWn hB1
        all_goals
          refine wpAnyH_ready (rs := [6]) (by kernel_rfl) (by simp) ?_
          refine AllReadyH.cons rfl (fun K hK => ?_) AllReadyH.nil
          go_simp
          go_wp2_with (refine (sum1_w key hk16 hkb all T HTL.out hTb2 _ HONE.out).mono ?_; rintro e W3 ⟨rfl, hb⟩; have HBq := Lib.hid hb; clear hb)
          refine hK.out _ _ (HX2.out.below HBq.out) (fun hHeld => ?_)
          have HX3 := Lib.hid hHeld
          have HW3 := Lib.hid (bl_next HW2.out HBq.out)
          clear hK K hHeld HBq
          refine wpAnyH_take (i := 7) (v := ?_) rfl (by kernel_rfl) (by kernel_rfl) (by kernel_rfl) (fun _ _ _ h => h) (Or.inl ⟨by rfl, ?_⟩) HX3.out ?_
          rotate_left
          · intro w hSw; go_simp
            try with_reducible rfl
          go_simp
          refine wpAnyH_take (i := 8) (v := ?_) rfl (by kernel_rfl) (by kernel_rfl) (by kernel_rfl) (fun _ _ _ h => h) (Or.inl ⟨by rfl, ?_⟩) HX3.out ?_
          rotate_left
          · intro w hSw; go_simp
            try with_reducible rfl
          go_simp
          refine wpAnyH_take (i := 9) (v := .agg (bys key).toArray) rfl (by kernel_rfl) (by kernel_rfl) (by kernel_rfl) (fun _ _ _ h => h) (Or.inl ⟨by rfl, ?_⟩) HX3.out ?_
          · intro w' hSw
            have hld := run_loadVar_row (P := Try.prog) w' w.heap.size 22 22 (bys key).toArray (0, 0) _ hSw Try.underlying22 rfl HKS.out
            simp [execOp, Act.eval, Instr.loadAt, Instr.sureAddr, Sem.run_bind, hld, Result.andThen]
          go_simp
          refine wpAnyH_take (i := 11) (v := .agg (bys key).toArray) rfl (by kernel_rfl) (by kernel_rfl) (by kernel_rfl) (fun _ _ _ h => h) (Or.inl ⟨by rfl, ?_⟩) HX3.out ?_
          · intro w' hSw
            have hld := run_loadVar_row (P := Try.prog) w' w.heap.size 22 22 (bys key).toArray (0, 0) _ hSw Try.underlying22 rfl HKS.out
            simp [execOp, Act.eval, Instr.loadAt, Instr.sureAddr, Sem.run_bind, hld, Result.andThen]
          go_simp
          refine wpAnyH_ready (rs := [10, 12]) (by kernel_rfl) (by simp) ?_
          refine AllReadyH.cons rfl (fun K hK => ?_) (AllReadyH.cons rfl (fun K hK => ?_) AllReadyH.nil)
          rotate_left
          go_simp
          refine hK.out _ _ (HX3.out.alloc _) (fun hHeld => ?_)
          clear hK K
          obtain ⟨B2, hB2⟩ : ∃ B2, B2 = W3.heap.size := ⟨_, rfl⟩
          
          have HX40 := hHeld
          have HW40 := bl_alloc HW3.out (.cells #[] 5)
          generalize hWn : World.alloc W3 _ = W4 at hHeld HX40 ⊢
          rw [hWn] at HW40
          
          rw [← hB2]
          have HX4 := Lib.hid HX40
          have HW4 := Lib.hid HW40
          clear hHeld HX40 HW40 hWn hB2
          refine wpAnyH_ready (rs := [10, 13]) (by kernel_rfl) (by simp) ?_
          refine AllReadyH.cons rfl (fun K hK => ?_) (AllReadyH.cons rfl (fun K hK => ?_) AllReadyH.nil)
          rotate_left
          go_simp
          refine hK.out _ _ (HX4.out.alloc _) (fun hHeld => ?_)
          clear hK K
          obtain ⟨B3, hB3⟩ : ∃ B3, B3 = W4.heap.size := ⟨_, rfl⟩
          have htwo := SlSl.two W4 23 (sli_nil _) (sli_e _ (some ⟨B2, 0, none⟩))
          have HX50 := hHeld
          have HW50 := bl_alloc HW4.out (.cells #[.slice none 0 0, .slice (some ⟨B2, 0, none⟩) 0 0] 23)
          generalize hWn : World.alloc W4 _ = W5 at hHeld HX50 ⊢
          rw [hWn] at HW50
          rw [hWn, ← hB3] at htwo
          have HTWO := Lib.hid htwo
          clear htwo
          rw [← hB3]
          have HX5 := Lib.hid HX50
          have HW5 := Lib.hid HW50
          clear hHeld HX50 HW50 hWn hB3
          refine wpAnyH_ready (rs := [10]) (by kernel_rfl) (by simp) ?_
          refine AllReadyH.cons rfl (fun K hK => ?_) AllReadyH.nil
          go_simp
          refine (nilsum_w key hk16 hkb e0 HE0.out _).mono ?_
          rintro e W6 ⟨rfl, hb⟩
          have HBq := Lib.hid hb
          clear hb
          dsimp only
          refine hK.out _ _ (HX5.out.below HBq.out) (fun hHeld => ?_)
          have HX6 := Lib.hid hHeld
          have HW6 := Lib.hid (bl_next HW5.out HBq.out)
          have HTWO1 := Lib.hid (HTWO.out.below HBq.out)
          clear hK K hHeld HBq HTWO
          have HTWO := HTWO1
          refine wpAnyH_ready (rs := [14]) (by kernel_rfl) (by simp) ?_
          refine AllReadyH.cons rfl (fun K hK => ?_) AllReadyH.nil
          go_simp
          refine (nilsum2_w key hk16 hkb e0 HE0.out B3 _ HTWO.out).mono ?_
          rintro e W7 ⟨rfl, hb⟩
          have HBq := Lib.hid hb
          clear hb
          dsimp only
          refine hK.out _ _ (HX6.out.below HBq.out) (fun hHeld => ?_)
          have HX7 := Lib.hid hHeld
          have HW7 := Lib.hid (bl_next HW6.out HBq.out)
          clear hK K hHeld HBq
          rotate_left 2
          go_simp
          refine (nilsum_w key hk16 hkb e0 HE0.out _).mono ?_
          rintro e W5 ⟨rfl, hb⟩
          have HBq := Lib.hid hb
          clear hb
          dsimp only
          refine hK.out _ _ (HX4.out.below HBq.out) (fun hHeld => ?_)
          have HX5 := Lib.hid hHeld
          have HW5 := Lib.hid (bl_next HW4.out HBq.out)
          clear hK K hHeld HBq
          refine wpAnyH_ready (rs := [13]) (by kernel_rfl) (by simp) ?_
          refine AllReadyH.cons rfl (fun K hK => ?_) AllReadyH.nil
          go_simp
          refine hK.out _ _ (HX5.out.alloc _) (fun hHeld => ?_)
          clear hK K
          obtain ⟨B3, hB3⟩ : ∃ B3, B3 = W5.heap.size := ⟨_, rfl⟩
          have htwo := SlSl.two W5 23 (sli_nil _) (sli_e _ (some ⟨B2, 0, none⟩))
          have HX60 := hHeld
          have HW60 := bl_alloc HW5.out (.cells #[.slice none 0 0, .slice (some ⟨B2, 0, none⟩) 0 0] 23)
          generalize hWn : World.alloc W5 _ = W6 at hHeld HX60 ⊢
          rw [hWn] at HW60
          rw [hWn, ← hB3] at htwo
          have HTWO := Lib.hid htwo
          clear htwo
          rw [← hB3]
          have HX6 := Lib.hid HX60
          have HW6 := Lib.hid HW60
          clear hHeld HX60 HW60 hWn hB3
          refine wpAnyH_ready (rs := [14]) (by kernel_rfl) (by simp) ?_
          refine AllReadyH.cons rfl (fun K hK => ?_) AllReadyH.nil
          go_simp
          refine (nilsum2_w key hk16 hkb e0 HE0.out B3 _ HTWO.out).mono ?_
          rintro e W7 ⟨rfl, hb⟩
          have HBq := Lib.hid hb
          clear hb
          dsimp only
          refine hK.out _ _ (HX6.out.below HBq.out) (fun hHeld => ?_)
          have HX7 := Lib.hid hHeld
          have HW7 := Lib.hid (bl_next HW6.out HBq.out)
          clear hK K hHeld HBq
          rotate_left 2
          go_simp
          refine (nilsum_w key hk16 hkb e0 HE0.out _).mono ?_
          rintro e W4 ⟨rfl, hb⟩
          have HBq := Lib.hid hb
          clear hb
          dsimp only
          refine hK.out _ _ (HX3.out.below HBq.out) (fun hHeld => ?_)
          have HX4 := Lib.hid hHeld
          have HW4 := Lib.hid (bl_next HW3.out HBq.out)
          clear hK K hHeld HBq
          refine wpAnyH_ready (rs := [12]) (by kernel_rfl) (by simp) ?_
          refine AllReadyH.cons rfl (fun K hK => ?_) AllReadyH.nil
          go_simp
          refine hK.out _ _ (HX4.out.alloc _) (fun hHeld => ?_)
          clear hK K
          obtain ⟨B2, hB2⟩ : ∃ B2, B2 = W4.heap.size := ⟨_, rfl⟩
          
          have HX50 := hHeld
          have HW50 := bl_alloc HW4.out (.cells #[] 5)
          generalize hWn : World.alloc W4 _ = W5 at hHeld HX50 ⊢
          rw [hWn] at HW50
          
          rw [← hB2]
          have HX5 := Lib.hid HX50
          have HW5 := Lib.hid HW50
          clear hHeld HX50 HW50 hWn hB2
          refine wpAnyH_ready (rs := [13]) (by kernel_rfl) (by simp) ?_
          refine AllReadyH.cons rfl (fun K hK => ?_) AllReadyH.nil
          go_simp
          refine hK.out _ _ (HX5.out.alloc _) (fun hHeld => ?_)
          clear hK K
          obtain ⟨B3, hB3⟩ : ∃ B3, B3 = W5.heap.size := ⟨_, rfl⟩
          have htwo := SlSl.two W5 23 (sli_nil _) (sli_e _ (some ⟨B2, 0, none⟩))
          have HX60 := hHeld
          have HW60 := bl_alloc HW5.out (.cells #[.slice none 0 0, .slice (some ⟨B2, 0, none⟩) 0 0] 23)
          generalize hWn : World.alloc W5 _ = W6 at hHeld HX60 ⊢
          rw [hWn] at HW60
          rw [hWn, ← hB3] at htwo
          have HTWO := Lib.hid htwo
          clear htwo
          rw [← hB3]
          have HX6 := Lib.hid HX60
          have HW6 := Lib.hid HW60
          clear hHeld HX60 HW60 hWn hB3
          refine wpAnyH_ready (rs := [14]) (by kernel_rfl) (by simp) ?_
          refine AllReadyH.cons rfl (fun K hK => ?_) AllReadyH.nil
          go_simp
          refine (nilsum2_w key hk16 hkb e0 HE0.out B3 _ HTWO.out).mono ?_
          rintro e W7 ⟨rfl, hb⟩
          have HBq := Lib.hid hb
          clear hb
          dsimp only
          refine hK.out _ _ (HX6.out.below HBq.out) (fun hHeld => ?_)
          have HX7 := Lib.hid hHeld
          have HW7 := Lib.hid (bl_next HW6.out HBq.out)
          clear hK K hHeld HBq
        all_goals
          refine wpAnyH_take (i := 15) (v := ?_) rfl (by kernel_rfl) (by kernel_rfl) (by kernel_rfl) (fun _ _ _ h => h) (Or.inl ⟨by rfl, ?_⟩) HX7.out ?_
          rotate_left
          · intro w hSw; go_simp
            try with_reducible rfl
          go_simp
          refine wpAnyH_take (i := 16) (v := ?_) rfl (by kernel_rfl) (by kernel_rfl) (by kernel_rfl) (fun _ _ _ h => h) (Or.inl ⟨by rfl, ?_⟩) HX7.out ?_
          rotate_left
          · intro w hSw; go_simp
            try with_reducible rfl
          go_simp
          refine wpAnyH_take (i := 17) (v := ?_) rfl (by kernel_rfl) (by kernel_rfl) (by kernel_rfl) (fun _ _ _ h => h) (Or.inl ⟨by rfl, ?_⟩) HX7.out ?_
          rotate_left
          · intro w hSw; go_simp
            try with_reducible rfl
          go_simp
          refine wpAnyH_done (by kernel_rfl) ?_ _
          go_wp2
          go_ret
          exact ⟨rfl, bl_next HBW.out HW7.out⟩

theorem SipParts_w (l0 : Array Value) (a1 : Option Addr) (n1 c1 : Nat) (l1 : List (List Value)) (W : World) (w0 : okCells (List.replicate 16 (.i .u8)) l0.toList) (w1 : SlQ [.sl .u8] W a1 n1 c1 l1) :
    Calls Try.prog 5 #[.agg l0, .slice a1 n1 c1] W fun e w' => e = .returned (.bool true) ∧ Below W.heap.size W w' := by
  obtain ⟨key, h1, hk, hkb⟩ := bytes_of w0
  obtain rfl : l0 = (bys key).toArray := by rw [← h1]
  obtain ⟨ls, hls⟩ := slsl_of w1
  exact SipParts_x key hk hkb a1 n1 c1 ls W hls
end Go.Proofs.Ytgbdkleckmilkaa
