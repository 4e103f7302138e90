/- The walks of package audit. -/
import Derived.Test.YtlnfenjoagkpdaaSrt
import Derived.StillTailTactics
namespace Go.Proofs.Ytlnfenjoagkpdaa
open Go.RowKit
set_option linter.unusedVariables false
set_option linter.unusedSimpArgs false

/-- A statement as a Bool. -/
noncomputable def pb (p : Prop) : Bool := @decide p (Classical.propDecidable p)
theorem pb_true {p : Prop} (h : p) : pb p = true := @decide_eq_true p (Classical.propDecidable p) h
theorem pb_false {p : Prop} (h : ¬ p) : pb p = false := @decide_eq_false p (Classical.propDecidable p) h
theorem of_pb {p : Prop} (h : pb p = true) : p := Classical.byContradiction fun hn => by rw [pb_false hn] at h; cases h
theorem of_pbn {p : Prop} (h : pb p = false) : ¬ p := fun hp => by rw [pb_true hp] at h; cases h
theorem okDp_at {l : List Dp} (h : ∀ d ∈ l, okDp d) {k : Nat} {d : Dp} (hk : l[k]? = some d) : okDp d := h d (List.mem_of_getElem? hk)
set_option maxHeartbeats 1000000 in
theorem apart_w (A : Option Addr) (n cp : Nat) (l : List Dp) (hl : ∀ d ∈ l, okDp d) (w : World) (h : SlD w A n cp l) :
    Calls Try.prog 28 #[.slice A n cp] w fun e w' => e = .returned (.bool (pb (apartP l))) ∧ Below w.heap.size w w' := by
  have hn : n ≤ 9223372036854775807 := Nat.le_trans h.2.1 h.2.2.1
  have HS := Lib.hid h
  clear h
  go_enter Try.func28, Try.ntmps28
  go_wp2_with fail
  go_loopw [3] (fun i wr => ∃ (k qd : Nat), 1 ≤ k ∧ (k ≤ n ∨ k = 1) ∧ i = .int .i64 k ∧ (∀ (j : Nat) (x y : Dp), j + 1 < k → l[j]? = some x → l[j + 1]? = some y → x.fi ≤ y.st) ∧ wr = w.drewN qd) (fun i _ => n - (intOf i).toNat)
  case atStart => exact ⟨1, 0, by omega, .inr rfl, rfl, fun j x y hj => absurd hj (by omega), rfl⟩
  case round =>
    obtain ⟨k, qd, hk1, hkn, rfl, hall, rfl⟩ := hrel
    have HA := Lib.hid hall
    clear hall
    by_cases hlt : k < n
    · have hlt' : k < l.length := by rw [HS.out.1]; exact hlt
      obtain ⟨y, hy⟩ : ∃ y, l[k]? = some y := ⟨_, List.getElem?_eq_getElem hlt'⟩
      obtain ⟨x, hx⟩ : ∃ x, l[k - 1]? = some x := ⟨_, List.getElem?_eq_getElem (by omega)⟩
      obtain ⟨m, hm⟩ : ∃ m, m = k - 1 := ⟨_, rfl⟩
      rw [← hm] at hx
      obtain ⟨b, o, rfl, _, _, _, y3, _⟩ := HS.out.dp hy
      obtain ⟨b2, o2, e2, _, _, _, _, x4⟩ := HS.out.dp hx
      cases e2
      have hm0 : (0 : Int) ≤ (m : Int) := Int.natCast_nonneg m
      have hm1 : (m : Int) < (n : Int) := by omega
      have hk0 : (0 : Int) ≤ (k : Int) := Int.natCast_nonneg k
      have hk2 : (k : Int) < (n : Int) := by omega
      have hkm : IntKind.i64.wrap ((k : Int) - 1) = (m : Int) := by rw [IntWalk.i64_in _ (by omega)]; omega
      have HX := Lib.hid hx
      have HY := Lib.hid hy
      have HM := Lib.hid hm
      clear hx hy hm
      by_cases hlo : y.st < x.fi
      · have d1 : decide (y.st < x.fi) = true := decide_eq_true hlo
        go_wp2_with fail
        go_quiet (fail)
        go_wp2
        go_ret
        exact ⟨by rw [pb_false (fun ha => by have := ha m x y HX.out (by rw [HM.out, Nat.sub_add_cancel hk1]; exact HY.out); omega)]; rfl, (by first | exact bl_drewN (Below.refl _ _) _ | exact bl_drewN (bl_drewN (Below.refl _ _) _) _)⟩
      · have d1 : decide (y.st < x.fi) = false := decide_eq_false hlo
        go_wp2_with fail
        go_quiet (fail)
        go_wp2_with fail
        go_roundw
        case rel => exact ⟨k + 1, _, by omega, .inl (by omega), by go_num, fun j a c hj ha hc => by
          rcases Nat.lt_or_ge (j + 1) k with h | h
          · exact HA.out j a c h ha hc
          · have e : j = m := by have := HM.out; omega
            rw [e, HX.out] at ha
            rw [e, show m + 1 = k by have := HM.out; omega, HY.out] at hc
            cases ha
            cases hc
            omega, rfl⟩
        case measure => simp [intOf]; omega
    · have hk2 : ¬ (k : Int) < (n : Int) := by omega
      go_wp2
      go_ret
      exact ⟨by rw [pb_true (p := apartP l) (fun j x y hx hy => HA.out j x y (by have := (List.getElem?_eq_some_iff.1 hy).1; have := HS.out.1; omega) hx hy)]; rfl, (by first | exact bl_drewN (Below.refl _ _) _ | exact bl_drewN (bl_drewN (Below.refl _ _) _) _)⟩

theorem nth_at {l : List Int} {k : Nat} (h : k < l.length) : l[k]? = some (nth l k) := by
  simp [nth, List.getD_eq_getElem?_getD, List.getElem?_eq_getElem h]
set_option maxRecDepth 100000 in
set_option maxHeartbeats 2000000 in
theorem exact_w (A : Option Addr) (n cp : Nat) (l : List Dp) (hl : ∀ d ∈ l, okDp d) (ns : Int) (w : World) (h : SlD w A n cp l) :
    Calls Try.prog 29 #[.slice A n cp, .int .i64 ns] w fun e w' => e = .returned (.bool (pb (exactP l ns))) ∧ Below w.heap.size w w' := by
  have hn : n ≤ 9223372036854775807 := Nat.le_trans h.2.1 h.2.2.1
  have HS := Lib.hid h
  clear h
  go_enter Try.func29, Try.ntmps29
  go_wp2_with fail
  go_loopw [9] (fun i wr => ∃ (k : Nat), k ≤ n ∧ i = .int .i64 k ∧ (∀ (j : Nat) (x : Dp), j < k → l[j]? = some x → x.fi = plus (cnt x.st) (mulC x.ln ns)) ∧ Below w.heap.size w wr) (fun i _ => n - (intOf i).toNat)
  case atStart => exact ⟨0, Nat.zero_le _, rfl, fun j x hj => absurd hj (by omega), Below.refl _ _⟩
  case round =>
    obtain ⟨k, hk, rfl, hall, hbw⟩ := hrel
    have HA := Lib.hid hall
    have HBW := Lib.hid hbw
    clear hall hbw
    by_cases hlt : k < n
    · have hlt' : k < l.length := by rw [HS.out.1]; exact hlt
      obtain ⟨d, hd⟩ : ∃ d, l[k]? = some d := ⟨_, List.getElem?_eq_getElem hlt'⟩
      have HSW := Lib.hid (HS.out.below HBW.out)
      obtain ⟨b, o, rfl, r0, r1, r2, r3, r4⟩ := HSW.out.dp hd
      have hok := okDp_at hl hd
      have hk0 : (0 : Int) ≤ (k : Int) := Int.natCast_nonneg k
      have hk1 : (k : Int) < (n : Int) := by omega
      have HD := Lib.hid hd
      clear hd
      go_upto_region 4 with (refine store_obj rfl 62 (.tmp 6) (.tmp 12) rfl wr.heap.size 62 _ #[.int .i64 d.sq, .int .i64 d.cl, .int .i64 d.ln, .int .i64 d.st, .int .i64 d.fi] rfl rfl (Obj1.new wr _ _) rfl rfl (by simp [Value.oneCell']) ?_; intro W ho3 hu3; have HU3 := Lib.hid hu3; have HX3 := Lib.hid ho3; clear ho3 hu3)
      obtain ⟨X, hX⟩ : ∃ X, X = wr.heap.size := ⟨_, rfl⟩
      rw [← hX] at HU3 HX3 ⊢
      have hba : Below wr.heap.size wr (wr.alloc (.cells #[.int .i64 0, .int .i64 0, .int .i64 0, .int .i64 0, .int .i64 0] 62)) := bl_alloc (Below.refl _ _) _
      have HB3 := Lib.hid (bl_upd (bl_next HBW.out hba) HU3.out (by rw [hX]; exact HBW.out.size))
      clear HBW hba r0 r1 r2 r3 r4 HSW HU3
      have HBW := HB3
      have HX := HX3
      clear HB3 HX3 hX
      obtain ⟨p, hp⟩ : ∃ p, p = plus (cnt d.st) (mulC d.ln ns) := ⟨_, rfl⟩
      have HP := Lib.hid hp
      clear hp
      by_cases hex : d.fi = p
      · have HEX := Lib.hid hex
        have d1 : decide (d.fi = p) = true := decide_eq_true hex
        have d2 : (d.fi == p) = true := by simp [hex]
        have d3 : (d.fi != p) = false := by simp [hex]
        clear hex
        refine wp_region_held_drew (S := fun w' => Obj1 w' X #[.int .i64 d.sq, .int .i64 d.cl, .int .i64 d.ln, .int .i64 d.st, .int .i64 d.fi] 62) (by kernel_rfl) (HX.out) (fun hHeld => ?_)
        have HX := Lib.hid hHeld
        clear hHeld
        generalize hWd : World.drew _ = W at HX ⊢
        have hbw : Below w.heap.size w W := by rw [← hWd]; exact bl_drewN HBW.out 1
        clear HBW hWd
        have HBW := Lib.hid hbw
        clear hbw
        refine wpAnyH_take (i := 0) (v := ?_) rfl (by kernel_rfl) (by kernel_rfl) (by kernel_rfl) (fun _ _ _ h => h) (Or.inl ⟨by rfl, ?_⟩) HX.out ?_
        rotate_left
        · intro w' hSw; go_simp
          try with_reducible rfl
        go_simp
        refine wpAnyH_take (i := 1) (v := ?_) rfl (by kernel_rfl) (by kernel_rfl) (by kernel_rfl) (fun _ _ _ h => h) (Or.inl ⟨by rfl, ?_⟩) HX.out ?_
        rotate_left
        · intro w' hSw; have c4 : w'.cell? ⟨X, 4, none⟩ = some (.int .i64 d.fi) := hSw.cell 4; go_simp
          try with_reducible rfl
        go_simp
        refine wpAnyH_take (i := 2) (v := ?_) rfl (by kernel_rfl) (by kernel_rfl) (by kernel_rfl) (fun _ _ _ h => h) (Or.inl ⟨by rfl, ?_⟩) HX.out ?_
        rotate_left
        · intro w' hSw; go_simp
          try with_reducible rfl
        go_simp
        refine wpAnyH_take (i := 3) (v := ?_) rfl (by kernel_rfl) (by kernel_rfl) (by kernel_rfl) (fun _ _ _ h => h) (Or.inl ⟨by rfl, ?_⟩) HX.out ?_
        rotate_left
        · intro w' hSw; have c3 : w'.cell? ⟨X, 3, none⟩ = some (.int .i64 d.st) := hSw.cell 3; go_simp
          try with_reducible rfl
        go_simp
        refine wpAnyH_take (i := 4) (v := ?_) rfl (by kernel_rfl) (by kernel_rfl) (by kernel_rfl) (fun _ _ _ h => h) (Or.inl ⟨by rfl, ?_⟩) HX.out ?_
        rotate_left
        · intro w' hSw; go_simp
          try with_reducible rfl
        go_simp
        refine wpAnyH_take (i := 5) (v := ?_) rfl (by kernel_rfl) (by kernel_rfl) (by kernel_rfl) (fun _ _ _ h => h) (Or.inl ⟨by rfl, ?_⟩) HX.out ?_
        rotate_left
        · intro w' hSw; have c2 : w'.cell? ⟨X, 2, none⟩ = some (.int .i64 d.ln) := hSw.cell 2; go_simp
          try with_reducible rfl
        go_simp
        refine wpAnyH_take (i := 6) (v := ?_) rfl (by kernel_rfl) (by kernel_rfl) (by kernel_rfl) (fun _ _ _ h => h) (Or.inl ⟨by rfl, ?_⟩) HX.out ?_
        rotate_left
        · intro w' hSw; go_simp
          try with_reducible rfl
        go_simp
        refine wpAnyH_ready (rs := [7]) (by kernel_rfl) (by simp) ?_
        refine AllReadyH.cons rfl (fun K hK => ?_) AllReadyH.nil
        go_simp
        refine (Mul_w d.ln ns _).mono ?_
        rintro e w' ⟨rfl, rfl⟩
        have hX : Obj1 W X #[.int .i64 d.sq, .int .i64 d.cl, .int .i64 d.ln, .int .i64 d.st, .int .i64 d.fi] 62 := HX.out
        dsimp only
        refine hK.out _ _ (hX) (fun hHeld => ?_)
        clear HX hK K
        have HX := Lib.hid hHeld
        clear hHeld
        go_simp
        refine wpAnyH_ready (rs := [8]) (by kernel_rfl) (by simp) ?_
        refine AllReadyH.cons rfl (fun K hK => ?_) AllReadyH.nil
        go_simp
        have hL := Obj1.new W #[.int .i64 d.st, .int .i64 (mulC d.ln ns)] 2
        have hb := bl_alloc (Below.refl W.heap.size W) (.cells #[.int .i64 d.st, .int .i64 (mulC d.ln ns)] 2)
        obtain ⟨gL, hgL⟩ : ∃ gL, gL = W.heap.size := ⟨_, rfl⟩
        rw [← hgL] at hL
        rw [← hgL]
        generalize hWn : World.alloc _ _ = W at hL hb ⊢
        clear hWn hgL
        have hX : Obj1 W X #[.int .i64 d.sq, .int .i64 d.cl, .int .i64 d.ln, .int .i64 d.st, .int .i64 d.fi] 62 := HX.out.below hb
        have hbw := bl_next HBW.out hb
        clear HBW hb
        have HBW := Lib.hid hbw
        have HL := Lib.hid hL
        clear hbw hL
        refine hK.out _ _ (hX) (fun hHeld => ?_)
        clear HX hK K
        have HX := Lib.hid hHeld
        clear hHeld
        go_simp
        refine wpAnyH_ready (rs := [9]) (by kernel_rfl) (by simp) ?_
        refine AllReadyH.cons rfl (fun K hK => ?_) AllReadyH.nil
        go_simp
        refine (Add2_w d.st (mulC d.ln ns) gL _ (HL.out.cell 0) (HL.out.cell 1)).mono ?_
        rintro e w' ⟨rfl, rfl⟩
        rw [← HP.out]
        have hX : Obj1 W X #[.int .i64 d.sq, .int .i64 d.cl, .int .i64 d.ln, .int .i64 d.st, .int .i64 d.fi] 62 := HX.out
        dsimp only
        refine hK.out _ _ (hX) (fun hHeld => ?_)
        clear HX hK K
        have HX := Lib.hid hHeld
        clear hHeld
        go_simp
        refine wpAnyH_take (i := 10) (v := ?_) rfl (by kernel_rfl) (by kernel_rfl) (by kernel_rfl) (fun _ _ _ h => h) (Or.inl ⟨by rfl, ?_⟩) HX.out ?_
        rotate_left
        · intro w' hSw; go_simp
          try with_reducible rfl
        go_simp
        refine wpAnyH_done (by kernel_rfl) ?_ _
        go_wp2_with fail
        go_roundw
        case rel => exact ⟨k + 1, by omega, by go_num, fun j x hj hx => by
          rcases Nat.lt_or_ge j k with h | h
          · exact HA.out j x h hx
          · obtain rfl : j = k := by omega
            rw [HD.out] at hx
            cases hx
            rw [HEX.out, HP.out], HBW.out⟩
        case measure => simp [intOf]; omega
      · have HEX := Lib.hid hex
        have d1 : decide (d.fi = p) = false := decide_eq_false hex
        have d2 : (d.fi == p) = false := by simp [hex]
        have d3 : (d.fi != p) = true := by simp [hex]
        clear hex
        refine wp_region_held_drew (S := fun w' => Obj1 w' X #[.int .i64 d.sq, .int .i64 d.cl, .int .i64 d.ln, .int .i64 d.st, .int .i64 d.fi] 62) (by kernel_rfl) (HX.out) (fun hHeld => ?_)
        have HX := Lib.hid hHeld
        clear hHeld
        generalize hWd : World.drew _ = W at HX ⊢
        have hbw : Below w.heap.size w W := by rw [← hWd]; exact bl_drewN HBW.out 1
        clear HBW hWd
        have HBW := Lib.hid hbw
        clear hbw
        refine wpAnyH_take (i := 0) (v := ?_) rfl (by kernel_rfl) (by kernel_rfl) (by kernel_rfl) (fun _ _ _ h => h) (Or.inl ⟨by rfl, ?_⟩) HX.out ?_
        rotate_left
        · intro w' hSw; go_simp
          try with_reducible rfl
        go_simp
        refine wpAnyH_take (i := 1) (v := ?_) rfl (by kernel_rfl) (by kernel_rfl) (by kernel_rfl) (fun _ _ _ h => h) (Or.inl ⟨by rfl, ?_⟩) HX.out ?_
        rotate_left
        · intro w' hSw; have c4 : w'.cell? ⟨X, 4, none⟩ = some (.int .i64 d.fi) := hSw.cell 4; go_simp
          try with_reducible rfl
        go_simp
        refine wpAnyH_take (i := 2) (v := ?_) rfl (by kernel_rfl) (by kernel_rfl) (by kernel_rfl) (fun _ _ _ h => h) (Or.inl ⟨by rfl, ?_⟩) HX.out ?_
        rotate_left
        · intro w' hSw; go_simp
          try with_reducible rfl
        go_simp
        refine wpAnyH_take (i := 3) (v := ?_) rfl (by kernel_rfl) (by kernel_rfl) (by kernel_rfl) (fun _ _ _ h => h) (Or.inl ⟨by rfl, ?_⟩) HX.out ?_
        rotate_left
        · intro w' hSw; have c3 : w'.cell? ⟨X, 3, none⟩ = some (.int .i64 d.st) := hSw.cell 3; go_simp
          try with_reducible rfl
        go_simp
        refine wpAnyH_take (i := 4) (v := ?_) rfl (by kernel_rfl) (by kernel_rfl) (by kernel_rfl) (fun _ _ _ h => h) (Or.inl ⟨by rfl, ?_⟩) HX.out ?_
        rotate_left
        · intro w' hSw; go_simp
          try with_reducible rfl
        go_simp
        refine wpAnyH_take (i := 5) (v := ?_) rfl (by kernel_rfl) (by kernel_rfl) (by kernel_rfl) (fun _ _ _ h => h) (Or.inl ⟨by rfl, ?_⟩) HX.out ?_
        rotate_left
        · intro w' hSw; have c2 : w'.cell? ⟨X, 2, none⟩ = some (.int .i64 d.ln) := hSw.cell 2; go_simp
          try with_reducible rfl
        go_simp
        refine wpAnyH_take (i := 6) (v := ?_) rfl (by kernel_rfl) (by kernel_rfl) (by kernel_rfl) (fun _ _ _ h => h) (Or.inl ⟨by rfl, ?_⟩) HX.out ?_
        rotate_left
        · intro w' hSw; go_simp
          try with_reducible rfl
        go_simp
        refine wpAnyH_ready (rs := [7]) (by kernel_rfl) (by simp) ?_
        refine AllReadyH.cons rfl (fun K hK => ?_) AllReadyH.nil
        go_simp
        refine (Mul_w d.ln ns _).mono ?_
        rintro e w' ⟨rfl, rfl⟩
        have hX : Obj1 W X #[.int .i64 d.sq, .int .i64 d.cl, .int .i64 d.ln, .int .i64 d.st, .int .i64 d.fi] 62 := HX.out
        dsimp only
        refine hK.out _ _ (hX) (fun hHeld => ?_)
        clear HX hK K
        have HX := Lib.hid hHeld
        clear hHeld
        go_simp
        refine wpAnyH_ready (rs := [8]) (by kernel_rfl) (by simp) ?_
        refine AllReadyH.cons rfl (fun K hK => ?_) AllReadyH.nil
        go_simp
        have hL := Obj1.new W #[.int .i64 d.st, .int .i64 (mulC d.ln ns)] 2
        have hb := bl_alloc (Below.refl W.heap.size W) (.cells #[.int .i64 d.st, .int .i64 (mulC d.ln ns)] 2)
        obtain ⟨gL, hgL⟩ : ∃ gL, gL = W.heap.size := ⟨_, rfl⟩
        rw [← hgL] at hL
        rw [← hgL]
        generalize hWn : World.alloc _ _ = W at hL hb ⊢
        clear hWn hgL
        have hX : Obj1 W X #[.int .i64 d.sq, .int .i64 d.cl, .int .i64 d.ln, .int .i64 d.st, .int .i64 d.fi] 62 := HX.out.below hb
        have hbw := bl_next HBW.out hb
        clear HBW hb
        have HBW := Lib.hid hbw
        have HL := Lib.hid hL
        clear hbw hL
        refine hK.out _ _ (hX) (fun hHeld => ?_)
        clear HX hK K
        have HX := Lib.hid hHeld
        clear hHeld
        go_simp
        refine wpAnyH_ready (rs := [9]) (by kernel_rfl) (by simp) ?_
        refine AllReadyH.cons rfl (fun K hK => ?_) AllReadyH.nil
        go_simp
        refine (Add2_w d.st (mulC d.ln ns) gL _ (HL.out.cell 0) (HL.out.cell 1)).mono ?_
        rintro e w' ⟨rfl, rfl⟩
        rw [← HP.out]
        have hX : Obj1 W X #[.int .i64 d.sq, .int .i64 d.cl, .int .i64 d.ln, .int .i64 d.st, .int .i64 d.fi] 62 := HX.out
        dsimp only
        refine hK.out _ _ (hX) (fun hHeld => ?_)
        clear HX hK K
        have HX := Lib.hid hHeld
        clear hHeld
        go_simp
        refine wpAnyH_take (i := 10) (v := ?_) rfl (by kernel_rfl) (by kernel_rfl) (by kernel_rfl) (fun _ _ _ h => h) (Or.inl ⟨by rfl, ?_⟩) HX.out ?_
        rotate_left
        · intro w' hSw; go_simp
          try with_reducible rfl
        go_simp
        refine wpAnyH_done (by kernel_rfl) ?_ _
        go_wp2
        go_ret
        exact ⟨by rw [pb_false (fun ha => HEX.out (by rw [HP.out]; exact ha d (List.mem_of_getElem? HD.out)))]; rfl, HBW.out⟩
    · have hk1 : ¬ (k : Int) < (n : Int) := by omega
      go_wp2
      go_ret
      exact ⟨by
        rw [pb_true (p := exactP l ns) (fun x hx => by
          obtain ⟨j, hj⟩ := List.getElem?_of_mem hx
          exact HA.out j x (by have := (List.getElem?_eq_some_iff.1 hj).1; have := HS.out.1; omega) hj)]
        rfl, HBW.out⟩
set_option maxRecDepth 100000 in
set_option maxHeartbeats 2000000 in
theorem served_w (A : Option Addr) (n cp : Nat) (l : List Dp) (hl : ∀ d ∈ l, okDp d) (c : Int) (w : World) (h : SlD w A n cp l) :
    Calls Try.prog 31 #[.slice A n cp, .int .i64 c] w fun e w' => e = .returned (.int .i64 (servedV l c)) ∧ Below w.heap.size w w' := by
  have hn : n ≤ 9223372036854775807 := Nat.le_trans h.2.1 h.2.2.1
  have HS := Lib.hid h
  clear h
  go_enter Try.func31, Try.ntmps31
  go_wp2_with fail
  go_loopw [5, 10] (fun s i wr => ∃ (k : Nat), k ≤ n ∧ i = .int .i64 k ∧ s = .int .i64 (servedV (l.take k) c) ∧ Below w.heap.size w wr) (fun _ i _ => n - (intOf i).toNat)
  case atStart => exact ⟨0, Nat.zero_le _, rfl, rfl, Below.refl _ _⟩
  case round =>
    obtain ⟨k, hk, rfl, rfl, hbw⟩ := hrel
    have HBW := Lib.hid hbw
    clear hbw
    by_cases hlt : k < n
    · have hlt' : k < l.length := by rw [HS.out.1]; exact hlt
      obtain ⟨d, hd⟩ : ∃ d, l[k]? = some d := ⟨_, List.getElem?_eq_getElem hlt'⟩
      have HSW := Lib.hid (HS.out.below HBW.out)
      obtain ⟨b, o, rfl, r0, r1, r2, r3, r4⟩ := HSW.out.dp hd
      have hok := okDp_at hl hd
      have hk0 : (0 : Int) ≤ (k : Int) := Int.natCast_nonneg k
      have hk1 : (k : Int) < (n : Int) := by omega
      have HD := Lib.hid hd
      clear hd
      go_upto_region 5 with (refine store_obj rfl 62 (.tmp 7) (.tmp 13) rfl wr.heap.size 62 _ #[.int .i64 d.sq, .int .i64 d.cl, .int .i64 d.ln, .int .i64 d.st, .int .i64 d.fi] rfl rfl (Obj1.new wr _ _) rfl rfl (by simp [Value.oneCell']) ?_; intro W ho3 hu3; have HU3 := Lib.hid hu3; have HX3 := Lib.hid ho3; clear ho3 hu3)
      obtain ⟨X, hX⟩ : ∃ X, X = wr.heap.size := ⟨_, rfl⟩
      rw [← hX] at HU3 HX3 ⊢
      have hba : Below wr.heap.size wr (wr.alloc (.cells #[.int .i64 0, .int .i64 0, .int .i64 0, .int .i64 0, .int .i64 0] 62)) := bl_alloc (Below.refl _ _) _
      have HB3 := Lib.hid (bl_upd (bl_next HBW.out hba) HU3.out (by rw [hX]; exact HBW.out.size))
      clear HBW hba r0 r1 r2 r3 r4 HSW HU3
      have HBW := HB3
      have HX := HX3
      clear HB3 HX3 hX
      obtain ⟨s0, hs0⟩ : ∃ s0, s0 = servedV (l.take k) c := ⟨_, rfl⟩
      have HS0 := Lib.hid hs0
      have HST := Lib.hid (servedV_take HD.out c)
      rw [← hs0]
      clear hs0
      have x1 : W.cell? ⟨X, 1, none⟩ = some (.int .i64 d.cl) := HX.out.cell 1
      have x2 : W.cell? ⟨X, 2, none⟩ = some (.int .i64 d.ln) := HX.out.cell 2
      by_cases hc : d.cl = c
      · have d1 : decide (d.cl = c) = true := decide_eq_true hc
        have d2 : (d.cl == c) = true := by simp [hc]
        have HAS := Lib.hid (show addS c s0 d = plus (cnt s0) d.ln from if_pos hc)
        have HL := Lib.hid (Obj1.new W #[.int .i64 s0, .int .i64 d.ln] 2)
        have HB4 := Lib.hid (bl_next HBW.out (bl_alloc (Below.refl W.heap.size W) (.cells #[.int .i64 s0, .int .i64 d.ln] 2)))
        have HCC := Lib.hid hc
        clear hc
        go_wp2_with fail
        refine (Add2_w s0 d.ln _ _ (HL.out.cell 0) (HL.out.cell 1)).mono ?_
        rintro e w' ⟨rfl, rfl⟩
        go_wp2_with fail
        go_roundw
        case rel => exact ⟨k + 1, by omega, by go_num, by rw [HST.out, ← HS0.out, HAS.out], HB4.out⟩
        case measure => simp [intOf]; omega
      · have d1 : decide (d.cl = c) = false := decide_eq_false hc
        have d2 : (d.cl == c) = false := by simp [hc]
        have HAS := Lib.hid (show addS c s0 d = s0 from if_neg hc)
        go_wp2_with fail
        go_roundw
        case rel => exact ⟨k + 1, by omega, by go_num, by rw [HST.out, ← HS0.out, HAS.out], HBW.out⟩
        case measure => simp [intOf]; omega
    · have hk1 : ¬ (k : Int) < (n : Int) := by omega
      have HE := Lib.hid (show l.take k = l from List.take_of_length_le (by rw [HS.out.1]; omega))
      rw [HE.out]
      go_wp2
      go_ret
      exact ⟨rfl, HBW.out⟩
set_option maxRecDepth 100000 in
set_option maxHeartbeats 2000000 in
theorem once_w (A : Option Addr) (n cp : Nat) (l : List Dp) (hl : ∀ d ∈ l, okDp d) (hn4 : n ≤ 1000) (w : World) (h : SlD w A n cp l) :
    Calls Try.prog 30 #[.slice A n cp] w fun e w' => e = .returned (.bool (pb (onceP l))) ∧ Below w.heap.size w w' := by
  have hn : n ≤ 9223372036854775807 := Nat.le_trans h.2.1 h.2.2.1
  have HS := Lib.hid h
  clear h
  go_enter Try.func30, Try.ntmps30
  go_wp2_with fail
  go_loopw [3, 9] (fun v i wr => ∃ (k : Nat), k ≤ n ∧ i = .int .i64 k ∧ wr.ownsRow w.heap.size 2 1 v k (vals ((l.take k).map (·.sq))) ∧ Below w.heap.size w wr) (fun _ i _ => n - (intOf i).toNat)
  case atStart => exact ⟨0, Nat.zero_le _, rfl, World.ownsRow_nil _ _ _ _, Below.refl _ _⟩
  case round =>
    obtain ⟨k, hk, rfl, hown, hbw⟩ := hrel
    have HBW := Lib.hid hbw
    have HOW := Lib.hid hown
    clear hbw hown
    by_cases hlt : k < n
    · have hlt' : k < l.length := by rw [HS.out.1]; exact hlt
      obtain ⟨d, hd⟩ : ∃ d, l[k]? = some d := ⟨_, List.getElem?_eq_getElem hlt'⟩
      have HSW := Lib.hid (HS.out.below HBW.out)
      obtain ⟨b, o, rfl, r0, r1, r2, r3, r4⟩ := HSW.out.dp hd
      have hok := okDp_at hl hd
      have hk0 : (0 : Int) ≤ (k : Int) := Int.natCast_nonneg k
      have hk1 : (k : Int) < (n : Int) := by omega
      have HD := Lib.hid hd
      clear hd
      go_upto_region 5 with (refine store_obj rfl 62 (.tmp 5) (.tmp 12) rfl wr.heap.size 62 _ #[.int .i64 d.sq, .int .i64 d.cl, .int .i64 d.ln, .int .i64 d.st, .int .i64 d.fi] rfl rfl (Obj1.new wr _ _) rfl rfl (by simp [Value.oneCell']) ?_; intro W ho3 hu3; have HU3 := Lib.hid hu3; have HX3 := Lib.hid ho3; clear ho3 hu3)
      obtain ⟨X, hX⟩ : ∃ X, X = wr.heap.size := ⟨_, rfl⟩
      rw [← hX] at HU3 HX3 ⊢
      have hba : Below wr.heap.size wr (wr.alloc (.cells #[.int .i64 0, .int .i64 0, .int .i64 0, .int .i64 0, .int .i64 0] 62)) := bl_alloc (Below.refl _ _) _
      have HB3 := Lib.hid (bl_upd (bl_next HBW.out hba) HU3.out (by rw [hX]; exact HBW.out.size))
      have HOW2 := Lib.hid ((own_below HOW.out hba).kept HU3.out (.inr (fun e => by have := HOW.out.lt _ e; omega)))
      clear HOW
      have HOW := HOW2
      clear HOW2
      clear HBW hba r0 r1 r2 r3 r4 HSW HU3
      have HBW := HB3
      have HX := HX3
      clear HB3 HX3 hX
      have x0 : W.cell? ⟨X, 0, none⟩ = some (.int .i64 d.sq) := HX.out.cell 0
      have HTK := Lib.hid (show vals ((l.take (k + 1)).map (·.sq)) = vals ((l.take k).map (·.sq)) ++ vals [d.sq] by
        obtain ⟨h1, h2⟩ := List.getElem?_eq_some_iff.1 HD.out
        rw [List.take_succ_eq_append_getElem h1, h2]
        simp [vals])
      go_wp2_with (at_builtin; refine app_list w.heap.size rfl (.tmp 13) (.tmp 16) 58 2 (.int .i64 0) 1 8 rfl Try.underlying58 (by kernel_rfl) rfl (by omega) (by omega) _ k _ (some ⟨W.heap.size, 0, none⟩) 1 1 (vals [d.sq]) rfl rfl (HOW.out.alloc _) rfl (lit_rd W (vals [d.sq]) _) (vals_one _) (by omega) (by have := HBW.out.size; simp; omega) ?_; intro v6 w6 hown6 hg6; have HO6 := Lib.hid hown6; have HB6 := Lib.hid (bl_grown (bl_alloc HBW.out (.cells #[.int .i64 d.sq] 2)) (HOW.out.alloc _) hg6 (Nat.le_refl _)); clear hown6 hg6)
      go_roundw
      case rel => exact ⟨k + 1, by omega, by go_num, by rw [HTK.out]; exact HO6.out, HB6.out⟩
      case measure => simp [intOf]; omega
    · have hk1 : ¬ (k : Int) < (n : Int) := by omega
      have hkn : k = n := by omega
      rw [hkn, List.take_of_length_le (by rw [HS.out.1]; omega)] at HOW
      obtain ⟨ss, hss⟩ : ∃ ss, ss = l.map (·.sq) := ⟨_, rfl⟩
      rw [← hss] at HOW
      have hsl : ss.length = n := by rw [hss, List.length_map, HS.out.1]
      have HSS := Lib.hid hss
      clear hkn hss
      go_wp2_with fail
      refine (sort_w w.heap.size n ss _ _ HOW.out (by omega)).mono ?_
      rintro e w7 ⟨rfl, ho7, hg7⟩
      have HB7 := Lib.hid (bl_grown HBW.out HOW.out hg7 (Nat.le_refl _))
      obtain ⟨A7, c7, hv7, hrd7⟩ := own_Rd ho7
      subst hv7
      obtain ⟨tt, htt⟩ : ∃ tt, tt = sortI ss := ⟨_, rfl⟩
      rw [← htt] at hrd7
      have htl : tt.length = n := by rw [htt, sortI_length, hsl]
      have HT := Lib.hid (RdI.of (by omega) hrd7)
      have HTT := Lib.hid htt
      clear ho7 hg7 hrd7 HOW htt
      go_wp2_with fail
      go_loopw [6] (fun i wr => ∃ (k qd : Nat), 1 ≤ k ∧ (k ≤ n ∨ k = 1) ∧ i = .int .i64 k ∧ (∀ (j : Nat) (x y : Int), j + 1 < k → tt[j]? = some x → tt[j + 1]? = some y → x ≠ y) ∧ wr = w7.drewN qd) (fun i _ => n - (intOf i).toNat)
      case atStart => exact ⟨1, 0, by omega, .inr rfl, rfl, fun j x y hj => absurd hj (by omega), rfl⟩
      case round =>
        obtain ⟨k, qd, hk1, hkn, rfl, hall, rfl⟩ := hrel
        have HA := Lib.hid hall
        clear hall
        by_cases hlt : k < n
        · obtain ⟨m, hm⟩ : ∃ m, m = k - 1 := ⟨_, rfl⟩
          obtain ⟨ad, rfl, cy⟩ := HT.out.2 k (by omega)
          obtain ⟨ad2, e2, cx⟩ := HT.out.2 m (by omega)
          cases e2
          obtain ⟨y, hy⟩ : ∃ y, y = nth tt k := ⟨_, rfl⟩
          obtain ⟨x, hx⟩ : ∃ x, x = nth tt m := ⟨_, rfl⟩
          rw [← hy] at cy
          rw [← hx] at cx
          have HY := Lib.hid (show tt[k]? = some y by rw [hy, nth_at (by omega)])
          have HXX := Lib.hid (show tt[m]? = some x by rw [hx, nth_at (by omega)])
          have hm0 : (0 : Int) ≤ (m : Int) := Int.natCast_nonneg m
          have hm1 : (m : Int) < (n : Int) := by omega
          have hk0 : (0 : Int) ≤ (k : Int) := Int.natCast_nonneg k
          have hk2 : (k : Int) < (n : Int) := by omega
          have hkm : IntKind.i64.wrap ((k : Int) - 1) = (m : Int) := by rw [IntWalk.i64_in _ (by omega)]; omega
          have HM := Lib.hid hm
          clear hx hy hm
          by_cases heq : y = x
          · have d1 : decide (y = x) = true := decide_eq_true heq
            have d2 : (y == x) = true := by simp [heq]
            have HEQ := Lib.hid heq
            clear heq
            go_wp2_with fail
            go_quiet (fail)
            go_wp2
            go_ret
            have hno : ¬ onceP l := by
             intro ha
             have hnd : tt.Nodup := by rw [HTT.out]; exact (sortI_perm ss).nodup_iff.2 (by rw [HSS.out]; exact ha)
             exact nodup_next hnd HXX.out (by rw [show m + 1 = k by have := HM.out; omega]; exact HY.out) HEQ.out.symm
            exact ⟨by rw [pb_false hno]; rfl, (by first | exact bl_drewN HB7.out _ | exact bl_drewN (bl_drewN HB7.out _) _)⟩
          · have d1 : decide (y = x) = false := decide_eq_false heq
            have d2 : (y == x) = false := by simp [heq]
            have HEQ := Lib.hid heq
            clear heq
            go_wp2_with fail
            go_quiet (fail)
            go_wp2_with fail
            go_roundw
            case rel => exact ⟨k + 1, _, by omega, .inl (by omega), by go_num, fun j a c hj ha hc => by
              rcases Nat.lt_or_ge (j + 1) k with h | h
              · exact HA.out j a c h ha hc
              · have e : j = m := by have := HM.out; omega
                rw [e, HXX.out] at ha
                rw [e, show m + 1 = k by have := HM.out; omega, HY.out] at hc
                cases ha
                cases hc
                exact fun e => HEQ.out e.symm, rfl⟩
            case measure => simp [intOf]; omega
        · have hk2 : ¬ (k : Int) < (n : Int) := by omega
          go_wp2
          go_ret
          have hnd : tt.Nodup := sorted_nodup (by rw [HTT.out]; exact sortI_le ss) (fun j x y hx hy => HA.out j x y (by have := (List.getElem?_eq_some_iff.1 hy).1; omega) hx hy)
          have hyes : onceP l := by
            unfold onceP
            rw [← HSS.out]
            rw [HTT.out] at hnd
            exact (sortI_perm ss).nodup_iff.1 hnd
          exact ⟨by rw [pb_true hyes]; rfl, (by first | exact bl_drewN HB7.out _ | exact bl_drewN (bl_drewN HB7.out _) _)⟩
set_option maxRecDepth 100000 in
set_option maxHeartbeats 2000000 in
theorem awake32_w (w : World) : Calls Try.prog 25 #[] w fun e w' => e = .returned (.bool true) ∧ Below w.heap.size w w' := by
  have hnil : ∀ W : World, SlD W none 0 0 [] := fun W => ⟨rfl, Nat.le_refl _, by omega, Rd.nil _ _⟩
  go_enter Try.func25, Try.ntmps25
  go_wp2_with fail
  refine (apart_w none 0 0 [] (by simp) _ (hnil _)).mono ?_
  rintro e w1 ⟨rfl, hl1⟩
  rw [pb_true (p := apartP []) (by intro k x y hx; simp at hx)]
  have HB1 := Lib.hid hl1
  clear hl1
  go_wp2_with fail
  refine (exact_w none 0 0 [] (by simp) 1 _ (hnil _)).mono ?_
  rintro e w2 ⟨rfl, hl2⟩
  rw [pb_true (p := exactP [] 1) (by intro x hx; simp at hx)]
  have HB2 := Lib.hid (bl_next HB1.out hl2)
  clear hl2
  go_wp2_with fail
  refine (once_w none 0 0 [] (by simp) (by omega) _ (hnil _)).mono ?_
  rintro e w3 ⟨rfl, hl3⟩
  rw [pb_true (p := onceP []) (by unfold onceP; simp)]
  have HB3 := Lib.hid (bl_next HB2.out hl3)
  clear hl3
  have HL := Lib.hid (show SlD (w3.alloc (.cells #[.int .i64 0, .int .i64 1, .int .i64 5, .int .i64 0, .int .i64 0] 62)) (some ⟨w3.heap.size, 0, none⟩) 1 1 [⟨0, 1, 5, 0, 0⟩] from ⟨rfl, Nat.le_refl _, by omega, lit_rd w3 (dpC ⟨0, 1, 5, 0, 0⟩) _⟩)
  have HB4 := Lib.hid (bl_next HB3.out (bl_alloc (Below.refl w3.heap.size w3) (.cells #[.int .i64 0, .int .i64 1, .int .i64 5, .int .i64 0, .int .i64 0] 62)))
  go_wp2_with fail
  refine (served_w _ 1 1 [⟨0, 1, 5, 0, 0⟩] (by intro d hd; simp at hd; subst hd; unfold okDp in64; simp) 1 _ HL.out).mono ?_
  rintro e w4 ⟨rfl, hl4⟩
  have HB5 := Lib.hid (bl_next HB4.out hl4)
  clear hl4
  have hv : servedV [⟨0, 1, 5, 0, 0⟩] 1 = 5 := by decide
  rw [hv]
  go_wp2
  go_ret
  exact ⟨rfl, HB5.out⟩
end Go.Proofs.Ytlnfenjoagkpdaa
