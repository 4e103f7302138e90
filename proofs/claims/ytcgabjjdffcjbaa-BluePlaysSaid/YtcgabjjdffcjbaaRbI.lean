/- The document's Blue: Touch. -/
import Derived.Test.YtcgabjjdffcjbaaRbH
namespace Go.Proofs.Ytcgabjjdffcjbaa
open Go.RowKit
set_option linter.unusedVariables false
set_option linter.unusedSimpArgs false

theorem set_here {l : List Bn} {k : Nat} {x : Bn} (h : l[k]? = some x) : l.set k x = l := by
  obtain ⟨hi, he⟩ := List.getElem?_eq_some_iff.1 h
  subst he
  exact List.set_getElem_self hi
theorem bn_set21 {l : List Bn} {k : Nat} {x : Bn} (h : l[k]? = some x) {p t : Int} : ((fl bnC l).set (k * 3 + 2) (.int .i64 p)).set (k * 3 + 1) (.int .i64 t) = fl bnC (l.set k { x with p := p, c := t }) := by
  have hi := (List.getElem?_eq_some_iff.1 h).1
  have h1 := fl_put (f := bnC) (k := 3) (bnC_len l) h (q := 2) (v := .int .i64 p) (y := { x with p := p }) (by omega) rfl
  have h2 := fl_put (f := bnC) (k := 3) (bnC_len (l.set k { x with p := p })) (i := k) (x := { x with p := p }) (by simp [hi]) (q := 1) (v := .int .i64 t) (y := { x with p := p, c := t }) (by omega) rfl
  rw [h1, h2, List.set_set]

set_option maxRecDepth 100000 in
set_option maxHeartbeats 8000000 in
theorem rtouch_w (target hold up down now : Int) (A A1 : Option Addr) (nl c n c1 nb lo : Nat) (ls : List (List Bn)) (ks : List Int) (hnl : 1 ≤ nl ∧ nl ≤ 4) (hnb : 1 ≤ nb ∧ nb ≤ 64) (hf : flowsB nl nb ks = true) (w : World) (h : SlB lo w A nl c ls) (hs : SlI .i64 w A1 n c1 ks) (hr : ∀ l ∈ ls, l.length = nb) (hi : -9223372036854775808 ≤ now ∧ now ≤ 9223372036854775807) (hh : 0 ≤ hold ∧ hold ≤ 4611686018427387903) (hu : 0 ≤ up ∧ up ≤ 65536) (hd : 0 ≤ down ∧ down ≤ 65536) (hok : ∀ j, j < nl → okBn (binAt ls ks j)) :
    Calls Try.prog 30 #[.agg (rbC A nl c target hold up down), .slice A1 n c1, .int .i64 now] w fun e w' => ∃ A' c', e = .returned (.agg (rbC A' nl c' target hold up down)) ∧ SlB w.heap.size w' A' nl c' (changeN ls ks ((ofN ls ks nl).map (touchF now target hold up down)) nl) ∧ Below w.heap.size w w' := by
  have HS := Lib.hid h
  have HI := Lib.hid hs
  have HR := Lib.hid hr
  have HF := Lib.hid hf
  have HOK := Lib.hid hok
  obtain ⟨W, hW⟩ : ∃ W, W = (w.alloc (.cells (rbC A nl c target hold up down) 65)).alloc (.cells #[.slice none 0 0, .int .i64 0, .int .i64 0, .int .i64 0, .int .i64 0] 65) := ⟨_, rfl⟩
  have HB := Lib.hid (show Below w.heap.size w W by rw [hW]; exact bl_alloc (bl_alloc (Below.refl w.heap.size w) _) _)
  have HO := Lib.hid (show Obj1 W w.heap.size (rbC A nl c target hold up down) 65 by rw [hW]; exact (Obj1.new w _ _).alloc _)
  have HZ := Lib.hid (show Obj1 W (w.heap.size + 1) #[.slice none 0 0, .int .i64 0, .int .i64 0, .int .i64 0, .int .i64 0] 65 by
    rw [hW]
    have := Obj1.new (w.alloc (.cells (rbC A nl c target hold up down) 65)) #[.slice none 0 0, .int .i64 0, .int .i64 0, .int .i64 0, .int .i64 0] 65
    rwa [World.size_alloc] at this)
  have HW := Lib.hid hW
  clear hW h hs hr hf hok
  have hT := blueNow_range now
  obtain ⟨T, hTd⟩ : ∃ T, T = blueNow now := ⟨_, rfl⟩
  rw [← hTd] at hT
  have hnowc : (now < 0 ∧ T = 0) ∨ ((0 ≤ now ∧ 4611686018427387903 < now) ∧ T = 4611686018427387903) ∨ ((0 ≤ now ∧ now ≤ 4611686018427387903) ∧ T = now) := by
    rw [hTd]; unfold blueNow; repeat' split
    all_goals omega
  have HTD := Lib.hid hTd
  clear hTd
  rcases hnowc with ⟨hx, hT0⟩ | ⟨⟨hx, hx2⟩, hT0⟩ | ⟨⟨hx, hx2⟩, hT0⟩
  · subst hT0
    go_enter Try.func30, Try.ntmps30
    go_upto_region 1 with (fail)
    rw [← HW.out]
    clear HW
    go_wp2_with (refine load_obj rfl 65 (.tmp 3) rfl w.heap.size 65 (rbC A nl c target hold up down) _ rfl HO.out Try.underlying65 rfl rfl ?_)
    refine (rflows_w target hold up down A A1 nl c n c1 nb lo ls ks hnl hnb _ (HS.out.below HB.out) (HI.out.below HB.out) HR.out).mono ?_
    rw [HF.out]
    rintro e w2 ⟨rfl, hb2⟩
    have HB2 := Lib.hid (bl_next HB.out hb2)
    have HO2 := Lib.hid (HO.out.below hb2)
    have HZ2 := Lib.hid (HZ.out.below hb2)
    clear hb2 HB HO HZ
    go_wp2_with (refine load_obj rfl 65 (.tmp 3) rfl w.heap.size 65 (rbC A nl c target hold up down) _ rfl HO2.out Try.underlying65 rfl rfl ?_)
    refine (rof_w target hold up down A A1 nl c n c1 nb lo ls ks hnl hnb HF.out _ (HS.out.below HB2.out) (HI.out.below HB2.out) HR.out).mono ?_
    rintro e w3 ⟨v3, rfl, hown, hb3⟩
    obtain ⟨g, cap, rfl, hg, hcap, hroom⟩ : ∃ g cap, v3 = .slice (some ⟨g, 0, none⟩) nl cap ∧ w2.heap.size ≤ g ∧ cap ≤ 9223372036854775807 ∧ RoomO w3 g nl cap 3 (fl bnC (ofN ls ks nl)) 87 := by
      rcases own_room hown with ⟨h0, _, _⟩ | h0
      · omega
      · exact h0
    have HG := Lib.hid (show w.heap.size + 2 ≤ g by have := HZ2.out.lt; omega)
    have HC := Lib.hid hcap
    have HRM := Lib.hid hroom
    have HB3 := Lib.hid (bl_next HB2.out hb3)
    have HO3 := Lib.hid (HO2.out.below hb3)
    have HZ3 := Lib.hid (HZ2.out.below hb3)
    clear hown hg hcap hroom hb3 HB2 HO2 HZ2
    go_wp2_with fail
    go_loopw [24] (fun i wr => ∃ (k : Nat), k ≤ nl ∧ i = .int .i64 k ∧ RoomO wr g nl cap 3 (fl bnC (updR (touchF now target hold up down) (ofN ls ks nl) k)) 87 ∧ Below w.heap.size w wr ∧ Obj1 wr w.heap.size (rbC A nl c target hold up down) 65 ∧ Obj1 wr (w.heap.size + 1) #[.slice none 0 0, .int .i64 0, .int .i64 0, .int .i64 0, .int .i64 0] 65) (fun i _ => nl - (intOf i).toNat)
    case atStart => exact ⟨0, Nat.zero_le _, rfl, HRM.out, HB3.out, HO3.out, HZ3.out⟩
    case round =>
      obtain ⟨k, hk, rfl, hRM, hB, hO, hZ⟩ := hrel
      clear HRM HB3 HO3 HZ3
      have HRM := Lib.hid hRM
      have HB := Lib.hid hB
      have HO := Lib.hid hO
      have HZ := Lib.hid hZ
      clear hRM hB hO hZ
      by_cases hlt : k < nl
      · have hk0 : (0 : Int) ≤ (k : Int) := Int.natCast_nonneg k
        have hk1 : (k : Int) < (nl : Int) := by omega
        have hx := ofN_at ls ks nl k hlt
        have hx2 : (updR (touchF now target hold up down) (ofN ls ks nl) k)[k]? = some (binAt ls ks k) := by rw [updR_at, if_neg (by omega)]; exact hx
        have hokx := HOK.out k hlt
        obtain ⟨x, hxx⟩ : ∃ x, x = binAt ls ks k := ⟨_, rfl⟩
        rw [← hxx] at hx hx2 hokx
        have HST := Lib.hid (updR_step (touchF now target hold up down) (ofN ls ks nl) hx)
        have HX2 := Lib.hid hx2
        obtain ⟨c0, c1, c2⟩ := HRM.out.bn hx2
        obtain ⟨⟨ho1, ho2⟩, ⟨ho3, ho4⟩, ho5, ho6⟩ := hokx
        have b1 : wr.cell? ⟨w.heap.size, 1, none⟩ = some (.int .i64 target) := HO.out.cell 1
        have b2 : wr.cell? ⟨w.heap.size, 2, none⟩ = some (.int .i64 hold) := HO.out.cell 2
        have hgne : w.heap.size ≠ g := by have := HG.out; omega
        have hgne1 : w.heap.size + 1 ≠ g := by have := HG.out; omega
        have htf : touchF now target hold up down x = if 0 - x.c < hold then x else if target < x.n then { x with p := (if x.p + up ≤ 65536 then x.p + up else 65536), c := 0 } else if x.n = 0 then { x with p := (if 0 ≤ x.p - down then x.p - down else 0), c := 0 } else x := by
          unfold touchF; rw [← HTD.out]
        have hw0 : IntKind.i64.wrap (0 - x.c) = 0 - x.c := IntWalk.i64_in _ (by omega)
        have hw1 : IntKind.i64.wrap (x.p + up) = x.p + up := IntWalk.i64_in _ (by omega)
        have hw2 : IntKind.i64.wrap (x.p - down) = x.p - down := IntWalk.i64_in _ (by omega)
        clear hx hx2 hxx
        by_cases q1 : 0 - x.c < hold
        · rw [if_pos q1] at htf
          have HTF := Lib.hid htf
          clear htf
          go_wp2_with fail
          go_quiet (fail)
          go_wp2_with fail
          go_roundw
          case rel => exact ⟨k + 1, by omega, by go_num, by rw [HST.out, HTF.out, set_here HX2.out]; exact HRM.out, bl_drewN HB.out _, HO.out, HZ.out⟩
          case measure => simp [intOf]; omega
        · rw [if_neg q1] at htf
          by_cases q2 : target < x.n
          · rw [if_pos q2] at htf
            rw [show (if x.p + up ≤ 65536 then x.p + up else 65536) = (if x.p + up < 65536 then x.p + up else 65536) by split <;> split <;> omega] at htf
            have HTF := Lib.hid htf
            clear htf
            go_wp2_with fail
            go_quiet (fail)
            go_wp2_with fail
            go_quiet (fail)
            go_wp2_with fail
            refine wp_region_held_drew (S := fun w' => Obj1 w' w.heap.size (rbC A nl c target hold up down) 65) (by kernel_rfl) (by exact HO.out) (fun hHeld => ?_)
            have HX := Lib.hid hHeld
            clear hHeld
            generalize hWd : World.drew _ = W0 at HX ⊢
            have hq1 : RoomO W0 g nl cap 3 (fl bnC (updR (touchF now target hold up down) (ofN ls ks nl) k)) 87 := by rw [← hWd]; exact HRM.out
            have hq2 : Below w.heap.size w W0 := by rw [← hWd]; first | exact (bl_drewN (bl_drewN HB.out _) _).drew | exact (bl_drewN HB.out _).drew
            have hq3 : Obj1 W0 (w.heap.size + 1) #[.slice none 0 0, .int .i64 0, .int .i64 0, .int .i64 0, .int .i64 0] 65 := by rw [← hWd]; exact HZ.out
            clear HRM HB HZ
            have HRM := Lib.hid hq1
            have HB := Lib.hid hq2
            have HZ := Lib.hid hq3
            clear hq1 hq2 hq3
            clear hWd
            refine wpAnyH_take (i := 0) (v := ?_) rfl (by kernel_rfl) (by kernel_rfl) (by kernel_rfl) (fun _ _ _ h => h) (Or.inl ⟨by rfl, ?_⟩) HX.out ?_
            rotate_left
            · intro w' hSw; go_simp
              try with_reducible rfl
            go_simp
            refine wpAnyH_take (i := 1) (v := ?_) rfl (by kernel_rfl) (by kernel_rfl) (by kernel_rfl) (fun _ _ _ h => h) (Or.inl ⟨by rfl, ?_⟩) HX.out ?_
            rotate_left
            · intro w' hSw; go_simp
              try with_reducible rfl
            go_simp
            refine wpAnyH_take (i := 2) (v := ?_) rfl (by kernel_rfl) (by kernel_rfl) (by kernel_rfl) (fun _ _ _ h => h) (Or.inl ⟨by rfl, ?_⟩) HX.out ?_
            rotate_left
            · intro w' hSw; go_simp
              try with_reducible rfl
            go_simp
            refine wpAnyH_take (i := 3) (v := ?_) rfl (by kernel_rfl) (by kernel_rfl) (by kernel_rfl) (fun _ _ _ h => h) (Or.inl ⟨by rfl, ?_⟩) HX.out ?_
            rotate_left
            · intro w' hSw; go_simp
              try with_reducible rfl
            go_simp
            refine wpAnyH_take (i := 4) (v := ?_) rfl (by kernel_rfl) (by kernel_rfl) (by kernel_rfl) (fun _ _ _ h => h) (Or.inl ⟨by rfl, ?_⟩) HX.out ?_
            rotate_left
            · intro w' hSw; go_simp
              try with_reducible rfl
            go_simp
            refine wpAnyH_take (i := 6) (v := ?_) rfl (by kernel_rfl) (by kernel_rfl) (by kernel_rfl) (fun _ _ _ h => h) (Or.inl ⟨by rfl, ?_⟩) HX.out ?_
            rotate_left
            · intro w' hSw; go_simp
              try with_reducible rfl
            go_simp
            refine wpAnyH_take (i := 7) (v := ?_) rfl (by kernel_rfl) (by kernel_rfl) (by kernel_rfl) (fun _ _ _ h => h) (Or.inl ⟨by rfl, ?_⟩) HX.out ?_
            rotate_left
            · intro w' hSw; have c3 : w'.cell? ⟨w.heap.size, 3, none⟩ = some (.int .i64 up) := hSw.cell 3; go_simp
              try with_reducible rfl
            go_simp
            refine wpAnyH_take (i := 10) (v := ?_) rfl (by kernel_rfl) (by kernel_rfl) (by kernel_rfl) (fun _ _ _ h => h) (Or.inl ⟨by rfl, ?_⟩) HX.out ?_
            rotate_left
            · intro w' hSw; go_simp
              try with_reducible rfl
            go_simp
            refine wpAnyH_ready (rs := [5]) (by kernel_rfl) (by simp) ?_
            refine AllReadyH.cons rfl (fun K hK => ?_) AllReadyH.nil
            have cp : W0.cell? ⟨g, k * 3 + 2, none⟩ = some (.int .i64 x.p) := (HRM.out.bn HX2.out).2.2
            go_simp
            have hX : Obj1 W0 w.heap.size (rbC A nl c target hold up down) 65 := HX.out
            clear cp
            refine hK.out _ _ (hX) (fun hHeld => ?_)
            clear HX hK K
            have HX := Lib.hid hHeld
            clear hHeld
            go_simp
            refine wpAnyH_take (i := 8) (v := ?_) rfl (by kernel_rfl) (by kernel_rfl) (by kernel_rfl) (fun _ _ _ h => h) (Or.inl ⟨by rfl, ?_⟩) HX.out ?_
            rotate_left
            · intro w' hSw; go_simp
              try with_reducible rfl
            go_simp
            refine wpAnyH_take (i := 9) (v := ?_) rfl (by kernel_rfl) (by kernel_rfl) (by kernel_rfl) (fun _ _ _ h => h) (Or.inl ⟨by rfl, ?_⟩) HX.out ?_
            rotate_left
            · intro w' hSw; go_simp
              try with_reducible rfl
            go_simp
            refine wpAnyH_take (i := 11) (v := ?_) rfl (by kernel_rfl) (by kernel_rfl) (by kernel_rfl) (fun _ _ _ h => h) (Or.inl ⟨by rfl, ?_⟩) HX.out ?_
            rotate_left
            · intro w' hSw; go_simp
              try with_reducible rfl
            go_simp
            refine wpAnyH_take (i := 12) (v := ?_) rfl (by kernel_rfl) (by kernel_rfl) (by kernel_rfl) (fun _ _ _ h => h) (Or.inl ⟨by rfl, ?_⟩) HX.out ?_
            rotate_left
            · intro w' hSw; go_simp
              try with_reducible rfl
            go_simp
            refine wpAnyH_ready (rs := [13]) (by kernel_rfl) (by simp) ?_
            refine AllReadyH.cons rfl (fun K hK => ?_) AllReadyH.nil
            have cp : W0.cell? ⟨g, k * 3 + 2, none⟩ = some (.int .i64 x.p) := (HRM.out.bn HX2.out).2.2
            have fp : W0.frozen? ⟨g, k * 3 + 2, none⟩ = false := HRM.out.free _
            go_simp
            have hX : Obj1 _ w.heap.size (rbC A nl c target hold up down) 65 := HX.out.of_grown ((Upd.refl g W0).set (k * 3 + 2) (.int .i64 (if x.p + up < 65536 then x.p + up else 65536))) (by simpa using hgne)
            clear cp fp
            refine hK.out _ _ (hX) (fun hHeld => ?_)
            clear HX hK K
            have HX := Lib.hid hHeld
            clear hHeld
            go_simp
            refine wpAnyH_take (i := 14) (v := ?_) rfl (by kernel_rfl) (by kernel_rfl) (by kernel_rfl) (fun _ _ _ h => h) (Or.inl ⟨by rfl, ?_⟩) HX.out ?_
            rotate_left
            · intro w' hSw; go_simp
              try with_reducible rfl
            go_simp
            refine wpAnyH_take (i := 15) (v := ?_) rfl (by kernel_rfl) (by kernel_rfl) (by kernel_rfl) (fun _ _ _ h => h) (Or.inl ⟨by rfl, ?_⟩) HX.out ?_
            rotate_left
            · intro w' hSw; go_simp
              try with_reducible rfl
            go_simp
            refine wpAnyH_ready (rs := [16]) (by kernel_rfl) (by simp) ?_
            refine AllReadyH.cons rfl (fun K hK => ?_) AllReadyH.nil
            have hR1 := HRM.out.set (k * 3 + 2) (by omega) (.int .i64 (if x.p + up < 65536 then x.p + up else 65536))
            have cc : (W0.setCell ⟨g, k * 3 + 2, none⟩ (.int .i64 (if x.p + up < 65536 then x.p + up else 65536))).cell? ⟨g, k * 3 + 1, none⟩ = some (.int .i64 x.c) := hR1.cell (by rw [List.getElem?_set_ne (by omega)]; simpa [bnC] using fl_at (f := bnC) (k := 3) (bnC_len _) HX2.out (q := 1) (by omega))
            have fc : (W0.setCell ⟨g, k * 3 + 2, none⟩ (.int .i64 (if x.p + up < 65536 then x.p + up else 65536))).frozen? ⟨g, k * 3 + 1, none⟩ = false := hR1.free _
            clear hR1
            go_simp
            have hX : Obj1 _ w.heap.size (rbC A nl c target hold up down) 65 := HX.out.of_grown ((Upd.refl g _).set (k * 3 + 1) (.int .i64 0)) (by simpa using hgne)
            clear cc fc
            refine hK.out _ _ (hX) (fun hHeld => ?_)
            clear HX hK K
            have HX := Lib.hid hHeld
            clear hHeld
            go_simp
            refine wpAnyH_done (by kernel_rfl) ?_ _
            go_wp2_with fail
            go_roundw
            case rel => exact ⟨k + 1, by omega, by go_num, by rw [HST.out, HTF.out, ← bn_set21 HX2.out]; exact (HRM.out.set (k * 3 + 2) (by omega) _).set (k * 3 + 1) (by omega) _, bl_upd HB.out (((Upd.refl g _).set _ _).set _ _) (by have := HG.out; omega), HX.out, HZ.out.of_grown (((Upd.refl g _).set _ _).set _ _) (by simpa using hgne1)⟩
            case measure => simp [intOf]; omega
          · rw [if_neg q2] at htf
            by_cases q4 : x.n = 0
            · rw [if_pos q4] at htf
              rw [show (if 0 ≤ x.p - down then x.p - down else 0) = (if down < x.p then x.p - down else 0) by split <;> split <;> omega] at htf
              have HTF := Lib.hid htf
              clear htf
              go_wp2_with fail
              go_quiet (fail)
              go_wp2_with fail
              go_quiet (fail)
              go_wp2_with fail
              refine wp_region_held_drew (S := fun w' => Obj1 w' w.heap.size (rbC A nl c target hold up down) 65) (by kernel_rfl) (by exact HO.out) (fun hHeld => ?_)
              have HX := Lib.hid hHeld
              clear hHeld
              generalize hWd : World.drew _ = W0 at HX ⊢
              have hq1 : RoomO W0 g nl cap 3 (fl bnC (updR (touchF now target hold up down) (ofN ls ks nl) k)) 87 := by rw [← hWd]; exact HRM.out
              have hq2 : Below w.heap.size w W0 := by rw [← hWd]; first | exact (bl_drewN (bl_drewN HB.out _) _).drew | exact (bl_drewN HB.out _).drew
              have hq3 : Obj1 W0 (w.heap.size + 1) #[.slice none 0 0, .int .i64 0, .int .i64 0, .int .i64 0, .int .i64 0] 65 := by rw [← hWd]; exact HZ.out
              clear HRM HB HZ
              have HRM := Lib.hid hq1
              have HB := Lib.hid hq2
              have HZ := Lib.hid hq3
              clear hq1 hq2 hq3
              clear hWd
              refine wpAnyH_take (i := 0) (v := ?_) rfl (by kernel_rfl) (by kernel_rfl) (by kernel_rfl) (fun _ _ _ h => h) (Or.inl ⟨by rfl, ?_⟩) HX.out ?_
              rotate_left
              · intro w' hSw; go_simp
                try with_reducible rfl
              go_simp
              refine wpAnyH_take (i := 1) (v := ?_) rfl (by kernel_rfl) (by kernel_rfl) (by kernel_rfl) (fun _ _ _ h => h) (Or.inl ⟨by rfl, ?_⟩) HX.out ?_
              rotate_left
              · intro w' hSw; go_simp
                try with_reducible rfl
              go_simp
              refine wpAnyH_take (i := 2) (v := ?_) rfl (by kernel_rfl) (by kernel_rfl) (by kernel_rfl) (fun _ _ _ h => h) (Or.inl ⟨by rfl, ?_⟩) HX.out ?_
              rotate_left
              · intro w' hSw; go_simp
                try with_reducible rfl
              go_simp
              refine wpAnyH_take (i := 3) (v := ?_) rfl (by kernel_rfl) (by kernel_rfl) (by kernel_rfl) (fun _ _ _ h => h) (Or.inl ⟨by rfl, ?_⟩) HX.out ?_
              rotate_left
              · intro w' hSw; go_simp
                try with_reducible rfl
              go_simp
              refine wpAnyH_take (i := 4) (v := ?_) rfl (by kernel_rfl) (by kernel_rfl) (by kernel_rfl) (fun _ _ _ h => h) (Or.inl ⟨by rfl, ?_⟩) HX.out ?_
              rotate_left
              · intro w' hSw; go_simp
                try with_reducible rfl
              go_simp
              refine wpAnyH_take (i := 6) (v := ?_) rfl (by kernel_rfl) (by kernel_rfl) (by kernel_rfl) (fun _ _ _ h => h) (Or.inl ⟨by rfl, ?_⟩) HX.out ?_
              rotate_left
              · intro w' hSw; go_simp
                try with_reducible rfl
              go_simp
              refine wpAnyH_take (i := 7) (v := ?_) rfl (by kernel_rfl) (by kernel_rfl) (by kernel_rfl) (fun _ _ _ h => h) (Or.inl ⟨by rfl, ?_⟩) HX.out ?_
              rotate_left
              · intro w' hSw; have c4 : w'.cell? ⟨w.heap.size, 4, none⟩ = some (.int .i64 down) := hSw.cell 4; go_simp
                try with_reducible rfl
              go_simp
              refine wpAnyH_take (i := 10) (v := ?_) rfl (by kernel_rfl) (by kernel_rfl) (by kernel_rfl) (fun _ _ _ h => h) (Or.inl ⟨by rfl, ?_⟩) HX.out ?_
              rotate_left
              · intro w' hSw; go_simp
                try with_reducible rfl
              go_simp
              refine wpAnyH_ready (rs := [5]) (by kernel_rfl) (by simp) ?_
              refine AllReadyH.cons rfl (fun K hK => ?_) AllReadyH.nil
              have cp : W0.cell? ⟨g, k * 3 + 2, none⟩ = some (.int .i64 x.p) := (HRM.out.bn HX2.out).2.2
              go_simp
              have hX : Obj1 W0 w.heap.size (rbC A nl c target hold up down) 65 := HX.out
              clear cp
              refine hK.out _ _ (hX) (fun hHeld => ?_)
              clear HX hK K
              have HX := Lib.hid hHeld
              clear hHeld
              go_simp
              refine wpAnyH_take (i := 8) (v := ?_) rfl (by kernel_rfl) (by kernel_rfl) (by kernel_rfl) (fun _ _ _ h => h) (Or.inl ⟨by rfl, ?_⟩) HX.out ?_
              rotate_left
              · intro w' hSw; go_simp
                try with_reducible rfl
              go_simp
              refine wpAnyH_take (i := 9) (v := ?_) rfl (by kernel_rfl) (by kernel_rfl) (by kernel_rfl) (fun _ _ _ h => h) (Or.inl ⟨by rfl, ?_⟩) HX.out ?_
              rotate_left
              · intro w' hSw; go_simp
                try with_reducible rfl
              go_simp
              refine wpAnyH_take (i := 11) (v := ?_) rfl (by kernel_rfl) (by kernel_rfl) (by kernel_rfl) (fun _ _ _ h => h) (Or.inl ⟨by rfl, ?_⟩) HX.out ?_
              rotate_left
              · intro w' hSw; go_simp
                try with_reducible rfl
              go_simp
              refine wpAnyH_take (i := 12) (v := ?_) rfl (by kernel_rfl) (by kernel_rfl) (by kernel_rfl) (fun _ _ _ h => h) (Or.inl ⟨by rfl, ?_⟩) HX.out ?_
              rotate_left
              · intro w' hSw; go_simp
                try with_reducible rfl
              go_simp
              refine wpAnyH_ready (rs := [13]) (by kernel_rfl) (by simp) ?_
              refine AllReadyH.cons rfl (fun K hK => ?_) AllReadyH.nil
              have cp : W0.cell? ⟨g, k * 3 + 2, none⟩ = some (.int .i64 x.p) := (HRM.out.bn HX2.out).2.2
              have fp : W0.frozen? ⟨g, k * 3 + 2, none⟩ = false := HRM.out.free _
              go_simp
              have hX : Obj1 _ w.heap.size (rbC A nl c target hold up down) 65 := HX.out.of_grown ((Upd.refl g W0).set (k * 3 + 2) (.int .i64 (if down < x.p then x.p - down else 0))) (by simpa using hgne)
              clear cp fp
              refine hK.out _ _ (hX) (fun hHeld => ?_)
              clear HX hK K
              have HX := Lib.hid hHeld
              clear hHeld
              go_simp
              refine wpAnyH_take (i := 14) (v := ?_) rfl (by kernel_rfl) (by kernel_rfl) (by kernel_rfl) (fun _ _ _ h => h) (Or.inl ⟨by rfl, ?_⟩) HX.out ?_
              rotate_left
              · intro w' hSw; go_simp
                try with_reducible rfl
              go_simp
              refine wpAnyH_take (i := 15) (v := ?_) rfl (by kernel_rfl) (by kernel_rfl) (by kernel_rfl) (fun _ _ _ h => h) (Or.inl ⟨by rfl, ?_⟩) HX.out ?_
              rotate_left
              · intro w' hSw; go_simp
                try with_reducible rfl
              go_simp
              refine wpAnyH_ready (rs := [16]) (by kernel_rfl) (by simp) ?_
              refine AllReadyH.cons rfl (fun K hK => ?_) AllReadyH.nil
              have hR1 := HRM.out.set (k * 3 + 2) (by omega) (.int .i64 (if down < x.p then x.p - down else 0))
              have cc : (W0.setCell ⟨g, k * 3 + 2, none⟩ (.int .i64 (if down < x.p then x.p - down else 0))).cell? ⟨g, k * 3 + 1, none⟩ = some (.int .i64 x.c) := hR1.cell (by rw [List.getElem?_set_ne (by omega)]; simpa [bnC] using fl_at (f := bnC) (k := 3) (bnC_len _) HX2.out (q := 1) (by omega))
              have fc : (W0.setCell ⟨g, k * 3 + 2, none⟩ (.int .i64 (if down < x.p then x.p - down else 0))).frozen? ⟨g, k * 3 + 1, none⟩ = false := hR1.free _
              clear hR1
              go_simp
              have hX : Obj1 _ w.heap.size (rbC A nl c target hold up down) 65 := HX.out.of_grown ((Upd.refl g _).set (k * 3 + 1) (.int .i64 0)) (by simpa using hgne)
              clear cc fc
              refine hK.out _ _ (hX) (fun hHeld => ?_)
              clear HX hK K
              have HX := Lib.hid hHeld
              clear hHeld
              go_simp
              refine wpAnyH_done (by kernel_rfl) ?_ _
              go_wp2_with fail
              go_roundw
              case rel => exact ⟨k + 1, by omega, by go_num, by rw [HST.out, HTF.out, ← bn_set21 HX2.out]; exact (HRM.out.set (k * 3 + 2) (by omega) _).set (k * 3 + 1) (by omega) _, bl_upd HB.out (((Upd.refl g _).set _ _).set _ _) (by have := HG.out; omega), HX.out, HZ.out.of_grown (((Upd.refl g _).set _ _).set _ _) (by simpa using hgne1)⟩
              case measure => simp [intOf]; omega
            · rw [if_neg q4] at htf
              have HTF := Lib.hid htf
              clear htf
              go_wp2_with fail
              go_quiet (fail)
              go_wp2_with fail
              go_quiet (fail)
              go_wp2_with fail
              go_roundw
              case rel => exact ⟨k + 1, by omega, by go_num, by rw [HST.out, HTF.out, set_here HX2.out]; exact HRM.out, bl_drewN HB.out _, HO.out, HZ.out⟩
              case measure => simp [intOf]; omega
      · obtain rfl : k = nl := by omega
        have hall : updR (touchF now target hold up down) (ofN ls ks k) k = (ofN ls ks k).map (touchF now target hold up down) := by
          have := updR_all (touchF now target hold up down) (ofN ls ks k)
          rwa [ofN_length] at this
        have HT := Lib.hid (show SlR bnC wr (some ⟨g, 0, none⟩) k cap ((ofN ls ks k).map (touchF now target hold up down)) from ⟨by rw [List.length_map, ofN_length], HRM.out.2.1, HC.out, (fun _ h => by cases h; rfl), by rw [← hall]; exact HRM.out.rd⟩)
        clear hall
        go_wp2_with (refine load_obj rfl 65 (.tmp 3) rfl w.heap.size 65 (rbC A k c target hold up down) _ rfl HO.out Try.underlying65 rfl rfl ?_)
        refine (rchange_w target hold up down A A1 (some ⟨g, 0, none⟩) k c n c1 cap nb lo ls ks _ hnl hnb HF.out _ (HS.out.below HB.out) (HI.out.below HB.out) HT.out HR.out).mono ?_
        rintro e w5 ⟨A9, c9, rfl, hs9, hb9⟩
        have HS9 := Lib.hid (hs9.mono (show w.heap.size + 2 ≤ _ from HZ.out.lt))
        have HB9 := Lib.hid (bl_next HB.out hb9)
        have HZ9 := Lib.hid (HZ.out.below hb9)
        clear hs9 hb9 HZ HO
        go_wp2_with (refine store_obj rfl 65 (.tmp 6) (.tmp 85) rfl (w.heap.size + 1) 65 _ (rbC A9 k c9 target hold up down) rfl rfl HZ9.out rfl rfl (by simp [rbC, Value.oneCell']) ?_; intro w6 ho6 hu6; have HZ6 := Lib.hid ho6; have HB6 := Lib.hid (bl_upd HB9.out hu6 (by omega)); have HS6 := Lib.hid (HS9.out.upd hu6 (by omega)); clear ho6 hu6)
        refine bodyPost_ret (results_cell_row rfl _ _ (w.heap.size + 1) 65 (rbC A9 k c9 target hold up down) (0, 0) _ rfl HZ6.out Try.underlying65 rfl rfl) rfl ?_
        exact ⟨A9, c9, rfl, HS6.out.mono (by omega), HB6.out⟩
  · subst hT0
    go_enter Try.func30, Try.ntmps30
    go_upto_region 1 with (fail)
    rw [← HW.out]
    clear HW
    go_wp2_with (refine load_obj rfl 65 (.tmp 3) rfl w.heap.size 65 (rbC A nl c target hold up down) _ rfl HO.out Try.underlying65 rfl rfl ?_)
    refine (rflows_w target hold up down A A1 nl c n c1 nb lo ls ks hnl hnb _ (HS.out.below HB.out) (HI.out.below HB.out) HR.out).mono ?_
    rw [HF.out]
    rintro e w2 ⟨rfl, hb2⟩
    have HB2 := Lib.hid (bl_next HB.out hb2)
    have HO2 := Lib.hid (HO.out.below hb2)
    have HZ2 := Lib.hid (HZ.out.below hb2)
    clear hb2 HB HO HZ
    go_wp2_with (refine load_obj rfl 65 (.tmp 3) rfl w.heap.size 65 (rbC A nl c target hold up down) _ rfl HO2.out Try.underlying65 rfl rfl ?_)
    refine (rof_w target hold up down A A1 nl c n c1 nb lo ls ks hnl hnb HF.out _ (HS.out.below HB2.out) (HI.out.below HB2.out) HR.out).mono ?_
    rintro e w3 ⟨v3, rfl, hown, hb3⟩
    obtain ⟨g, cap, rfl, hg, hcap, hroom⟩ : ∃ g cap, v3 = .slice (some ⟨g, 0, none⟩) nl cap ∧ w2.heap.size ≤ g ∧ cap ≤ 9223372036854775807 ∧ RoomO w3 g nl cap 3 (fl bnC (ofN ls ks nl)) 87 := by
      rcases own_room hown with ⟨h0, _, _⟩ | h0
      · omega
      · exact h0
    have HG := Lib.hid (show w.heap.size + 2 ≤ g by have := HZ2.out.lt; omega)
    have HC := Lib.hid hcap
    have HRM := Lib.hid hroom
    have HB3 := Lib.hid (bl_next HB2.out hb3)
    have HO3 := Lib.hid (HO2.out.below hb3)
    have HZ3 := Lib.hid (HZ2.out.below hb3)
    clear hown hg hcap hroom hb3 HB2 HO2 HZ2
    go_wp2_with fail
    go_loopw [24] (fun i wr => ∃ (k : Nat), k ≤ nl ∧ i = .int .i64 k ∧ RoomO wr g nl cap 3 (fl bnC (updR (touchF now target hold up down) (ofN ls ks nl) k)) 87 ∧ Below w.heap.size w wr ∧ Obj1 wr w.heap.size (rbC A nl c target hold up down) 65 ∧ Obj1 wr (w.heap.size + 1) #[.slice none 0 0, .int .i64 0, .int .i64 0, .int .i64 0, .int .i64 0] 65) (fun i _ => nl - (intOf i).toNat)
    case atStart => exact ⟨0, Nat.zero_le _, rfl, HRM.out, HB3.out, HO3.out, HZ3.out⟩
    case round =>
      obtain ⟨k, hk, rfl, hRM, hB, hO, hZ⟩ := hrel
      clear HRM HB3 HO3 HZ3
      have HRM := Lib.hid hRM
      have HB := Lib.hid hB
      have HO := Lib.hid hO
      have HZ := Lib.hid hZ
      clear hRM hB hO hZ
      by_cases hlt : k < nl
      · have hk0 : (0 : Int) ≤ (k : Int) := Int.natCast_nonneg k
        have hk1 : (k : Int) < (nl : Int) := by omega
        have hx := ofN_at ls ks nl k hlt
        have hx2 : (updR (touchF now target hold up down) (ofN ls ks nl) k)[k]? = some (binAt ls ks k) := by rw [updR_at, if_neg (by omega)]; exact hx
        have hokx := HOK.out k hlt
        obtain ⟨x, hxx⟩ : ∃ x, x = binAt ls ks k := ⟨_, rfl⟩
        rw [← hxx] at hx hx2 hokx
        have HST := Lib.hid (updR_step (touchF now target hold up down) (ofN ls ks nl) hx)
        have HX2 := Lib.hid hx2
        obtain ⟨c0, c1, c2⟩ := HRM.out.bn hx2
        obtain ⟨⟨ho1, ho2⟩, ⟨ho3, ho4⟩, ho5, ho6⟩ := hokx
        have b1 : wr.cell? ⟨w.heap.size, 1, none⟩ = some (.int .i64 target) := HO.out.cell 1
        have b2 : wr.cell? ⟨w.heap.size, 2, none⟩ = some (.int .i64 hold) := HO.out.cell 2
        have hgne : w.heap.size ≠ g := by have := HG.out; omega
        have hgne1 : w.heap.size + 1 ≠ g := by have := HG.out; omega
        have htf : touchF now target hold up down x = if 4611686018427387903 - x.c < hold then x else if target < x.n then { x with p := (if x.p + up ≤ 65536 then x.p + up else 65536), c := 4611686018427387903 } else if x.n = 0 then { x with p := (if 0 ≤ x.p - down then x.p - down else 0), c := 4611686018427387903 } else x := by
          unfold touchF; rw [← HTD.out]
        have hw0 : IntKind.i64.wrap (4611686018427387903 - x.c) = 4611686018427387903 - x.c := IntWalk.i64_in _ (by omega)
        have hw1 : IntKind.i64.wrap (x.p + up) = x.p + up := IntWalk.i64_in _ (by omega)
        have hw2 : IntKind.i64.wrap (x.p - down) = x.p - down := IntWalk.i64_in _ (by omega)
        clear hx hx2 hxx
        by_cases q1 : 4611686018427387903 - x.c < hold
        · rw [if_pos q1] at htf
          have HTF := Lib.hid htf
          clear htf
          go_wp2_with fail
          go_quiet (fail)
          go_wp2_with fail
          go_roundw
          case rel => exact ⟨k + 1, by omega, by go_num, by rw [HST.out, HTF.out, set_here HX2.out]; exact HRM.out, bl_drewN HB.out _, HO.out, HZ.out⟩
          case measure => simp [intOf]; omega
        · rw [if_neg q1] at htf
          by_cases q2 : target < x.n
          · rw [if_pos q2] at htf
            rw [show (if x.p + up ≤ 65536 then x.p + up else 65536) = (if x.p + up < 65536 then x.p + up else 65536) by split <;> split <;> omega] at htf
            have HTF := Lib.hid htf
            clear htf
            go_wp2_with fail
            go_quiet (fail)
            go_wp2_with fail
            go_quiet (fail)
            go_wp2_with fail
            refine wp_region_held_drew (S := fun w' => Obj1 w' w.heap.size (rbC A nl c target hold up down) 65) (by kernel_rfl) (by exact HO.out) (fun hHeld => ?_)
            have HX := Lib.hid hHeld
            clear hHeld
            generalize hWd : World.drew _ = W0 at HX ⊢
            have hq1 : RoomO W0 g nl cap 3 (fl bnC (updR (touchF now target hold up down) (ofN ls ks nl) k)) 87 := by rw [← hWd]; exact HRM.out
            have hq2 : Below w.heap.size w W0 := by rw [← hWd]; first | exact (bl_drewN (bl_drewN HB.out _) _).drew | exact (bl_drewN HB.out _).drew
            have hq3 : Obj1 W0 (w.heap.size + 1) #[.slice none 0 0, .int .i64 0, .int .i64 0, .int .i64 0, .int .i64 0] 65 := by rw [← hWd]; exact HZ.out
            clear HRM HB HZ
            have HRM := Lib.hid hq1
            have HB := Lib.hid hq2
            have HZ := Lib.hid hq3
            clear hq1 hq2 hq3
            clear hWd
            refine wpAnyH_take (i := 0) (v := ?_) rfl (by kernel_rfl) (by kernel_rfl) (by kernel_rfl) (fun _ _ _ h => h) (Or.inl ⟨by rfl, ?_⟩) HX.out ?_
            rotate_left
            · intro w' hSw; go_simp
              try with_reducible rfl
            go_simp
            refine wpAnyH_take (i := 1) (v := ?_) rfl (by kernel_rfl) (by kernel_rfl) (by kernel_rfl) (fun _ _ _ h => h) (Or.inl ⟨by rfl, ?_⟩) HX.out ?_
            rotate_left
            · intro w' hSw; go_simp
              try with_reducible rfl
            go_simp
            refine wpAnyH_take (i := 2) (v := ?_) rfl (by kernel_rfl) (by kernel_rfl) (by kernel_rfl) (fun _ _ _ h => h) (Or.inl ⟨by rfl, ?_⟩) HX.out ?_
            rotate_left
            · intro w' hSw; go_simp
              try with_reducible rfl
            go_simp
            refine wpAnyH_take (i := 3) (v := ?_) rfl (by kernel_rfl) (by kernel_rfl) (by kernel_rfl) (fun _ _ _ h => h) (Or.inl ⟨by rfl, ?_⟩) HX.out ?_
            rotate_left
            · intro w' hSw; go_simp
              try with_reducible rfl
            go_simp
            refine wpAnyH_take (i := 4) (v := ?_) rfl (by kernel_rfl) (by kernel_rfl) (by kernel_rfl) (fun _ _ _ h => h) (Or.inl ⟨by rfl, ?_⟩) HX.out ?_
            rotate_left
            · intro w' hSw; go_simp
              try with_reducible rfl
            go_simp
            refine wpAnyH_take (i := 6) (v := ?_) rfl (by kernel_rfl) (by kernel_rfl) (by kernel_rfl) (fun _ _ _ h => h) (Or.inl ⟨by rfl, ?_⟩) HX.out ?_
            rotate_left
            · intro w' hSw; go_simp
              try with_reducible rfl
            go_simp
            refine wpAnyH_take (i := 7) (v := ?_) rfl (by kernel_rfl) (by kernel_rfl) (by kernel_rfl) (fun _ _ _ h => h) (Or.inl ⟨by rfl, ?_⟩) HX.out ?_
            rotate_left
            · intro w' hSw; have c3 : w'.cell? ⟨w.heap.size, 3, none⟩ = some (.int .i64 up) := hSw.cell 3; go_simp
              try with_reducible rfl
            go_simp
            refine wpAnyH_take (i := 10) (v := ?_) rfl (by kernel_rfl) (by kernel_rfl) (by kernel_rfl) (fun _ _ _ h => h) (Or.inl ⟨by rfl, ?_⟩) HX.out ?_
            rotate_left
            · intro w' hSw; go_simp
              try with_reducible rfl
            go_simp
            refine wpAnyH_ready (rs := [5]) (by kernel_rfl) (by simp) ?_
            refine AllReadyH.cons rfl (fun K hK => ?_) AllReadyH.nil
            have cp : W0.cell? ⟨g, k * 3 + 2, none⟩ = some (.int .i64 x.p) := (HRM.out.bn HX2.out).2.2
            go_simp
            have hX : Obj1 W0 w.heap.size (rbC A nl c target hold up down) 65 := HX.out
            clear cp
            refine hK.out _ _ (hX) (fun hHeld => ?_)
            clear HX hK K
            have HX := Lib.hid hHeld
            clear hHeld
            go_simp
            refine wpAnyH_take (i := 8) (v := ?_) rfl (by kernel_rfl) (by kernel_rfl) (by kernel_rfl) (fun _ _ _ h => h) (Or.inl ⟨by rfl, ?_⟩) HX.out ?_
            rotate_left
            · intro w' hSw; go_simp
              try with_reducible rfl
            go_simp
            refine wpAnyH_take (i := 9) (v := ?_) rfl (by kernel_rfl) (by kernel_rfl) (by kernel_rfl) (fun _ _ _ h => h) (Or.inl ⟨by rfl, ?_⟩) HX.out ?_
            rotate_left
            · intro w' hSw; go_simp
              try with_reducible rfl
            go_simp
            refine wpAnyH_take (i := 11) (v := ?_) rfl (by kernel_rfl) (by kernel_rfl) (by kernel_rfl) (fun _ _ _ h => h) (Or.inl ⟨by rfl, ?_⟩) HX.out ?_
            rotate_left
            · intro w' hSw; go_simp
              try with_reducible rfl
            go_simp
            refine wpAnyH_take (i := 12) (v := ?_) rfl (by kernel_rfl) (by kernel_rfl) (by kernel_rfl) (fun _ _ _ h => h) (Or.inl ⟨by rfl, ?_⟩) HX.out ?_
            rotate_left
            · intro w' hSw; go_simp
              try with_reducible rfl
            go_simp
            refine wpAnyH_ready (rs := [13]) (by kernel_rfl) (by simp) ?_
            refine AllReadyH.cons rfl (fun K hK => ?_) AllReadyH.nil
            have cp : W0.cell? ⟨g, k * 3 + 2, none⟩ = some (.int .i64 x.p) := (HRM.out.bn HX2.out).2.2
            have fp : W0.frozen? ⟨g, k * 3 + 2, none⟩ = false := HRM.out.free _
            go_simp
            have hX : Obj1 _ w.heap.size (rbC A nl c target hold up down) 65 := HX.out.of_grown ((Upd.refl g W0).set (k * 3 + 2) (.int .i64 (if x.p + up < 65536 then x.p + up else 65536))) (by simpa using hgne)
            clear cp fp
            refine hK.out _ _ (hX) (fun hHeld => ?_)
            clear HX hK K
            have HX := Lib.hid hHeld
            clear hHeld
            go_simp
            refine wpAnyH_take (i := 14) (v := ?_) rfl (by kernel_rfl) (by kernel_rfl) (by kernel_rfl) (fun _ _ _ h => h) (Or.inl ⟨by rfl, ?_⟩) HX.out ?_
            rotate_left
            · intro w' hSw; go_simp
              try with_reducible rfl
            go_simp
            refine wpAnyH_take (i := 15) (v := ?_) rfl (by kernel_rfl) (by kernel_rfl) (by kernel_rfl) (fun _ _ _ h => h) (Or.inl ⟨by rfl, ?_⟩) HX.out ?_
            rotate_left
            · intro w' hSw; go_simp
              try with_reducible rfl
            go_simp
            refine wpAnyH_ready (rs := [16]) (by kernel_rfl) (by simp) ?_
            refine AllReadyH.cons rfl (fun K hK => ?_) AllReadyH.nil
            have hR1 := HRM.out.set (k * 3 + 2) (by omega) (.int .i64 (if x.p + up < 65536 then x.p + up else 65536))
            have cc : (W0.setCell ⟨g, k * 3 + 2, none⟩ (.int .i64 (if x.p + up < 65536 then x.p + up else 65536))).cell? ⟨g, k * 3 + 1, none⟩ = some (.int .i64 x.c) := hR1.cell (by rw [List.getElem?_set_ne (by omega)]; simpa [bnC] using fl_at (f := bnC) (k := 3) (bnC_len _) HX2.out (q := 1) (by omega))
            have fc : (W0.setCell ⟨g, k * 3 + 2, none⟩ (.int .i64 (if x.p + up < 65536 then x.p + up else 65536))).frozen? ⟨g, k * 3 + 1, none⟩ = false := hR1.free _
            clear hR1
            go_simp
            have hX : Obj1 _ w.heap.size (rbC A nl c target hold up down) 65 := HX.out.of_grown ((Upd.refl g _).set (k * 3 + 1) (.int .i64 4611686018427387903)) (by simpa using hgne)
            clear cc fc
            refine hK.out _ _ (hX) (fun hHeld => ?_)
            clear HX hK K
            have HX := Lib.hid hHeld
            clear hHeld
            go_simp
            refine wpAnyH_done (by kernel_rfl) ?_ _
            go_wp2_with fail
            go_roundw
            case rel => exact ⟨k + 1, by omega, by go_num, by rw [HST.out, HTF.out, ← bn_set21 HX2.out]; exact (HRM.out.set (k * 3 + 2) (by omega) _).set (k * 3 + 1) (by omega) _, bl_upd HB.out (((Upd.refl g _).set _ _).set _ _) (by have := HG.out; omega), HX.out, HZ.out.of_grown (((Upd.refl g _).set _ _).set _ _) (by simpa using hgne1)⟩
            case measure => simp [intOf]; omega
          · rw [if_neg q2] at htf
            by_cases q4 : x.n = 0
            · rw [if_pos q4] at htf
              rw [show (if 0 ≤ x.p - down then x.p - down else 0) = (if down < x.p then x.p - down else 0) by split <;> split <;> omega] at htf
              have HTF := Lib.hid htf
              clear htf
              go_wp2_with fail
              go_quiet (fail)
              go_wp2_with fail
              go_quiet (fail)
              go_wp2_with fail
              refine wp_region_held_drew (S := fun w' => Obj1 w' w.heap.size (rbC A nl c target hold up down) 65) (by kernel_rfl) (by exact HO.out) (fun hHeld => ?_)
              have HX := Lib.hid hHeld
              clear hHeld
              generalize hWd : World.drew _ = W0 at HX ⊢
              have hq1 : RoomO W0 g nl cap 3 (fl bnC (updR (touchF now target hold up down) (ofN ls ks nl) k)) 87 := by rw [← hWd]; exact HRM.out
              have hq2 : Below w.heap.size w W0 := by rw [← hWd]; first | exact (bl_drewN (bl_drewN HB.out _) _).drew | exact (bl_drewN HB.out _).drew
              have hq3 : Obj1 W0 (w.heap.size + 1) #[.slice none 0 0, .int .i64 0, .int .i64 0, .int .i64 0, .int .i64 0] 65 := by rw [← hWd]; exact HZ.out
              clear HRM HB HZ
              have HRM := Lib.hid hq1
              have HB := Lib.hid hq2
              have HZ := Lib.hid hq3
              clear hq1 hq2 hq3
              clear hWd
              refine wpAnyH_take (i := 0) (v := ?_) rfl (by kernel_rfl) (by kernel_rfl) (by kernel_rfl) (fun _ _ _ h => h) (Or.inl ⟨by rfl, ?_⟩) HX.out ?_
              rotate_left
              · intro w' hSw; go_simp
                try with_reducible rfl
              go_simp
              refine wpAnyH_take (i := 1) (v := ?_) rfl (by kernel_rfl) (by kernel_rfl) (by kernel_rfl) (fun _ _ _ h => h) (Or.inl ⟨by rfl, ?_⟩) HX.out ?_
              rotate_left
              · intro w' hSw; go_simp
                try with_reducible rfl
              go_simp
              refine wpAnyH_take (i := 2) (v := ?_) rfl (by kernel_rfl) (by kernel_rfl) (by kernel_rfl) (fun _ _ _ h => h) (Or.inl ⟨by rfl, ?_⟩) HX.out ?_
              rotate_left
              · intro w' hSw; go_simp
                try with_reducible rfl
              go_simp
              refine wpAnyH_take (i := 3) (v := ?_) rfl (by kernel_rfl) (by kernel_rfl) (by kernel_rfl) (fun _ _ _ h => h) (Or.inl ⟨by rfl, ?_⟩) HX.out ?_
              rotate_left
              · intro w' hSw; go_simp
                try with_reducible rfl
              go_simp
              refine wpAnyH_take (i := 4) (v := ?_) rfl (by kernel_rfl) (by kernel_rfl) (by kernel_rfl) (fun _ _ _ h => h) (Or.inl ⟨by rfl, ?_⟩) HX.out ?_
              rotate_left
              · intro w' hSw; go_simp
                try with_reducible rfl
              go_simp
              refine wpAnyH_take (i := 6) (v := ?_) rfl (by kernel_rfl) (by kernel_rfl) (by kernel_rfl) (fun _ _ _ h => h) (Or.inl ⟨by rfl, ?_⟩) HX.out ?_
              rotate_left
              · intro w' hSw; go_simp
                try with_reducible rfl
              go_simp
              refine wpAnyH_take (i := 7) (v := ?_) rfl (by kernel_rfl) (by kernel_rfl) (by kernel_rfl) (fun _ _ _ h => h) (Or.inl ⟨by rfl, ?_⟩) HX.out ?_
              rotate_left
              · intro w' hSw; have c4 : w'.cell? ⟨w.heap.size, 4, none⟩ = some (.int .i64 down) := hSw.cell 4; go_simp
                try with_reducible rfl
              go_simp
              refine wpAnyH_take (i := 10) (v := ?_) rfl (by kernel_rfl) (by kernel_rfl) (by kernel_rfl) (fun _ _ _ h => h) (Or.inl ⟨by rfl, ?_⟩) HX.out ?_
              rotate_left
              · intro w' hSw; go_simp
                try with_reducible rfl
              go_simp
              refine wpAnyH_ready (rs := [5]) (by kernel_rfl) (by simp) ?_
              refine AllReadyH.cons rfl (fun K hK => ?_) AllReadyH.nil
              have cp : W0.cell? ⟨g, k * 3 + 2, none⟩ = some (.int .i64 x.p) := (HRM.out.bn HX2.out).2.2
              go_simp
              have hX : Obj1 W0 w.heap.size (rbC A nl c target hold up down) 65 := HX.out
              clear cp
              refine hK.out _ _ (hX) (fun hHeld => ?_)
              clear HX hK K
              have HX := Lib.hid hHeld
              clear hHeld
              go_simp
              refine wpAnyH_take (i := 8) (v := ?_) rfl (by kernel_rfl) (by kernel_rfl) (by kernel_rfl) (fun _ _ _ h => h) (Or.inl ⟨by rfl, ?_⟩) HX.out ?_
              rotate_left
              · intro w' hSw; go_simp
                try with_reducible rfl
              go_simp
              refine wpAnyH_take (i := 9) (v := ?_) rfl (by kernel_rfl) (by kernel_rfl) (by kernel_rfl) (fun _ _ _ h => h) (Or.inl ⟨by rfl, ?_⟩) HX.out ?_
              rotate_left
              · intro w' hSw; go_simp
                try with_reducible rfl
              go_simp
              refine wpAnyH_take (i := 11) (v := ?_) rfl (by kernel_rfl) (by kernel_rfl) (by kernel_rfl) (fun _ _ _ h => h) (Or.inl ⟨by rfl, ?_⟩) HX.out ?_
              rotate_left
              · intro w' hSw; go_simp
                try with_reducible rfl
              go_simp
              refine wpAnyH_take (i := 12) (v := ?_) rfl (by kernel_rfl) (by kernel_rfl) (by kernel_rfl) (fun _ _ _ h => h) (Or.inl ⟨by rfl, ?_⟩) HX.out ?_
              rotate_left
              · intro w' hSw; go_simp
                try with_reducible rfl
              go_simp
              refine wpAnyH_ready (rs := [13]) (by kernel_rfl) (by simp) ?_
              refine AllReadyH.cons rfl (fun K hK => ?_) AllReadyH.nil
              have cp : W0.cell? ⟨g, k * 3 + 2, none⟩ = some (.int .i64 x.p) := (HRM.out.bn HX2.out).2.2
              have fp : W0.frozen? ⟨g, k * 3 + 2, none⟩ = false := HRM.out.free _
              go_simp
              have hX : Obj1 _ w.heap.size (rbC A nl c target hold up down) 65 := HX.out.of_grown ((Upd.refl g W0).set (k * 3 + 2) (.int .i64 (if down < x.p then x.p - down else 0))) (by simpa using hgne)
              clear cp fp
              refine hK.out _ _ (hX) (fun hHeld => ?_)
              clear HX hK K
              have HX := Lib.hid hHeld
              clear hHeld
              go_simp
              refine wpAnyH_take (i := 14) (v := ?_) rfl (by kernel_rfl) (by kernel_rfl) (by kernel_rfl) (fun _ _ _ h => h) (Or.inl ⟨by rfl, ?_⟩) HX.out ?_
              rotate_left
              · intro w' hSw; go_simp
                try with_reducible rfl
              go_simp
              refine wpAnyH_take (i := 15) (v := ?_) rfl (by kernel_rfl) (by kernel_rfl) (by kernel_rfl) (fun _ _ _ h => h) (Or.inl ⟨by rfl, ?_⟩) HX.out ?_
              rotate_left
              · intro w' hSw; go_simp
                try with_reducible rfl
              go_simp
              refine wpAnyH_ready (rs := [16]) (by kernel_rfl) (by simp) ?_
              refine AllReadyH.cons rfl (fun K hK => ?_) AllReadyH.nil
              have hR1 := HRM.out.set (k * 3 + 2) (by omega) (.int .i64 (if down < x.p then x.p - down else 0))
              have cc : (W0.setCell ⟨g, k * 3 + 2, none⟩ (.int .i64 (if down < x.p then x.p - down else 0))).cell? ⟨g, k * 3 + 1, none⟩ = some (.int .i64 x.c) := hR1.cell (by rw [List.getElem?_set_ne (by omega)]; simpa [bnC] using fl_at (f := bnC) (k := 3) (bnC_len _) HX2.out (q := 1) (by omega))
              have fc : (W0.setCell ⟨g, k * 3 + 2, none⟩ (.int .i64 (if down < x.p then x.p - down else 0))).frozen? ⟨g, k * 3 + 1, none⟩ = false := hR1.free _
              clear hR1
              go_simp
              have hX : Obj1 _ w.heap.size (rbC A nl c target hold up down) 65 := HX.out.of_grown ((Upd.refl g _).set (k * 3 + 1) (.int .i64 4611686018427387903)) (by simpa using hgne)
              clear cc fc
              refine hK.out _ _ (hX) (fun hHeld => ?_)
              clear HX hK K
              have HX := Lib.hid hHeld
              clear hHeld
              go_simp
              refine wpAnyH_done (by kernel_rfl) ?_ _
              go_wp2_with fail
              go_roundw
              case rel => exact ⟨k + 1, by omega, by go_num, by rw [HST.out, HTF.out, ← bn_set21 HX2.out]; exact (HRM.out.set (k * 3 + 2) (by omega) _).set (k * 3 + 1) (by omega) _, bl_upd HB.out (((Upd.refl g _).set _ _).set _ _) (by have := HG.out; omega), HX.out, HZ.out.of_grown (((Upd.refl g _).set _ _).set _ _) (by simpa using hgne1)⟩
              case measure => simp [intOf]; omega
            · rw [if_neg q4] at htf
              have HTF := Lib.hid htf
              clear htf
              go_wp2_with fail
              go_quiet (fail)
              go_wp2_with fail
              go_quiet (fail)
              go_wp2_with fail
              go_roundw
              case rel => exact ⟨k + 1, by omega, by go_num, by rw [HST.out, HTF.out, set_here HX2.out]; exact HRM.out, bl_drewN HB.out _, HO.out, HZ.out⟩
              case measure => simp [intOf]; omega
      · obtain rfl : k = nl := by omega
        have hall : updR (touchF now target hold up down) (ofN ls ks k) k = (ofN ls ks k).map (touchF now target hold up down) := by
          have := updR_all (touchF now target hold up down) (ofN ls ks k)
          rwa [ofN_length] at this
        have HT := Lib.hid (show SlR bnC wr (some ⟨g, 0, none⟩) k cap ((ofN ls ks k).map (touchF now target hold up down)) from ⟨by rw [List.length_map, ofN_length], HRM.out.2.1, HC.out, (fun _ h => by cases h; rfl), by rw [← hall]; exact HRM.out.rd⟩)
        clear hall
        go_wp2_with (refine load_obj rfl 65 (.tmp 3) rfl w.heap.size 65 (rbC A k c target hold up down) _ rfl HO.out Try.underlying65 rfl rfl ?_)
        refine (rchange_w target hold up down A A1 (some ⟨g, 0, none⟩) k c n c1 cap nb lo ls ks _ hnl hnb HF.out _ (HS.out.below HB.out) (HI.out.below HB.out) HT.out HR.out).mono ?_
        rintro e w5 ⟨A9, c9, rfl, hs9, hb9⟩
        have HS9 := Lib.hid (hs9.mono (show w.heap.size + 2 ≤ _ from HZ.out.lt))
        have HB9 := Lib.hid (bl_next HB.out hb9)
        have HZ9 := Lib.hid (HZ.out.below hb9)
        clear hs9 hb9 HZ HO
        go_wp2_with (refine store_obj rfl 65 (.tmp 6) (.tmp 85) rfl (w.heap.size + 1) 65 _ (rbC A9 k c9 target hold up down) rfl rfl HZ9.out rfl rfl (by simp [rbC, Value.oneCell']) ?_; intro w6 ho6 hu6; have HZ6 := Lib.hid ho6; have HB6 := Lib.hid (bl_upd HB9.out hu6 (by omega)); have HS6 := Lib.hid (HS9.out.upd hu6 (by omega)); clear ho6 hu6)
        refine bodyPost_ret (results_cell_row rfl _ _ (w.heap.size + 1) 65 (rbC A9 k c9 target hold up down) (0, 0) _ rfl HZ6.out Try.underlying65 rfl rfl) rfl ?_
        exact ⟨A9, c9, rfl, HS6.out.mono (by omega), HB6.out⟩
  · subst hT0
    go_enter Try.func30, Try.ntmps30
    go_upto_region 1 with (fail)
    rw [← HW.out]
    clear HW
    go_wp2_with (refine load_obj rfl 65 (.tmp 3) rfl w.heap.size 65 (rbC A nl c target hold up down) _ rfl HO.out Try.underlying65 rfl rfl ?_)
    refine (rflows_w target hold up down A A1 nl c n c1 nb lo ls ks hnl hnb _ (HS.out.below HB.out) (HI.out.below HB.out) HR.out).mono ?_
    rw [HF.out]
    rintro e w2 ⟨rfl, hb2⟩
    have HB2 := Lib.hid (bl_next HB.out hb2)
    have HO2 := Lib.hid (HO.out.below hb2)
    have HZ2 := Lib.hid (HZ.out.below hb2)
    clear hb2 HB HO HZ
    go_wp2_with (refine load_obj rfl 65 (.tmp 3) rfl w.heap.size 65 (rbC A nl c target hold up down) _ rfl HO2.out Try.underlying65 rfl rfl ?_)
    refine (rof_w target hold up down A A1 nl c n c1 nb lo ls ks hnl hnb HF.out _ (HS.out.below HB2.out) (HI.out.below HB2.out) HR.out).mono ?_
    rintro e w3 ⟨v3, rfl, hown, hb3⟩
    obtain ⟨g, cap, rfl, hg, hcap, hroom⟩ : ∃ g cap, v3 = .slice (some ⟨g, 0, none⟩) nl cap ∧ w2.heap.size ≤ g ∧ cap ≤ 9223372036854775807 ∧ RoomO w3 g nl cap 3 (fl bnC (ofN ls ks nl)) 87 := by
      rcases own_room hown with ⟨h0, _, _⟩ | h0
      · omega
      · exact h0
    have HG := Lib.hid (show w.heap.size + 2 ≤ g by have := HZ2.out.lt; omega)
    have HC := Lib.hid hcap
    have HRM := Lib.hid hroom
    have HB3 := Lib.hid (bl_next HB2.out hb3)
    have HO3 := Lib.hid (HO2.out.below hb3)
    have HZ3 := Lib.hid (HZ2.out.below hb3)
    clear hown hg hcap hroom hb3 HB2 HO2 HZ2
    go_wp2_with fail
    go_loopw [24] (fun i wr => ∃ (k : Nat), k ≤ nl ∧ i = .int .i64 k ∧ RoomO wr g nl cap 3 (fl bnC (updR (touchF T target hold up down) (ofN ls ks nl) k)) 87 ∧ Below w.heap.size w wr ∧ Obj1 wr w.heap.size (rbC A nl c target hold up down) 65 ∧ Obj1 wr (w.heap.size + 1) #[.slice none 0 0, .int .i64 0, .int .i64 0, .int .i64 0, .int .i64 0] 65) (fun i _ => nl - (intOf i).toNat)
    case atStart => exact ⟨0, Nat.zero_le _, rfl, HRM.out, HB3.out, HO3.out, HZ3.out⟩
    case round =>
      obtain ⟨k, hk, rfl, hRM, hB, hO, hZ⟩ := hrel
      clear HRM HB3 HO3 HZ3
      have HRM := Lib.hid hRM
      have HB := Lib.hid hB
      have HO := Lib.hid hO
      have HZ := Lib.hid hZ
      clear hRM hB hO hZ
      by_cases hlt : k < nl
      · have hk0 : (0 : Int) ≤ (k : Int) := Int.natCast_nonneg k
        have hk1 : (k : Int) < (nl : Int) := by omega
        have hx := ofN_at ls ks nl k hlt
        have hx2 : (updR (touchF T target hold up down) (ofN ls ks nl) k)[k]? = some (binAt ls ks k) := by rw [updR_at, if_neg (by omega)]; exact hx
        have hokx := HOK.out k hlt
        obtain ⟨x, hxx⟩ : ∃ x, x = binAt ls ks k := ⟨_, rfl⟩
        rw [← hxx] at hx hx2 hokx
        have HST := Lib.hid (updR_step (touchF T target hold up down) (ofN ls ks nl) hx)
        have HX2 := Lib.hid hx2
        obtain ⟨c0, c1, c2⟩ := HRM.out.bn hx2
        obtain ⟨⟨ho1, ho2⟩, ⟨ho3, ho4⟩, ho5, ho6⟩ := hokx
        have b1 : wr.cell? ⟨w.heap.size, 1, none⟩ = some (.int .i64 target) := HO.out.cell 1
        have b2 : wr.cell? ⟨w.heap.size, 2, none⟩ = some (.int .i64 hold) := HO.out.cell 2
        have hgne : w.heap.size ≠ g := by have := HG.out; omega
        have hgne1 : w.heap.size + 1 ≠ g := by have := HG.out; omega
        have htf : touchF T target hold up down x = if T - x.c < hold then x else if target < x.n then { x with p := (if x.p + up ≤ 65536 then x.p + up else 65536), c := T } else if x.n = 0 then { x with p := (if 0 ≤ x.p - down then x.p - down else 0), c := T } else x := by
          unfold touchF; rw [← HTD.out]
        have hw0 : IntKind.i64.wrap (T - x.c) = T - x.c := IntWalk.i64_in _ (by omega)
        have hw1 : IntKind.i64.wrap (x.p + up) = x.p + up := IntWalk.i64_in _ (by omega)
        have hw2 : IntKind.i64.wrap (x.p - down) = x.p - down := IntWalk.i64_in _ (by omega)
        clear hx hx2 hxx
        by_cases q1 : T - x.c < hold
        · rw [if_pos q1] at htf
          have HTF := Lib.hid htf
          clear htf
          go_wp2_with fail
          go_quiet (fail)
          go_wp2_with fail
          go_roundw
          case rel => exact ⟨k + 1, by omega, by go_num, by rw [HST.out, HTF.out, set_here HX2.out]; exact HRM.out, bl_drewN HB.out _, HO.out, HZ.out⟩
          case measure => simp [intOf]; omega
        · rw [if_neg q1] at htf
          by_cases q2 : target < x.n
          · rw [if_pos q2] at htf
            rw [show (if x.p + up ≤ 65536 then x.p + up else 65536) = (if x.p + up < 65536 then x.p + up else 65536) by split <;> split <;> omega] at htf
            have HTF := Lib.hid htf
            clear htf
            go_wp2_with fail
            go_quiet (fail)
            go_wp2_with fail
            go_quiet (fail)
            go_wp2_with fail
            refine wp_region_held_drew (S := fun w' => Obj1 w' w.heap.size (rbC A nl c target hold up down) 65) (by kernel_rfl) (by exact HO.out) (fun hHeld => ?_)
            have HX := Lib.hid hHeld
            clear hHeld
            generalize hWd : World.drew _ = W0 at HX ⊢
            have hq1 : RoomO W0 g nl cap 3 (fl bnC (updR (touchF T target hold up down) (ofN ls ks nl) k)) 87 := by rw [← hWd]; exact HRM.out
            have hq2 : Below w.heap.size w W0 := by rw [← hWd]; first | exact (bl_drewN (bl_drewN HB.out _) _).drew | exact (bl_drewN HB.out _).drew
            have hq3 : Obj1 W0 (w.heap.size + 1) #[.slice none 0 0, .int .i64 0, .int .i64 0, .int .i64 0, .int .i64 0] 65 := by rw [← hWd]; exact HZ.out
            clear HRM HB HZ
            have HRM := Lib.hid hq1
            have HB := Lib.hid hq2
            have HZ := Lib.hid hq3
            clear hq1 hq2 hq3
            clear hWd
            refine wpAnyH_take (i := 0) (v := ?_) rfl (by kernel_rfl) (by kernel_rfl) (by kernel_rfl) (fun _ _ _ h => h) (Or.inl ⟨by rfl, ?_⟩) HX.out ?_
            rotate_left
            · intro w' hSw; go_simp
              try with_reducible rfl
            go_simp
            refine wpAnyH_take (i := 1) (v := ?_) rfl (by kernel_rfl) (by kernel_rfl) (by kernel_rfl) (fun _ _ _ h => h) (Or.inl ⟨by rfl, ?_⟩) HX.out ?_
            rotate_left
            · intro w' hSw; go_simp
              try with_reducible rfl
            go_simp
            refine wpAnyH_take (i := 2) (v := ?_) rfl (by kernel_rfl) (by kernel_rfl) (by kernel_rfl) (fun _ _ _ h => h) (Or.inl ⟨by rfl, ?_⟩) HX.out ?_
            rotate_left
            · intro w' hSw; go_simp
              try with_reducible rfl
            go_simp
            refine wpAnyH_take (i := 3) (v := ?_) rfl (by kernel_rfl) (by kernel_rfl) (by kernel_rfl) (fun _ _ _ h => h) (Or.inl ⟨by rfl, ?_⟩) HX.out ?_
            rotate_left
            · intro w' hSw; go_simp
              try with_reducible rfl
            go_simp
            refine wpAnyH_take (i := 4) (v := ?_) rfl (by kernel_rfl) (by kernel_rfl) (by kernel_rfl) (fun _ _ _ h => h) (Or.inl ⟨by rfl, ?_⟩) HX.out ?_
            rotate_left
            · intro w' hSw; go_simp
              try with_reducible rfl
            go_simp
            refine wpAnyH_take (i := 6) (v := ?_) rfl (by kernel_rfl) (by kernel_rfl) (by kernel_rfl) (fun _ _ _ h => h) (Or.inl ⟨by rfl, ?_⟩) HX.out ?_
            rotate_left
            · intro w' hSw; go_simp
              try with_reducible rfl
            go_simp
            refine wpAnyH_take (i := 7) (v := ?_) rfl (by kernel_rfl) (by kernel_rfl) (by kernel_rfl) (fun _ _ _ h => h) (Or.inl ⟨by rfl, ?_⟩) HX.out ?_
            rotate_left
            · intro w' hSw; have c3 : w'.cell? ⟨w.heap.size, 3, none⟩ = some (.int .i64 up) := hSw.cell 3; go_simp
              try with_reducible rfl
            go_simp
            refine wpAnyH_take (i := 10) (v := ?_) rfl (by kernel_rfl) (by kernel_rfl) (by kernel_rfl) (fun _ _ _ h => h) (Or.inl ⟨by rfl, ?_⟩) HX.out ?_
            rotate_left
            · intro w' hSw; go_simp
              try with_reducible rfl
            go_simp
            refine wpAnyH_ready (rs := [5]) (by kernel_rfl) (by simp) ?_
            refine AllReadyH.cons rfl (fun K hK => ?_) AllReadyH.nil
            have cp : W0.cell? ⟨g, k * 3 + 2, none⟩ = some (.int .i64 x.p) := (HRM.out.bn HX2.out).2.2
            go_simp
            have hX : Obj1 W0 w.heap.size (rbC A nl c target hold up down) 65 := HX.out
            clear cp
            refine hK.out _ _ (hX) (fun hHeld => ?_)
            clear HX hK K
            have HX := Lib.hid hHeld
            clear hHeld
            go_simp
            refine wpAnyH_take (i := 8) (v := ?_) rfl (by kernel_rfl) (by kernel_rfl) (by kernel_rfl) (fun _ _ _ h => h) (Or.inl ⟨by rfl, ?_⟩) HX.out ?_
            rotate_left
            · intro w' hSw; go_simp
              try with_reducible rfl
            go_simp
            refine wpAnyH_take (i := 9) (v := ?_) rfl (by kernel_rfl) (by kernel_rfl) (by kernel_rfl) (fun _ _ _ h => h) (Or.inl ⟨by rfl, ?_⟩) HX.out ?_
            rotate_left
            · intro w' hSw; go_simp
              try with_reducible rfl
            go_simp
            refine wpAnyH_take (i := 11) (v := ?_) rfl (by kernel_rfl) (by kernel_rfl) (by kernel_rfl) (fun _ _ _ h => h) (Or.inl ⟨by rfl, ?_⟩) HX.out ?_
            rotate_left
            · intro w' hSw; go_simp
              try with_reducible rfl
            go_simp
            refine wpAnyH_take (i := 12) (v := ?_) rfl (by kernel_rfl) (by kernel_rfl) (by kernel_rfl) (fun _ _ _ h => h) (Or.inl ⟨by rfl, ?_⟩) HX.out ?_
            rotate_left
            · intro w' hSw; go_simp
              try with_reducible rfl
            go_simp
            refine wpAnyH_ready (rs := [13]) (by kernel_rfl) (by simp) ?_
            refine AllReadyH.cons rfl (fun K hK => ?_) AllReadyH.nil
            have cp : W0.cell? ⟨g, k * 3 + 2, none⟩ = some (.int .i64 x.p) := (HRM.out.bn HX2.out).2.2
            have fp : W0.frozen? ⟨g, k * 3 + 2, none⟩ = false := HRM.out.free _
            go_simp
            have hX : Obj1 _ w.heap.size (rbC A nl c target hold up down) 65 := HX.out.of_grown ((Upd.refl g W0).set (k * 3 + 2) (.int .i64 (if x.p + up < 65536 then x.p + up else 65536))) (by simpa using hgne)
            clear cp fp
            refine hK.out _ _ (hX) (fun hHeld => ?_)
            clear HX hK K
            have HX := Lib.hid hHeld
            clear hHeld
            go_simp
            refine wpAnyH_take (i := 14) (v := ?_) rfl (by kernel_rfl) (by kernel_rfl) (by kernel_rfl) (fun _ _ _ h => h) (Or.inl ⟨by rfl, ?_⟩) HX.out ?_
            rotate_left
            · intro w' hSw; go_simp
              try with_reducible rfl
            go_simp
            refine wpAnyH_take (i := 15) (v := ?_) rfl (by kernel_rfl) (by kernel_rfl) (by kernel_rfl) (fun _ _ _ h => h) (Or.inl ⟨by rfl, ?_⟩) HX.out ?_
            rotate_left
            · intro w' hSw; go_simp
              try with_reducible rfl
            go_simp
            refine wpAnyH_ready (rs := [16]) (by kernel_rfl) (by simp) ?_
            refine AllReadyH.cons rfl (fun K hK => ?_) AllReadyH.nil
            have hR1 := HRM.out.set (k * 3 + 2) (by omega) (.int .i64 (if x.p + up < 65536 then x.p + up else 65536))
            have cc : (W0.setCell ⟨g, k * 3 + 2, none⟩ (.int .i64 (if x.p + up < 65536 then x.p + up else 65536))).cell? ⟨g, k * 3 + 1, none⟩ = some (.int .i64 x.c) := hR1.cell (by rw [List.getElem?_set_ne (by omega)]; simpa [bnC] using fl_at (f := bnC) (k := 3) (bnC_len _) HX2.out (q := 1) (by omega))
            have fc : (W0.setCell ⟨g, k * 3 + 2, none⟩ (.int .i64 (if x.p + up < 65536 then x.p + up else 65536))).frozen? ⟨g, k * 3 + 1, none⟩ = false := hR1.free _
            clear hR1
            go_simp
            have hX : Obj1 _ w.heap.size (rbC A nl c target hold up down) 65 := HX.out.of_grown ((Upd.refl g _).set (k * 3 + 1) (.int .i64 T)) (by simpa using hgne)
            clear cc fc
            refine hK.out _ _ (hX) (fun hHeld => ?_)
            clear HX hK K
            have HX := Lib.hid hHeld
            clear hHeld
            go_simp
            refine wpAnyH_done (by kernel_rfl) ?_ _
            go_wp2_with fail
            go_roundw
            case rel => exact ⟨k + 1, by omega, by go_num, by rw [HST.out, HTF.out, ← bn_set21 HX2.out]; exact (HRM.out.set (k * 3 + 2) (by omega) _).set (k * 3 + 1) (by omega) _, bl_upd HB.out (((Upd.refl g _).set _ _).set _ _) (by have := HG.out; omega), HX.out, HZ.out.of_grown (((Upd.refl g _).set _ _).set _ _) (by simpa using hgne1)⟩
            case measure => simp [intOf]; omega
          · rw [if_neg q2] at htf
            by_cases q4 : x.n = 0
            · rw [if_pos q4] at htf
              rw [show (if 0 ≤ x.p - down then x.p - down else 0) = (if down < x.p then x.p - down else 0) by split <;> split <;> omega] at htf
              have HTF := Lib.hid htf
              clear htf
              go_wp2_with fail
              go_quiet (fail)
              go_wp2_with fail
              go_quiet (fail)
              go_wp2_with fail
              refine wp_region_held_drew (S := fun w' => Obj1 w' w.heap.size (rbC A nl c target hold up down) 65) (by kernel_rfl) (by exact HO.out) (fun hHeld => ?_)
              have HX := Lib.hid hHeld
              clear hHeld
              generalize hWd : World.drew _ = W0 at HX ⊢
              have hq1 : RoomO W0 g nl cap 3 (fl bnC (updR (touchF T target hold up down) (ofN ls ks nl) k)) 87 := by rw [← hWd]; exact HRM.out
              have hq2 : Below w.heap.size w W0 := by rw [← hWd]; first | exact (bl_drewN (bl_drewN HB.out _) _).drew | exact (bl_drewN HB.out _).drew
              have hq3 : Obj1 W0 (w.heap.size + 1) #[.slice none 0 0, .int .i64 0, .int .i64 0, .int .i64 0, .int .i64 0] 65 := by rw [← hWd]; exact HZ.out
              clear HRM HB HZ
              have HRM := Lib.hid hq1
              have HB := Lib.hid hq2
              have HZ := Lib.hid hq3
              clear hq1 hq2 hq3
              clear hWd
              refine wpAnyH_take (i := 0) (v := ?_) rfl (by kernel_rfl) (by kernel_rfl) (by kernel_rfl) (fun _ _ _ h => h) (Or.inl ⟨by rfl, ?_⟩) HX.out ?_
              rotate_left
              · intro w' hSw; go_simp
                try with_reducible rfl
              go_simp
              refine wpAnyH_take (i := 1) (v := ?_) rfl (by kernel_rfl) (by kernel_rfl) (by kernel_rfl) (fun _ _ _ h => h) (Or.inl ⟨by rfl, ?_⟩) HX.out ?_
              rotate_left
              · intro w' hSw; go_simp
                try with_reducible rfl
              go_simp
              refine wpAnyH_take (i := 2) (v := ?_) rfl (by kernel_rfl) (by kernel_rfl) (by kernel_rfl) (fun _ _ _ h => h) (Or.inl ⟨by rfl, ?_⟩) HX.out ?_
              rotate_left
              · intro w' hSw; go_simp
                try with_reducible rfl
              go_simp
              refine wpAnyH_take (i := 3) (v := ?_) rfl (by kernel_rfl) (by kernel_rfl) (by kernel_rfl) (fun _ _ _ h => h) (Or.inl ⟨by rfl, ?_⟩) HX.out ?_
              rotate_left
              · intro w' hSw; go_simp
                try with_reducible rfl
              go_simp
              refine wpAnyH_take (i := 4) (v := ?_) rfl (by kernel_rfl) (by kernel_rfl) (by kernel_rfl) (fun _ _ _ h => h) (Or.inl ⟨by rfl, ?_⟩) HX.out ?_
              rotate_left
              · intro w' hSw; go_simp
                try with_reducible rfl
              go_simp
              refine wpAnyH_take (i := 6) (v := ?_) rfl (by kernel_rfl) (by kernel_rfl) (by kernel_rfl) (fun _ _ _ h => h) (Or.inl ⟨by rfl, ?_⟩) HX.out ?_
              rotate_left
              · intro w' hSw; go_simp
                try with_reducible rfl
              go_simp
              refine wpAnyH_take (i := 7) (v := ?_) rfl (by kernel_rfl) (by kernel_rfl) (by kernel_rfl) (fun _ _ _ h => h) (Or.inl ⟨by rfl, ?_⟩) HX.out ?_
              rotate_left
              · intro w' hSw; have c4 : w'.cell? ⟨w.heap.size, 4, none⟩ = some (.int .i64 down) := hSw.cell 4; go_simp
                try with_reducible rfl
              go_simp
              refine wpAnyH_take (i := 10) (v := ?_) rfl (by kernel_rfl) (by kernel_rfl) (by kernel_rfl) (fun _ _ _ h => h) (Or.inl ⟨by rfl, ?_⟩) HX.out ?_
              rotate_left
              · intro w' hSw; go_simp
                try with_reducible rfl
              go_simp
              refine wpAnyH_ready (rs := [5]) (by kernel_rfl) (by simp) ?_
              refine AllReadyH.cons rfl (fun K hK => ?_) AllReadyH.nil
              have cp : W0.cell? ⟨g, k * 3 + 2, none⟩ = some (.int .i64 x.p) := (HRM.out.bn HX2.out).2.2
              go_simp
              have hX : Obj1 W0 w.heap.size (rbC A nl c target hold up down) 65 := HX.out
              clear cp
              refine hK.out _ _ (hX) (fun hHeld => ?_)
              clear HX hK K
              have HX := Lib.hid hHeld
              clear hHeld
              go_simp
              refine wpAnyH_take (i := 8) (v := ?_) rfl (by kernel_rfl) (by kernel_rfl) (by kernel_rfl) (fun _ _ _ h => h) (Or.inl ⟨by rfl, ?_⟩) HX.out ?_
              rotate_left
              · intro w' hSw; go_simp
                try with_reducible rfl
              go_simp
              refine wpAnyH_take (i := 9) (v := ?_) rfl (by kernel_rfl) (by kernel_rfl) (by kernel_rfl) (fun _ _ _ h => h) (Or.inl ⟨by rfl, ?_⟩) HX.out ?_
              rotate_left
              · intro w' hSw; go_simp
                try with_reducible rfl
              go_simp
              refine wpAnyH_take (i := 11) (v := ?_) rfl (by kernel_rfl) (by kernel_rfl) (by kernel_rfl) (fun _ _ _ h => h) (Or.inl ⟨by rfl, ?_⟩) HX.out ?_
              rotate_left
              · intro w' hSw; go_simp
                try with_reducible rfl
              go_simp
              refine wpAnyH_take (i := 12) (v := ?_) rfl (by kernel_rfl) (by kernel_rfl) (by kernel_rfl) (fun _ _ _ h => h) (Or.inl ⟨by rfl, ?_⟩) HX.out ?_
              rotate_left
              · intro w' hSw; go_simp
                try with_reducible rfl
              go_simp
              refine wpAnyH_ready (rs := [13]) (by kernel_rfl) (by simp) ?_
              refine AllReadyH.cons rfl (fun K hK => ?_) AllReadyH.nil
              have cp : W0.cell? ⟨g, k * 3 + 2, none⟩ = some (.int .i64 x.p) := (HRM.out.bn HX2.out).2.2
              have fp : W0.frozen? ⟨g, k * 3 + 2, none⟩ = false := HRM.out.free _
              go_simp
              have hX : Obj1 _ w.heap.size (rbC A nl c target hold up down) 65 := HX.out.of_grown ((Upd.refl g W0).set (k * 3 + 2) (.int .i64 (if down < x.p then x.p - down else 0))) (by simpa using hgne)
              clear cp fp
              refine hK.out _ _ (hX) (fun hHeld => ?_)
              clear HX hK K
              have HX := Lib.hid hHeld
              clear hHeld
              go_simp
              refine wpAnyH_take (i := 14) (v := ?_) rfl (by kernel_rfl) (by kernel_rfl) (by kernel_rfl) (fun _ _ _ h => h) (Or.inl ⟨by rfl, ?_⟩) HX.out ?_
              rotate_left
              · intro w' hSw; go_simp
                try with_reducible rfl
              go_simp
              refine wpAnyH_take (i := 15) (v := ?_) rfl (by kernel_rfl) (by kernel_rfl) (by kernel_rfl) (fun _ _ _ h => h) (Or.inl ⟨by rfl, ?_⟩) HX.out ?_
              rotate_left
              · intro w' hSw; go_simp
                try with_reducible rfl
              go_simp
              refine wpAnyH_ready (rs := [16]) (by kernel_rfl) (by simp) ?_
              refine AllReadyH.cons rfl (fun K hK => ?_) AllReadyH.nil
              have hR1 := HRM.out.set (k * 3 + 2) (by omega) (.int .i64 (if down < x.p then x.p - down else 0))
              have cc : (W0.setCell ⟨g, k * 3 + 2, none⟩ (.int .i64 (if down < x.p then x.p - down else 0))).cell? ⟨g, k * 3 + 1, none⟩ = some (.int .i64 x.c) := hR1.cell (by rw [List.getElem?_set_ne (by omega)]; simpa [bnC] using fl_at (f := bnC) (k := 3) (bnC_len _) HX2.out (q := 1) (by omega))
              have fc : (W0.setCell ⟨g, k * 3 + 2, none⟩ (.int .i64 (if down < x.p then x.p - down else 0))).frozen? ⟨g, k * 3 + 1, none⟩ = false := hR1.free _
              clear hR1
              go_simp
              have hX : Obj1 _ w.heap.size (rbC A nl c target hold up down) 65 := HX.out.of_grown ((Upd.refl g _).set (k * 3 + 1) (.int .i64 T)) (by simpa using hgne)
              clear cc fc
              refine hK.out _ _ (hX) (fun hHeld => ?_)
              clear HX hK K
              have HX := Lib.hid hHeld
              clear hHeld
              go_simp
              refine wpAnyH_done (by kernel_rfl) ?_ _
              go_wp2_with fail
              go_roundw
              case rel => exact ⟨k + 1, by omega, by go_num, by rw [HST.out, HTF.out, ← bn_set21 HX2.out]; exact (HRM.out.set (k * 3 + 2) (by omega) _).set (k * 3 + 1) (by omega) _, bl_upd HB.out (((Upd.refl g _).set _ _).set _ _) (by have := HG.out; omega), HX.out, HZ.out.of_grown (((Upd.refl g _).set _ _).set _ _) (by simpa using hgne1)⟩
              case measure => simp [intOf]; omega
            · rw [if_neg q4] at htf
              have HTF := Lib.hid htf
              clear htf
              go_wp2_with fail
              go_quiet (fail)
              go_wp2_with fail
              go_quiet (fail)
              go_wp2_with fail
              go_roundw
              case rel => exact ⟨k + 1, by omega, by go_num, by rw [HST.out, HTF.out, set_here HX2.out]; exact HRM.out, bl_drewN HB.out _, HO.out, HZ.out⟩
              case measure => simp [intOf]; omega
      · obtain rfl : k = nl := by omega
        have hall : updR (touchF T target hold up down) (ofN ls ks k) k = (ofN ls ks k).map (touchF T target hold up down) := by
          have := updR_all (touchF T target hold up down) (ofN ls ks k)
          rwa [ofN_length] at this
        have HT := Lib.hid (show SlR bnC wr (some ⟨g, 0, none⟩) k cap ((ofN ls ks k).map (touchF T target hold up down)) from ⟨by rw [List.length_map, ofN_length], HRM.out.2.1, HC.out, (fun _ h => by cases h; rfl), by rw [← hall]; exact HRM.out.rd⟩)
        clear hall
        go_wp2_with (refine load_obj rfl 65 (.tmp 3) rfl w.heap.size 65 (rbC A k c target hold up down) _ rfl HO.out Try.underlying65 rfl rfl ?_)
        refine (rchange_w target hold up down A A1 (some ⟨g, 0, none⟩) k c n c1 cap nb lo ls ks _ hnl hnb HF.out _ (HS.out.below HB.out) (HI.out.below HB.out) HT.out HR.out).mono ?_
        rintro e w5 ⟨A9, c9, rfl, hs9, hb9⟩
        have HS9 := Lib.hid (hs9.mono (show w.heap.size + 2 ≤ _ from HZ.out.lt))
        have HB9 := Lib.hid (bl_next HB.out hb9)
        have HZ9 := Lib.hid (HZ.out.below hb9)
        clear hs9 hb9 HZ HO
        go_wp2_with (refine store_obj rfl 65 (.tmp 6) (.tmp 85) rfl (w.heap.size + 1) 65 _ (rbC A9 k c9 target hold up down) rfl rfl HZ9.out rfl rfl (by simp [rbC, Value.oneCell']) ?_; intro w6 ho6 hu6; have HZ6 := Lib.hid ho6; have HB6 := Lib.hid (bl_upd HB9.out hu6 (by omega)); have HS6 := Lib.hid (HS9.out.upd hu6 (by omega)); clear ho6 hu6)
        refine bodyPost_ret (results_cell_row rfl _ _ (w.heap.size + 1) 65 (rbC A9 k c9 target hold up down) (0, 0) _ rfl HZ6.out Try.underlying65 rfl rfl) rfl ?_
        exact ⟨A9, c9, rfl, HS6.out.mono (by omega), HB6.out⟩
end Go.Proofs.Ytcgabjjdffcjbaa
