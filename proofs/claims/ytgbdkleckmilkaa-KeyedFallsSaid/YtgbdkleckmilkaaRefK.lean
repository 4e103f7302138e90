/- The document's bytes of a flow. -/
import Derived.Test.YtgbdkleckmilkaaRefC
import Derived.Test.YtgbdkleckmilkaaKeyD
namespace Go.Proofs.Ytgbdkleckmilkaa
open Go.RowKit
set_option linter.unusedVariables false
set_option linter.unusedSimpArgs false

theorem fl_src_at {w : World} {F : Nat} {f : Fl} {t : TypeId} (h : Obj1 w F (flC f).toArray t) (hf : okFl f) (k : Nat) (hk : k < 16) : w.cell? ⟨F, 2 + k, none⟩ = some (.int .u8 (nth f.src k)) := by
  rw [h.cell]
  refine fl_src hf 16 (Nat.le_refl _) k _ ?_
  rw [List.take_of_length_le (by rw [hf.2.1]; exact Nat.le_refl _)]
  exact bys_at (by rw [hf.2.1]; exact hk)
theorem fl_dst_at {w : World} {F : Nat} {f : Fl} {t : TypeId} (h : Obj1 w F (flC f).toArray t) (hf : okFl f) (k : Nat) (hk : k < 16) : w.cell? ⟨F, 18 + k, none⟩ = some (.int .u8 (nth f.dst k)) := by
  rw [h.cell]
  refine fl_dst hf 16 (Nat.le_refl _) k _ ?_
  rw [List.take_of_length_le (by rw [hf.2.2.2.1]; exact Nat.le_refl _)]
  exact bys_at (by rw [hf.2.2.2.1]; exact hk)
theorem take_step (l : List Int) (k : Nat) (h : k < l.length) : l.take (k + 1) = l.take k ++ [nth l k] := by
  rw [List.take_add_one, List.getElem?_eq_getElem h, nth_of h]
  rfl
theorem SlI.one1 (w : World) (x : Int) (t : TypeId) (h : 0 ≤ x ∧ x ≤ 255) : Rd (w.alloc (.cells #[.int .u8 x] t)) (some ⟨w.heap.size, 0, none⟩) (bys [x]) := (SlI.new w [x] t (by simp) (by simpa using h)).2.2.2.1

set_option maxRecDepth 100000 in
set_option maxHeartbeats 2000000 in
theorem rkey_w (f : Fl) (hf : okFl f) (L : Nat) (hL : (keyB f).length = L) (w : World) :
    Calls Try.prog 44 #[.agg (flC f).toArray] w fun e w' => ∃ v, e = .returned v ∧ w'.ownsRow w.heap.size 5 1 v L (bys (keyB f)) ∧ Below w.heap.size w w' := by
  have hF0 := Obj1.new w (flC f).toArray 34
  obtain ⟨q0, q1, q2, q3⟩ := fl_cell hF0 hf
  have HF0 := Lib.hid hF0
  have HB0 := Lib.hid (bl_alloc (Below.refl w.heap.size w) (.cells (flC f).toArray 34))
  have HL := Lib.hid hL
  have HKL := Lib.hid (keyB_length hf)
  obtain ⟨hp, hs1, hs2, hd1, hd2, hsp, hdp⟩ := id hf
  clear hF0 hL
  have hs2' := nth_byte (l := f.src) hs2
  have hd2' := nth_byte (l := f.dst) hd2
  have HSB := Lib.hid hs2'
  have HDB := Lib.hid hd2'
  have HS1 := Lib.hid hs1
  have HD1 := Lib.hid hd1
  have b1 : (f.sp).tdiv 256 = f.sp / 256 := Int.tdiv_eq_ediv_of_nonneg hsp.1
  have b2 : (f.sp).tmod 256 = f.sp % 256 := Int.tmod_eq_emod_of_nonneg hsp.1
  have b3 : (f.dp).tdiv 256 = f.dp / 256 := Int.tdiv_eq_ediv_of_nonneg hdp.1
  have b4 : (f.dp).tmod 256 = f.dp % 256 := Int.tmod_eq_emod_of_nonneg hdp.1
  have u0 : IntKind.u16.wrap (f.sp / 256) = f.sp / 256 := by simp [IntKind.wrap, IntKind.bits, IntKind.signed]; omega
  have u9 : IntKind.u16.wrap (f.dp / 256) = f.dp / 256 := by simp [IntKind.wrap, IntKind.bits, IntKind.signed]; omega
  have u1 : IntKind.u8.wrap (f.sp / 256) = f.sp / 256 := by simp [IntKind.wrap, IntKind.bits, IntKind.signed]; omega
  have u2 : IntKind.u8.wrap (f.sp % 256) = f.sp % 256 := by simp [IntKind.wrap, IntKind.bits, IntKind.signed]
  have u3 : IntKind.u8.wrap (f.dp / 256) = f.dp / 256 := by simp [IntKind.wrap, IntKind.bits, IntKind.signed]; omega
  have u4 : IntKind.u8.wrap (f.dp % 256) = f.dp % 256 := by simp [IntKind.wrap, IntKind.bits, IntKind.signed]
  have hkd := Lib.hid (show keyB f = [if f.v6 = true then 6 else 4] ++ [f.proto] ++ f.src.take (flN f) ++ f.dst.take (flN f) ++ [f.sp / 256, f.sp % 256] ++ [f.dp / 256, f.dp % 256] from rfl)
  have hn := Lib.hid (show flN f = if f.v6 = true then 16 else 4 from rfl)
  clear hs2' hd2'
  obtain ⟨v6, hv6⟩ : ∃ b, f.v6 = b := ⟨_, rfl⟩
  rw [hv6] at q0
  have HV := Lib.hid hv6
  clear hv6
  cases v6
  · have hN : flN f = 4 := by rw [hn.out, HV.out]; rfl
    have HN := Lib.hid hN
    have hkd2 := hkd.out
    rw [hN, HV.out] at hkd2
    have HKD := Lib.hid hkd2
    clear hN hkd2
    go_enter Try.func44, Try.ntmps44
    go_wp2_with fail
    obtain ⟨F, hF⟩ : ∃ F, F = w.heap.size := ⟨_, rfl⟩
    generalize hW1 : World.alloc (World.alloc w _) _ = W1
    have hown0 : W1.ownsRow w.heap.size 5 1 (.slice (some ⟨w.heap.size + 1, 0, none⟩) 2 2) 2 (bys ([4, f.proto] ++ f.src.take 0)) := by
      rw [← hW1]
      have h := World.ownsRow_lit (base := w.heap.size) (e := 5) (size := 1) (w.alloc (.cells (flC f).toArray 34)) #[.int .u8 4, .int .u8 f.proto] 2 (by simp) (by simp [maxLen]) rfl
      have e1 : (w.alloc (.cells (flC f).toArray 34)).heap.size = w.heap.size + 1 := by simp
      rw [e1] at h
      exact h
    have hB1 : Below w.heap.size w W1 := by rw [← hW1]; exact bl_alloc HB0.out _
    have hF1 : Obj1 W1 F (flC f).toArray 34 := by rw [← hW1, hF]; exact HF0.out.alloc _
    rw [← hF] at hown0 ⊢
    have hFF : w.heap.size ≤ F := by omega
    have hFF2 : F ≤ w.heap.size := by omega
    have HOW1 := Lib.hid hown0
    have HB1 := Lib.hid hB1
    have HF1 := Lib.hid hF1
    have HFE := Lib.hid hF
    clear hown0 hB1 hF1 hW1 q0 q1 q2 q3 hF
    go_loopw [5, 15] (fun v i wr => ∃ k : Nat, k ≤ 4 ∧ i = .int .i64 k ∧ wr.ownsRow F 5 1 v (2 + k) (bys ([4, f.proto] ++ f.src.take k)) ∧ Obj1 wr F (flC f).toArray 34 ∧ Below w.heap.size w wr) (fun _ i _ => 4 - (intOf i).toNat)
    case atStart => exact ⟨0, Nat.zero_le _, rfl, HOW1.out, HF1.out, HB1.out⟩
    case round =>
      obtain ⟨k, hk, rfl, hown, hobj, hbel⟩ := hrel
      obtain ⟨A1, c1, rfl, _⟩ := own_Rd hown
      have HOWN := Lib.hid hown
      have HOB := Lib.hid hobj
      have HBL := Lib.hid hbel
      have HNE := Lib.hid (own_ne hobj hown (by decide))
      clear hown hobj hbel
      by_cases hlt : k < 4
      · have hk0 : (0 : Int) ≤ (k : Int) := Int.natCast_nonneg k
        have hk1 : (k : Int) < 4 := by omega
        have d1 := fl_src_at HOB.out hf k (by omega)
        have hbx := HSB.out k
        have hmb : (2 + k + 1) * 1 ≤ 140737488355328 := by omega
        go_wp2_with (at_builtin; refine app_list F rfl (.tmp 18) (.tmp 23) 23 5 (.int .u8 0) 1 1 rfl Try.underlying23 (by kernel_rfl) rfl (by omega) (by omega) _ (2 + k) _ (some ⟨_, 0, none⟩) 1 1 (bys [nth f.src k]) rfl rfl (HOWN.out.alloc _) rfl (SlI.one1 _ _ _ hbx) (bys_one _) hmb (by have := HBL.out.size; simp; omega) ?_; intro v2 w7 hown7 hg7)
        go_roundw
        case rel => exact ⟨k + 1, by omega, by go_num, by rw [take_step f.src k (by rw [HS1.out]; omega), ← List.append_assoc, bys_append ([4, f.proto] ++ f.src.take k)]; exact hown7, (HOB.out.alloc _).of_grown hg7 HNE.out, bl_grown (bl_alloc HBL.out _) (HOWN.out.alloc _) hg7 hFF⟩
        case measure => simp [intOf]; omega
      · have e16 : k = 4 := by omega
        have hk1 : ¬ (k : Int) < 4 := by omega
        rw [e16] at HOWN
        have HE16 := Lib.hid e16
        have hA : (Value.slice A1 (2 + k) c1) = .slice A1 (2 + 4) c1 := by rw [e16]
        rw [hA]
        clear e16 hA
        go_wp2_with fail
        go_loopw [5, 27] (fun v i wr => ∃ k : Nat, k ≤ 4 ∧ i = .int .i64 k ∧ wr.ownsRow F 5 1 v (2 + 4 + k) (bys ([4, f.proto] ++ f.src.take 4 ++ f.dst.take k)) ∧ Obj1 wr F (flC f).toArray 34 ∧ Below w.heap.size w wr) (fun _ i _ => 4 - (intOf i).toNat)
        case atStart => exact ⟨0, Nat.zero_le _, rfl, by rw [List.take_zero, List.append_nil]; exact HOWN.out, HOB.out, HBL.out⟩
        case round =>
          obtain ⟨k, hk, rfl, hown, hobj, hbel⟩ := hrel
          obtain ⟨A1, c1, rfl, _⟩ := own_Rd hown
          have HOWN := Lib.hid hown
          have HOB := Lib.hid hobj
          have HBL := Lib.hid hbel
          have HNE := Lib.hid (own_ne hobj hown (by decide))
          clear hown hobj hbel
          by_cases hlt : k < 4
          · have hk0 : (0 : Int) ≤ (k : Int) := Int.natCast_nonneg k
            have hk1 : (k : Int) < 4 := by omega
            have d1 := fl_dst_at HOB.out hf k (by omega)
            have hbx := HDB.out k
            have hmb : (2 + 4 + k + 1) * 1 ≤ 140737488355328 := by omega
            go_wp2_with (at_builtin; refine app_list F rfl (.tmp 30) (.tmp 35) 23 5 (.int .u8 0) 1 1 rfl Try.underlying23 (by kernel_rfl) rfl (by omega) (by omega) _ (2 + 4 + k) _ (some ⟨_, 0, none⟩) 1 1 (bys [nth f.dst k]) rfl rfl (HOWN.out.alloc _) rfl (SlI.one1 _ _ _ hbx) (bys_one _) hmb (by have := HBL.out.size; simp; omega) ?_; intro v2 w7 hown7 hg7)
            go_roundw
            case rel => exact ⟨k + 1, by omega, by go_num, by rw [take_step f.dst k (by rw [HD1.out]; omega), ← List.append_assoc, bys_append ([4, f.proto] ++ f.src.take 4 ++ f.dst.take k)]; exact hown7, (HOB.out.alloc _).of_grown hg7 HNE.out, bl_grown (bl_alloc HBL.out _) (HOWN.out.alloc _) hg7 hFF⟩
            case measure => simp [intOf]; omega
          · obtain rfl : k = 4 := by omega
            obtain ⟨q0, q1, q2, q3⟩ := fl_cell HOB.out hf
            have hbs : ∀ x ∈ [f.sp / 256, f.sp % 256, f.dp / 256, f.dp % 256], 0 ≤ x ∧ x ≤ 255 := fun x hx => by
              simp only [List.mem_cons, List.not_mem_nil, or_false] at hx
              rcases hx with rfl | rfl | rfl | rfl <;> omega
            go_wp2_with (at_builtin; refine app_list F rfl (.tmp 38) (.tmp 55) 23 5 (.int .u8 0) 1 1 rfl Try.underlying23 (by kernel_rfl) rfl (by omega) (by omega) _ (2 + 4 + 4) _ (some ⟨_, 0, none⟩) 4 4 (bys [f.sp / 256, f.sp % 256, f.dp / 256, f.dp % 256]) rfl rfl (HOWN.out.alloc _) rfl (SlI.new _ [f.sp / 256, f.sp % 256, f.dp / 256, f.dp % 256] 5 (by simp) hbs).2.2.2.1 (bys_one _) (by omega) (by have := HBL.out.size; simp; omega) ?_; intro v2 w7 hown7 hg7; obtain ⟨A2, c2, rfl, _⟩ := own_Rd hown7; have HOW7 := Lib.hid hown7; have HB7 := Lib.hid (bl_grown (bl_alloc HBL.out _) (HOWN.out.alloc _) hg7 hFF); clear hown7 hg7)
            go_ret
            refine ⟨_, rfl, ?_, HB7.out⟩
            have hl : L = 2 + 4 + 4 + 4 := by rw [← HL.out, HKL.out, HN.out]
            have h := HOW7.out
            have e : bys ([4, f.proto] ++ f.src.take 4 ++ f.dst.take 4) ++ bys [f.sp / 256, f.sp % 256, f.dp / 256, f.dp % 256] = bys (keyB f) := by
              rw [HKD.out, ← bys_append]
              simp
            rw [e] at h
            rw [hl, ← HFE.out]
            exact h
  · have hN : flN f = 16 := by rw [hn.out, HV.out]; rfl
    have HN := Lib.hid hN
    have hkd2 := hkd.out
    rw [hN, HV.out] at hkd2
    have HKD := Lib.hid hkd2
    clear hN hkd2
    go_enter Try.func44, Try.ntmps44
    go_wp2_with fail
    obtain ⟨F, hF⟩ : ∃ F, F = w.heap.size := ⟨_, rfl⟩
    generalize hW1 : World.alloc (World.alloc w _) _ = W1
    have hown0 : W1.ownsRow w.heap.size 5 1 (.slice (some ⟨w.heap.size + 1, 0, none⟩) 2 2) 2 (bys ([6, f.proto] ++ f.src.take 0)) := by
      rw [← hW1]
      have h := World.ownsRow_lit (base := w.heap.size) (e := 5) (size := 1) (w.alloc (.cells (flC f).toArray 34)) #[.int .u8 6, .int .u8 f.proto] 2 (by simp) (by simp [maxLen]) rfl
      have e1 : (w.alloc (.cells (flC f).toArray 34)).heap.size = w.heap.size + 1 := by simp
      rw [e1] at h
      exact h
    have hB1 : Below w.heap.size w W1 := by rw [← hW1]; exact bl_alloc HB0.out _
    have hF1 : Obj1 W1 F (flC f).toArray 34 := by rw [← hW1, hF]; exact HF0.out.alloc _
    rw [← hF] at hown0 ⊢
    have hFF : w.heap.size ≤ F := by omega
    have hFF2 : F ≤ w.heap.size := by omega
    have HOW1 := Lib.hid hown0
    have HB1 := Lib.hid hB1
    have HF1 := Lib.hid hF1
    have HFE := Lib.hid hF
    clear hown0 hB1 hF1 hW1 q0 q1 q2 q3 hF
    go_loopw [5, 15] (fun v i wr => ∃ k : Nat, k ≤ 16 ∧ i = .int .i64 k ∧ wr.ownsRow F 5 1 v (2 + k) (bys ([6, f.proto] ++ f.src.take k)) ∧ Obj1 wr F (flC f).toArray 34 ∧ Below w.heap.size w wr) (fun _ i _ => 16 - (intOf i).toNat)
    case atStart => exact ⟨0, Nat.zero_le _, rfl, HOW1.out, HF1.out, HB1.out⟩
    case round =>
      obtain ⟨k, hk, rfl, hown, hobj, hbel⟩ := hrel
      obtain ⟨A1, c1, rfl, _⟩ := own_Rd hown
      have HOWN := Lib.hid hown
      have HOB := Lib.hid hobj
      have HBL := Lib.hid hbel
      have HNE := Lib.hid (own_ne hobj hown (by decide))
      clear hown hobj hbel
      by_cases hlt : k < 16
      · have hk0 : (0 : Int) ≤ (k : Int) := Int.natCast_nonneg k
        have hk1 : (k : Int) < 16 := by omega
        have d1 := fl_src_at HOB.out hf k (by omega)
        have hbx := HSB.out k
        have hmb : (2 + k + 1) * 1 ≤ 140737488355328 := by omega
        go_wp2_with (at_builtin; refine app_list F rfl (.tmp 18) (.tmp 23) 23 5 (.int .u8 0) 1 1 rfl Try.underlying23 (by kernel_rfl) rfl (by omega) (by omega) _ (2 + k) _ (some ⟨_, 0, none⟩) 1 1 (bys [nth f.src k]) rfl rfl (HOWN.out.alloc _) rfl (SlI.one1 _ _ _ hbx) (bys_one _) hmb (by have := HBL.out.size; simp; omega) ?_; intro v2 w7 hown7 hg7)
        go_roundw
        case rel => exact ⟨k + 1, by omega, by go_num, by rw [take_step f.src k (by rw [HS1.out]; omega), ← List.append_assoc, bys_append ([6, f.proto] ++ f.src.take k)]; exact hown7, (HOB.out.alloc _).of_grown hg7 HNE.out, bl_grown (bl_alloc HBL.out _) (HOWN.out.alloc _) hg7 hFF⟩
        case measure => simp [intOf]; omega
      · have e16 : k = 16 := by omega
        have hk1 : ¬ (k : Int) < 16 := by omega
        rw [e16] at HOWN
        have HE16 := Lib.hid e16
        have hA : (Value.slice A1 (2 + k) c1) = .slice A1 (2 + 16) c1 := by rw [e16]
        rw [hA]
        clear e16 hA
        go_wp2_with fail
        go_loopw [5, 27] (fun v i wr => ∃ k : Nat, k ≤ 16 ∧ i = .int .i64 k ∧ wr.ownsRow F 5 1 v (2 + 16 + k) (bys ([6, f.proto] ++ f.src.take 16 ++ f.dst.take k)) ∧ Obj1 wr F (flC f).toArray 34 ∧ Below w.heap.size w wr) (fun _ i _ => 16 - (intOf i).toNat)
        case atStart => exact ⟨0, Nat.zero_le _, rfl, by rw [List.take_zero, List.append_nil]; exact HOWN.out, HOB.out, HBL.out⟩
        case round =>
          obtain ⟨k, hk, rfl, hown, hobj, hbel⟩ := hrel
          obtain ⟨A1, c1, rfl, _⟩ := own_Rd hown
          have HOWN := Lib.hid hown
          have HOB := Lib.hid hobj
          have HBL := Lib.hid hbel
          have HNE := Lib.hid (own_ne hobj hown (by decide))
          clear hown hobj hbel
          by_cases hlt : k < 16
          · have hk0 : (0 : Int) ≤ (k : Int) := Int.natCast_nonneg k
            have hk1 : (k : Int) < 16 := by omega
            have d1 := fl_dst_at HOB.out hf k (by omega)
            have hbx := HDB.out k
            have hmb : (2 + 16 + k + 1) * 1 ≤ 140737488355328 := by omega
            go_wp2_with (at_builtin; refine app_list F rfl (.tmp 30) (.tmp 35) 23 5 (.int .u8 0) 1 1 rfl Try.underlying23 (by kernel_rfl) rfl (by omega) (by omega) _ (2 + 16 + k) _ (some ⟨_, 0, none⟩) 1 1 (bys [nth f.dst k]) rfl rfl (HOWN.out.alloc _) rfl (SlI.one1 _ _ _ hbx) (bys_one _) hmb (by have := HBL.out.size; simp; omega) ?_; intro v2 w7 hown7 hg7)
            go_roundw
            case rel => exact ⟨k + 1, by omega, by go_num, by rw [take_step f.dst k (by rw [HD1.out]; omega), ← List.append_assoc, bys_append ([6, f.proto] ++ f.src.take 16 ++ f.dst.take k)]; exact hown7, (HOB.out.alloc _).of_grown hg7 HNE.out, bl_grown (bl_alloc HBL.out _) (HOWN.out.alloc _) hg7 hFF⟩
            case measure => simp [intOf]; omega
          · obtain rfl : k = 16 := by omega
            obtain ⟨q0, q1, q2, q3⟩ := fl_cell HOB.out hf
            have hbs : ∀ x ∈ [f.sp / 256, f.sp % 256, f.dp / 256, f.dp % 256], 0 ≤ x ∧ x ≤ 255 := fun x hx => by
              simp only [List.mem_cons, List.not_mem_nil, or_false] at hx
              rcases hx with rfl | rfl | rfl | rfl <;> omega
            go_wp2_with (at_builtin; refine app_list F rfl (.tmp 38) (.tmp 55) 23 5 (.int .u8 0) 1 1 rfl Try.underlying23 (by kernel_rfl) rfl (by omega) (by omega) _ (2 + 16 + 16) _ (some ⟨_, 0, none⟩) 4 4 (bys [f.sp / 256, f.sp % 256, f.dp / 256, f.dp % 256]) rfl rfl (HOWN.out.alloc _) rfl (SlI.new _ [f.sp / 256, f.sp % 256, f.dp / 256, f.dp % 256] 5 (by simp) hbs).2.2.2.1 (bys_one _) (by omega) (by have := HBL.out.size; simp; omega) ?_; intro v2 w7 hown7 hg7; obtain ⟨A2, c2, rfl, _⟩ := own_Rd hown7; have HOW7 := Lib.hid hown7; have HB7 := Lib.hid (bl_grown (bl_alloc HBL.out _) (HOWN.out.alloc _) hg7 hFF); clear hown7 hg7)
            go_ret
            refine ⟨_, rfl, ?_, HB7.out⟩
            have hl : L = 2 + 16 + 16 + 4 := by rw [← HL.out, HKL.out, HN.out]
            have h := HOW7.out
            have e : bys ([6, f.proto] ++ f.src.take 16 ++ f.dst.take 16) ++ bys [f.sp / 256, f.sp % 256, f.dp / 256, f.dp % 256] = bys (keyB f) := by
              rw [HKD.out, ← bys_append]
              simp
            rw [e] at h
            rw [hl, ← HFE.out]
            exact h
end Go.Proofs.Ytgbdkleckmilkaa
