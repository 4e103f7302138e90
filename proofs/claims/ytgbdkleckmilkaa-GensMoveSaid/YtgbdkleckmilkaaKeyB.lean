/- frame.Key. -/
import Derived.Test.YtgbdkleckmilkaaKeyA
namespace Go.Proofs.Ytgbdkleckmilkaa
open Go.RowKit
set_option linter.unusedVariables false
set_option linter.unusedSimpArgs false

theorem Obj1.belowB {w w' : World} {B F : Nat} {cs : Array Value} {t : TypeId} (h : Obj1 w F cs t) (hb : Below B w w') (hF : F < B) : Obj1 w' F cs t := (hb.block F hF).trans h
theorem fl_cell {w : World} {F : Nat} {f : Fl} {t : TypeId} (h : Obj1 w F (flC f).toArray t) (hf : okFl f) : w.cell? ⟨F, 0, none⟩ = some (.bool f.v6) ∧ w.cell? ⟨F, 1, none⟩ = some (.int .u8 f.proto) ∧ w.cell? ⟨F, 34, none⟩ = some (.int .u16 f.sp) ∧ w.cell? ⟨F, 35, none⟩ = some (.int .u16 f.dp) := by
  obtain ⟨h0, h1, h2, h3⟩ := flC_at hf
  refine ⟨(h.cell 0).trans ?_, (h.cell 1).trans ?_, (h.cell 34).trans ?_, (h.cell 35).trans ?_⟩ <;> rw [List.getElem?_toArray] <;> assumption
theorem fl_srcS {w : World} {F : Nat} {f : Fl} {t : TypeId} (h : Obj1 w F (flC f).toArray t) (hf : okFl f) (n : Nat) (hn : n ≤ 16) : SlI .u8 w (some ⟨F, 2, none⟩) n 16 (f.src.take n) := by
  have hl : (f.src.take n).length = n := by rw [List.length_take, hf.2.1]; omega
  have := SlI.part h 2 (fl_src hf n hn) (fun x hx => hf.2.2.1 x (List.mem_of_mem_take hx)) 16 (by rw [hl]; exact hn) (by omega)
  rw [hl] at this
  exact this
theorem fl_dstS {w : World} {F : Nat} {f : Fl} {t : TypeId} (h : Obj1 w F (flC f).toArray t) (hf : okFl f) (n : Nat) (hn : n ≤ 16) : SlI .u8 w (some ⟨F, 18, none⟩) n 16 (f.dst.take n) := by
  have hl : (f.dst.take n).length = n := by rw [List.length_take, hf.2.2.2.1]; omega
  have := SlI.part h 18 (fl_dst hf n hn) (fun x hx => hf.2.2.2.2.1 x (List.mem_of_mem_take hx)) 16 (by rw [hl]; exact hn) (by omega)
  rw [hl] at this
  exact this

set_option maxRecDepth 100000 in
set_option maxHeartbeats 2000000 in
theorem fkey_w (f : Fl) (hf : okFl f) (L : Nat) (hL : (keyB f).length = L) (w : World) :
    Calls Try.prog 43 #[.agg (flC f).toArray] w fun e w' => ∃ A' c', e = .returned (.slice A' L c') ∧ SlI .u8 w' A' L c' (keyB f) ∧ Below w.heap.size w w' := by
  have hF0 := Obj1.new w (flC f).toArray 34
  obtain ⟨q0, q1, q2, q3⟩ := fl_cell hF0 hf
  have hkl := keyB_length hf
  have hkb := keyB_byte hf
  have HF0 := Lib.hid hF0
  have HB0 := Lib.hid (bl_alloc (Below.refl w.heap.size w) (.cells (flC f).toArray 34))
  have HL := Lib.hid hL
  have HKL := Lib.hid hkl
  have HKB := Lib.hid hkb
  have h4 : flN f = 16 ∨ flN f = 4 := by unfold flN; split <;> simp
  have hlt := Lib.hid (show (if f.v6 = true then (6 : Int) else 4) = (if f.v6 = true then 6 else 4) from rfl)
  have hn := Lib.hid (show flN f = if f.v6 = true then 16 else 4 from rfl)
  have hkd := Lib.hid (show keyB f = [if f.v6 = true then 6 else 4] ++ [f.proto] ++ f.src.take (flN f) ++ f.dst.take (flN f) ++ [f.sp / 256, f.sp % 256] ++ [f.dp / 256, f.dp % 256] from rfl)
  obtain ⟨hp, hs1, hs2, hd1, hd2, hsp, hdp⟩ := id hf
  clear hF0 hL hkl hkb hlt
  obtain ⟨v6, hv6⟩ : ∃ b, f.v6 = b := ⟨_, rfl⟩
  rw [hv6] at q0
  have HV := Lib.hid hv6
  clear hv6
  cases v6
  · have hN : flN f = 4 := by rw [hn.out, HV.out]; rfl
    have HN := Lib.hid hN
    have hkd2 := hkd.out
    rw [hN, HV.out] at hkd2
    have HKD := Lib.hid hkd2
    clear hN hkd2
    go_enter Try.func43, Try.ntmps43
    go_wp2_with fail
    obtain ⟨F, hF⟩ : ∃ F, F = w.heap.size := ⟨_, rfl⟩
    generalize hW1 : World.alloc (World.alloc w _) _ = W1
    have ho : OutB (F + 1) W1 (F + 1) [] := by
      rw [← hW1]
      have h := Obj1.new (w.alloc (.cells (flC f).toArray 34)) #[.slice none 0 0] 82
      have e1 : (w.alloc (.cells (flC f).toArray 34)).heap.size = F + 1 := by rw [hF]; simp
      rw [e1] at h
      exact ⟨.slice none 0 0, h, World.ownsRow_nil _ _ _ _⟩
    have hB1 : Below w.heap.size w W1 := by rw [← hW1]; exact bl_alloc HB0.out _
    have hF1 : Obj1 W1 F (flC f).toArray 34 := by rw [← hW1, hF]; exact HF0.out.alloc _
    have hsz : F + 1 ≤ W1.heap.size := by rw [← hW1, hF]; simp
    rw [← hF]
    have hFF : w.heap.size ≤ F := by omega
    have HO0 := Lib.hid ho
    have HB1 := Lib.hid hB1
    have HF1 := Lib.hid hF1
    clear ho hB1 hF1 hW1 q0 q1 q2 q3 hF
    refine (u8_w (F + 1) (F + 1) 4 (by omega) ([]) _ (Nat.le_refl _) hsz HO0.out (by simp)).mono ?_
    rintro e W2 ⟨rfl, ho, hb⟩
    have hF2 := HF1.out.belowB hb (Nat.lt_succ_self F)
    have hsz2 : F + 1 ≤ W2.heap.size := Nat.le_trans hsz hb.size
    have hB2 : Below w.heap.size w W2 := HB1.out.trans (hb.mono (by omega))
    have HO1 : _ := Lib.hid (show OutB (F + 1) W2 (F + 1) ([4]) from ho)
    have HF2 := Lib.hid hF2
    have HB2 := Lib.hid hB2
    clear ho hb hF2 hB2
    obtain ⟨q0, q1, q2, q3⟩ := fl_cell HF2.out hf
    go_wp2_with fail
    refine (u8_w (F + 1) (F + 1) f.proto hp ([4]) _ (Nat.le_refl _) hsz2 HO1.out (by simp)).mono ?_
    rintro e W3 ⟨rfl, ho, hb⟩
    have hF3 := HF2.out.belowB hb (Nat.lt_succ_self F)
    have hsz3 : F + 1 ≤ W3.heap.size := Nat.le_trans hsz2 hb.size
    have hB3 : Below w.heap.size w W3 := HB2.out.trans (hb.mono (by omega))
    have HO2 : _ := Lib.hid (show OutB (F + 1) W3 (F + 1) ([4, f.proto]) from ho)
    have HF3 := Lib.hid hF3
    have HB3 := Lib.hid hB3
    clear ho hb hF3 hB3 q0 q1 q2 q3
    obtain ⟨q0, q1, q2, q3⟩ := fl_cell HF3.out hf
    go_wp2_with fail
    refine (raw_w (F + 1) (F + 1) (some ⟨F, 2, none⟩) 4 16 ([4, f.proto]) (f.src.take 4) _ (Nat.le_refl _) hsz3 HO2.out (fl_srcS HF3.out hf 4 (by omega)) (by simp)).mono ?_
    rintro e W4 ⟨rfl, ho, hb⟩
    have hF4 := HF3.out.belowB hb (Nat.lt_succ_self F)
    have hsz4 : F + 1 ≤ W4.heap.size := Nat.le_trans hsz3 hb.size
    have hB4 : Below w.heap.size w W4 := HB3.out.trans (hb.mono (by omega))
    have HO3 : _ := Lib.hid (show OutB (F + 1) W4 (F + 1) ([4, f.proto] ++ f.src.take 4) from ho)
    have HF4 := Lib.hid hF4
    have HB4 := Lib.hid hB4
    clear ho hb hF4 hB4 q0 q1 q2 q3
    obtain ⟨q0, q1, q2, q3⟩ := fl_cell HF4.out hf
    go_wp2_with fail
    refine (raw_w (F + 1) (F + 1) (some ⟨F, 18, none⟩) 4 16 ([4, f.proto] ++ f.src.take 4) (f.dst.take 4) _ (Nat.le_refl _) hsz4 HO3.out (fl_dstS HF4.out hf 4 (by omega)) (by simp [hs1])).mono ?_
    rintro e W5 ⟨rfl, ho, hb⟩
    have hF5 := HF4.out.belowB hb (Nat.lt_succ_self F)
    have hsz5 : F + 1 ≤ W5.heap.size := Nat.le_trans hsz4 hb.size
    have hB5 : Below w.heap.size w W5 := HB4.out.trans (hb.mono (by omega))
    have HO4 : _ := Lib.hid (show OutB (F + 1) W5 (F + 1) ([4, f.proto] ++ f.src.take 4 ++ f.dst.take 4) from ho)
    have HF5 := Lib.hid hF5
    have HB5 := Lib.hid hB5
    clear ho hb hF5 hB5 q0 q1 q2 q3
    obtain ⟨q0, q1, q2, q3⟩ := fl_cell HF5.out hf
    go_wp2_with fail
    refine (u16_w (F + 1) (F + 1) f.sp hsp ([4, f.proto] ++ f.src.take 4 ++ f.dst.take 4) _ (Nat.le_refl _) hsz5 HO4.out (by simp [hs1, hd1])).mono ?_
    rintro e W6 ⟨rfl, ho, hb⟩
    have hF6 := HF5.out.belowB hb (Nat.lt_succ_self F)
    have hsz6 : F + 1 ≤ W6.heap.size := Nat.le_trans hsz5 hb.size
    have hB6 : Below w.heap.size w W6 := HB5.out.trans (hb.mono (by omega))
    have HO5 : _ := Lib.hid (show OutB (F + 1) W6 (F + 1) ([4, f.proto] ++ f.src.take 4 ++ f.dst.take 4 ++ [f.sp / 256, f.sp % 256]) from ho)
    have HF6 := Lib.hid hF6
    have HB6 := Lib.hid hB6
    clear ho hb hF6 hB6 q0 q1 q2 q3
    obtain ⟨q0, q1, q2, q3⟩ := fl_cell HF6.out hf
    go_wp2_with fail
    refine (u16_w (F + 1) (F + 1) f.dp hdp ([4, f.proto] ++ f.src.take 4 ++ f.dst.take 4 ++ [f.sp / 256, f.sp % 256]) _ (Nat.le_refl _) hsz6 HO5.out (by simp [hs1, hd1])).mono ?_
    rintro e W7 ⟨rfl, ho, hb⟩
    have hF7 := HF6.out.belowB hb (Nat.lt_succ_self F)
    have hsz7 : F + 1 ≤ W7.heap.size := Nat.le_trans hsz6 hb.size
    have hB7 : Below w.heap.size w W7 := HB6.out.trans (hb.mono (by omega))
    have HO6 : _ := Lib.hid (show OutB (F + 1) W7 (F + 1) ([4, f.proto] ++ f.src.take 4 ++ f.dst.take 4 ++ [f.sp / 256, f.sp % 256] ++ [f.dp / 256, f.dp % 256]) from ho)
    have HF7 := Lib.hid hF7
    have HB7 := Lib.hid hB7
    clear ho hb hF7 hB7 q0 q1 q2 q3
    go_wp2_with fail
    have HO7 := HO6.out
    rw [show [4, f.proto] ++ f.src.take 4 ++ f.dst.take 4 ++ [f.sp / 256, f.sp % 256] ++ [f.dp / 256, f.dp % 256] = keyB f from HKD.out.symm] at HO7
    have HO8 := Lib.hid HO7
    clear HO7
    refine (bytes_w (F + 1) (F + 1) (keyB f) (by rw [HKL.out]; omega) (by rw [HKL.out]; omega) HKB.out _ HO8.out).mono ?_
    rintro e W9 ⟨A', c', rfl, hsl, hb9⟩
    rw [HL.out] at hsl
    have HSL := Lib.hid hsl
    have HB9 := Lib.hid (bl_next HB7.out hb9)
    clear hsl hb9
    go_wp2
    go_ret
    exact ⟨A', c', by rw [HL.out]; rfl, HSL.out, HB9.out⟩
  · have hN : flN f = 16 := by rw [hn.out, HV.out]; rfl
    have HN := Lib.hid hN
    have hkd2 := hkd.out
    rw [hN, HV.out] at hkd2
    have HKD := Lib.hid hkd2
    clear hN hkd2
    go_enter Try.func43, Try.ntmps43
    go_wp2_with fail
    obtain ⟨F, hF⟩ : ∃ F, F = w.heap.size := ⟨_, rfl⟩
    generalize hW1 : World.alloc (World.alloc w _) _ = W1
    have ho : OutB (F + 1) W1 (F + 1) [] := by
      rw [← hW1]
      have h := Obj1.new (w.alloc (.cells (flC f).toArray 34)) #[.slice none 0 0] 82
      have e1 : (w.alloc (.cells (flC f).toArray 34)).heap.size = F + 1 := by rw [hF]; simp
      rw [e1] at h
      exact ⟨.slice none 0 0, h, World.ownsRow_nil _ _ _ _⟩
    have hB1 : Below w.heap.size w W1 := by rw [← hW1]; exact bl_alloc HB0.out _
    have hF1 : Obj1 W1 F (flC f).toArray 34 := by rw [← hW1, hF]; exact HF0.out.alloc _
    have hsz : F + 1 ≤ W1.heap.size := by rw [← hW1, hF]; simp
    rw [← hF]
    have hFF : w.heap.size ≤ F := by omega
    have HO0 := Lib.hid ho
    have HB1 := Lib.hid hB1
    have HF1 := Lib.hid hF1
    clear ho hB1 hF1 hW1 q0 q1 q2 q3 hF
    refine (u8_w (F + 1) (F + 1) 6 (by omega) ([]) _ (Nat.le_refl _) hsz HO0.out (by simp)).mono ?_
    rintro e W2 ⟨rfl, ho, hb⟩
    have hF2 := HF1.out.belowB hb (Nat.lt_succ_self F)
    have hsz2 : F + 1 ≤ W2.heap.size := Nat.le_trans hsz hb.size
    have hB2 : Below w.heap.size w W2 := HB1.out.trans (hb.mono (by omega))
    have HO1 : _ := Lib.hid (show OutB (F + 1) W2 (F + 1) ([6]) from ho)
    have HF2 := Lib.hid hF2
    have HB2 := Lib.hid hB2
    clear ho hb hF2 hB2
    obtain ⟨q0, q1, q2, q3⟩ := fl_cell HF2.out hf
    go_wp2_with fail
    refine (u8_w (F + 1) (F + 1) f.proto hp ([6]) _ (Nat.le_refl _) hsz2 HO1.out (by simp)).mono ?_
    rintro e W3 ⟨rfl, ho, hb⟩
    have hF3 := HF2.out.belowB hb (Nat.lt_succ_self F)
    have hsz3 : F + 1 ≤ W3.heap.size := Nat.le_trans hsz2 hb.size
    have hB3 : Below w.heap.size w W3 := HB2.out.trans (hb.mono (by omega))
    have HO2 : _ := Lib.hid (show OutB (F + 1) W3 (F + 1) ([6, f.proto]) from ho)
    have HF3 := Lib.hid hF3
    have HB3 := Lib.hid hB3
    clear ho hb hF3 hB3 q0 q1 q2 q3
    obtain ⟨q0, q1, q2, q3⟩ := fl_cell HF3.out hf
    go_wp2_with fail
    refine (raw_w (F + 1) (F + 1) (some ⟨F, 2, none⟩) 16 16 ([6, f.proto]) (f.src.take 16) _ (Nat.le_refl _) hsz3 HO2.out (fl_srcS HF3.out hf 16 (by omega)) (by simp)).mono ?_
    rintro e W4 ⟨rfl, ho, hb⟩
    have hF4 := HF3.out.belowB hb (Nat.lt_succ_self F)
    have hsz4 : F + 1 ≤ W4.heap.size := Nat.le_trans hsz3 hb.size
    have hB4 : Below w.heap.size w W4 := HB3.out.trans (hb.mono (by omega))
    have HO3 : _ := Lib.hid (show OutB (F + 1) W4 (F + 1) ([6, f.proto] ++ f.src.take 16) from ho)
    have HF4 := Lib.hid hF4
    have HB4 := Lib.hid hB4
    clear ho hb hF4 hB4 q0 q1 q2 q3
    obtain ⟨q0, q1, q2, q3⟩ := fl_cell HF4.out hf
    go_wp2_with fail
    refine (raw_w (F + 1) (F + 1) (some ⟨F, 18, none⟩) 16 16 ([6, f.proto] ++ f.src.take 16) (f.dst.take 16) _ (Nat.le_refl _) hsz4 HO3.out (fl_dstS HF4.out hf 16 (by omega)) (by simp [hs1])).mono ?_
    rintro e W5 ⟨rfl, ho, hb⟩
    have hF5 := HF4.out.belowB hb (Nat.lt_succ_self F)
    have hsz5 : F + 1 ≤ W5.heap.size := Nat.le_trans hsz4 hb.size
    have hB5 : Below w.heap.size w W5 := HB4.out.trans (hb.mono (by omega))
    have HO4 : _ := Lib.hid (show OutB (F + 1) W5 (F + 1) ([6, f.proto] ++ f.src.take 16 ++ f.dst.take 16) from ho)
    have HF5 := Lib.hid hF5
    have HB5 := Lib.hid hB5
    clear ho hb hF5 hB5 q0 q1 q2 q3
    obtain ⟨q0, q1, q2, q3⟩ := fl_cell HF5.out hf
    go_wp2_with fail
    refine (u16_w (F + 1) (F + 1) f.sp hsp ([6, f.proto] ++ f.src.take 16 ++ f.dst.take 16) _ (Nat.le_refl _) hsz5 HO4.out (by simp [hs1, hd1])).mono ?_
    rintro e W6 ⟨rfl, ho, hb⟩
    have hF6 := HF5.out.belowB hb (Nat.lt_succ_self F)
    have hsz6 : F + 1 ≤ W6.heap.size := Nat.le_trans hsz5 hb.size
    have hB6 : Below w.heap.size w W6 := HB5.out.trans (hb.mono (by omega))
    have HO5 : _ := Lib.hid (show OutB (F + 1) W6 (F + 1) ([6, f.proto] ++ f.src.take 16 ++ f.dst.take 16 ++ [f.sp / 256, f.sp % 256]) from ho)
    have HF6 := Lib.hid hF6
    have HB6 := Lib.hid hB6
    clear ho hb hF6 hB6 q0 q1 q2 q3
    obtain ⟨q0, q1, q2, q3⟩ := fl_cell HF6.out hf
    go_wp2_with fail
    refine (u16_w (F + 1) (F + 1) f.dp hdp ([6, f.proto] ++ f.src.take 16 ++ f.dst.take 16 ++ [f.sp / 256, f.sp % 256]) _ (Nat.le_refl _) hsz6 HO5.out (by simp [hs1, hd1])).mono ?_
    rintro e W7 ⟨rfl, ho, hb⟩
    have hF7 := HF6.out.belowB hb (Nat.lt_succ_self F)
    have hsz7 : F + 1 ≤ W7.heap.size := Nat.le_trans hsz6 hb.size
    have hB7 : Below w.heap.size w W7 := HB6.out.trans (hb.mono (by omega))
    have HO6 : _ := Lib.hid (show OutB (F + 1) W7 (F + 1) ([6, f.proto] ++ f.src.take 16 ++ f.dst.take 16 ++ [f.sp / 256, f.sp % 256] ++ [f.dp / 256, f.dp % 256]) from ho)
    have HF7 := Lib.hid hF7
    have HB7 := Lib.hid hB7
    clear ho hb hF7 hB7 q0 q1 q2 q3
    go_wp2_with fail
    have HO7 := HO6.out
    rw [show [6, f.proto] ++ f.src.take 16 ++ f.dst.take 16 ++ [f.sp / 256, f.sp % 256] ++ [f.dp / 256, f.dp % 256] = keyB f from HKD.out.symm] at HO7
    have HO8 := Lib.hid HO7
    clear HO7
    refine (bytes_w (F + 1) (F + 1) (keyB f) (by rw [HKL.out]; omega) (by rw [HKL.out]; omega) HKB.out _ HO8.out).mono ?_
    rintro e W9 ⟨A', c', rfl, hsl, hb9⟩
    rw [HL.out] at hsl
    have HSL := Lib.hid hsl
    have HB9 := Lib.hid (bl_next HB7.out hb9)
    clear hsl hb9
    go_wp2
    go_ret
    exact ⟨A', c', by rw [HL.out]; rfl, HSL.out, HB9.out⟩
end Go.Proofs.Ytgbdkleckmilkaa
