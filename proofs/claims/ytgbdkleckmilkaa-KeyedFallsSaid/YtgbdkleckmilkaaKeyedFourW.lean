/- The walk of KeyedFour: it answers true. -/
import Derived.Test.YtgbdkleckmilkaaFlOf
import Derived.Test.YtgbdkleckmilkaaKeyedAloneW
import Derived.Laws.CopyOwn
import Derived.StillTailTactics
namespace Go.Proofs.Ytgbdkleckmilkaa
open Go.RowKit
set_option linter.unusedVariables false
set_option linter.unusedSimpArgs false

/-- A flow, not of IPv6. -/
def fl4 (f : Fl) : Fl := { f with v6 := false }
/-- The same, with other bytes behind the fourth of each address. -/
def flMore (f : Fl) (more : List Int) : Fl := { f with v6 := false, src := f.src.take 4 ++ more, dst := f.dst.take 4 ++ more }
theorem flC_v4 (f : Fl) : (flC f).toArray.setIfInBounds 0 (.bool false) = (flC (fl4 f)).toArray := by
  simp [flC, fl4]
theorem ok_fl4 {f : Fl} (h : okFl f) : okFl (fl4 f) := h
theorem ok_flMore {f : Fl} (h : okFl f) {more : List Int} (hm : more.length = 12) (hb : ∀ x ∈ more, 0 ≤ x ∧ x ≤ 255) : okFl (flMore f more) := by
  obtain ⟨h0, h1, h2, h3, h4, h5, h6⟩ := h
  refine ⟨h0, by simp [flMore, h1, hm], fun x hx => ?_, by simp [flMore, h3, hm], fun x hx => ?_, h5, h6⟩
  · rcases List.mem_append.1 hx with h | h
    · exact h2 x (List.mem_of_mem_take h)
    · exact hb x h
  · rcases List.mem_append.1 hx with h | h
    · exact h4 x (List.mem_of_mem_take h)
    · exact hb x h
theorem keyB_four {f : Fl} (h : okFl f) {more : List Int} : keyB (flMore f more) = keyB (fl4 f) := by
  obtain ⟨h0, h1, h2, h3, h4, h5, h6⟩ := h
  have e1 : (f.src.take 4 ++ more).take 4 = f.src.take 4 := List.take_left' (by simp [h1])
  have e2 : (f.dst.take 4 ++ more).take 4 = f.dst.take 4 := List.take_left' (by simp [h3])
  unfold keyB flMore fl4 flN
  simp only [Bool.false_eq_true, if_false, e1, e2]
theorem fallV_four {key : List Int} {f : Fl} (h : okFl f) {more : List Int} (level n : Int) : fallV key (flMore f more) level n = fallV key (fl4 f) level n := by
  unfold fallV
  rw [keyB_four h]
theorem binsV_four {key : List Int} {f : Fl} (h : okFl f) {more : List Int} (n : Int) (m : Nat) : binsV key (flMore f more) n m = binsV key (fl4 f) n m := by
  unfold binsV
  simp only [fallV_four h]
theorem splice_four {f : Fl} (h : okFl f) {more : List Int} (hm : more.length = 12) :
    splice (splice (flC (fl4 f)) 6 (bys more)) 22 (bys more) = flC (flMore f more) := by
  obtain ⟨h0, h1, h2, h3, h4, h5, h6⟩ := h
  have b1 := bys_length f.src
  have b2 := bys_length f.dst
  have b3 := bys_length more
  rw [h1] at b1
  rw [h3] at b2
  rw [hm] at b3
  have t1 : bys (f.src.take 4) = (bys f.src).take 4 := by simp [bys, List.map_take]
  have t2 : bys (f.dst.take 4) = (bys f.dst).take 4 := by simp [bys, List.map_take]
  unfold splice flC fl4 flMore
  simp only [bys_append, t1, t2]
  generalize bys f.src = s at *
  generalize bys f.dst = d at *
  generalize bys more = m at *
  have d1 : d.drop 16 = [] := List.drop_of_length_le (by omega)
  have d2 : s.drop 16 = [] := List.drop_of_length_le (by omega)
  have d3 : m.drop 12 = [] := List.drop_of_length_le (by omega)
  have d4 : m.take 16 = m := List.take_of_length_le (by omega)
  have d5 : List.take 20 (List.take 4 s) = List.take 4 s := by simp [List.take_take]
  have d6 : List.drop 32 (List.take 4 s) = [] := List.drop_of_length_le (by simp; omega)
  have d7 : List.drop 28 m = [] := List.drop_of_length_le (by omega)
  simp [List.take_append, List.drop_append, b1, b2, b3, d1, d2, d3, d4]
  rw [d5, d6, d7]
  simp
-- THE WALK
set_option maxHeartbeats 1000000 in
theorem intsE_w (A1 A2 : Option Addr) (n c1 c2 : Nat) (l : List Int) (hn : n ≤ 1000000000) (w : World) (h1 : SlI .i64 w A1 n c1 l) (h2 : SlI .i64 w A2 n c2 l) :
    Calls Try.prog 19 #[.slice A1 n c1, .slice A2 n c2] w fun e w' => e = .returned (.bool true) ∧ ∃ q, w' = w.drewN q := by
  have H1 := Lib.hid h1
  have H2 := Lib.hid h2
  clear h1 h2
  go_enter Try.func19, Try.ntmps19
  go_wp2_with fail
  go_loopw [13] (fun i wr => ∃ k : Nat, k ≤ n ∧ i = .int .i64 k ∧ ∃ q, wr = w.drewN q) (fun i _ => n - (intOf i).toNat)
  case atStart => exact ⟨0, by omega, rfl, 0, rfl⟩
  case round =>
    obtain ⟨k, hk, rfl, q, rfl⟩ := hrel
    by_cases hlt : k < n
    · have hk0 : (0 : Int) ≤ (k : Int) := Int.natCast_nonneg k
      have hk1 : (k : Int) < (n : Int) := by omega
      obtain ⟨ad1, rfl, d1, _⟩ := H1.out.at k hlt
      obtain ⟨ad2, rfl, d2, _⟩ := H2.out.at k hlt
      go_wp2_with fail
      go_quiet (fail)
      go_wp2_with fail
      go_roundw
      case rel => exact ⟨k + 1, by omega, by go_num, _, rfl⟩
      case measure => simp [intOf]; omega
    · obtain rfl : k = n := by omega
      go_wp2
      go_ret
      exact ⟨rfl, q, rfl⟩
theorem flC_one (f : Fl) : (flC f).toArray.all (·.oneCell') = true := by
  rw [List.all_toArray, List.all_eq_true]
  intro u hu
  simp only [flC, List.mem_append, List.mem_cons, List.not_mem_nil, or_false] at hu
  rcases hu with (((rfl | rfl) | h) | h) | (rfl | rfl)
  · rfl
  · rfl
  · exact bys_one _ u h
  · exact bys_one _ u h
  · rfl
  · rfl
theorem Obj1.newS (w : World) (a : Addr) (v : Value) (cs : Array Value) (t : TypeId) : Obj1 ((w.setCell a v).alloc (.cells cs t)) w.heap.size cs t := by
  have h := Obj1.new (w.setCell a v) cs t
  have e : (w.setCell a v).heap.size = w.heap.size := by simp [World.setCell]
  rw [e] at h
  exact h
theorem bucketM_w (key : List Int) (hk : key.length = 16) (hkb : ∀ x ∈ key, 0 ≤ x ∧ x ≤ 255) (f : Fl) (hf : okFl f) (more : List Int) (hm : more.length = 12) (hmb : ∀ x ∈ more, 0 ≤ x ∧ x ≤ 255) (n : Int) (hn : n ≤ 9223372036854775807) (hn0 : -9223372036854775808 ≤ n) (w : World) :
    Calls Try.prog 17 #[.agg (bys key).toArray, .agg (flC (flMore f more)).toArray, .int .i64 n] w fun e w' => e = .returned (.int .i64 (fallV key (fl4 f) 0 n)) ∧ Below w.heap.size w w' := by
  have h := bucket_w key hk hkb (flMore f more) (ok_flMore hf hm hmb) n hn hn0 w
  rw [fallV_four hf] at h
  exact h
theorem binsM_w (key : List Int) (hk : key.length = 16) (hkb : ∀ x ∈ key, 0 ≤ x ∧ x ≤ 255) (f : Fl) (hf : okFl f) (more : List Int) (hmo : more.length = 12) (hmb : ∀ x ∈ more, 0 ≤ x ∧ x ≤ 255) (levels n : Int) (hl0 : -9223372036854775808 ≤ levels ∧ levels ≤ 9223372036854775807) (hn : n ≤ 9223372036854775807) (hn0 : -9223372036854775808 ≤ n) (m : Nat) (hm : (m : Int) = if levels ≤ 0 then 0 else if levels ≤ 4 then levels else 4) (w : World) :
    Calls Try.prog 20 #[.agg (bys key).toArray, .agg (flC (flMore f more)).toArray, .int .i64 levels, .int .i64 n] w fun e w' => ∃ A' c', e = .returned (.slice A' m c') ∧ SlI .i64 w' A' m c' (binsV key (fl4 f) n m) ∧ Below w.heap.size w w' := by
  have h := bins_w key hk hkb (flMore f more) (ok_flMore hf hmo hmb) levels n hl0 hn hn0 m hm w
  rw [binsV_four hf] at h
  exact h

set_option maxRecDepth 100000 in
set_option maxHeartbeats 2000000 in
theorem KeyedFour_x (key : List Int) (hk16 : key.length = 16) (hkb : ∀ x ∈ key, 0 ≤ x ∧ x ≤ 255) (f : Fl) (hf : okFl f) (levels n : Int) (hlv : -9223372036854775808 ≤ levels ∧ levels ≤ 9223372036854775807) (hn : -9223372036854775808 ≤ n ∧ n ≤ 9223372036854775807) (more : List Int) (hm : more.length = 12) (hmb : ∀ x ∈ more, 0 ≤ x ∧ x ≤ 255) (w : World) :
    Calls Try.prog 9 #[.agg (bys key).toArray, .agg (flC f).toArray, .int .i64 levels, .int .i64 n, .agg (bys more).toArray] w fun e w' => e = .returned (.bool true) ∧ Below w.heap.size w w' := by
  obtain ⟨m, hmm⟩ : ∃ m : Nat, (m : Int) = if levels ≤ 0 then 0 else if levels ≤ 4 then levels else 4 := by
    refine ⟨(if levels ≤ 0 then 0 else if levels ≤ 4 then levels else 4).toNat, Int.toNat_of_nonneg ?_⟩
    split
    · omega
    · split <;> omega
  have hm4 : m ≤ 4 := by
    by_cases h1 : levels ≤ 0
    · rw [if_pos h1] at hmm; omega
    · rw [if_neg h1] at hmm
      by_cases h2 : levels ≤ 4
      · rw [if_pos h2] at hmm; omega
      · rw [if_neg h2] at hmm; omega
  have HM := Lib.hid hmm
  clear hmm
  have HKS := Lib.hid (key_size hk16)
  have HFS := Lib.hid (fl_size hf)
  have HGS := Lib.hid (fl_size (ok_fl4 hf))
  have HHS := Lib.hid (fl_size (ok_flMore hf hm hmb))
  have hO1 := ((Obj1.new w (bys key).toArray 22).alloc (.cells (flC f).toArray 34)).alloc (.cells (bys more).toArray 42)
  have hO2 := (Obj1.new (w.alloc (.cells (bys key).toArray 22)) (flC f).toArray 34).alloc (.cells (bys more).toArray 42)
  have hO3 := Obj1.new ((w.alloc (.cells (bys key).toArray 22)).alloc (.cells (flC f).toArray 34)) (bys more).toArray 42
  have e1 : (w.alloc (.cells (bys key).toArray 22)).heap.size = w.heap.size + 1 := by simp
  have e2 : ((w.alloc (.cells (bys key).toArray 22)).alloc (.cells (flC f).toArray 34)).heap.size = w.heap.size + 2 := by simp
  rw [e1] at hO2
  rw [e2] at hO3
  have HO1 := Lib.hid hO1
  have HO2 := Lib.hid hO2
  have HO3 := Lib.hid hO3
  have HB := Lib.hid (bl_alloc (bl_alloc (bl_alloc (Below.refl w.heap.size w) (.cells (bys key).toArray 22)) (.cells (flC f).toArray 34)) (.cells (bys more).toArray 42))
  clear hO1 hO2 hO3 e1 e2
  go_enter Try.func9, Try.ntmps9
  obtain ⟨W3, hW3⟩ : ∃ W3, W3 = (((w.alloc (.cells (bys key).toArray 22)).alloc (.cells (flC f).toArray 34)).alloc (.cells (bys more).toArray 42)) := ⟨_, rfl⟩
  have hz := Obj1.new (((w.alloc (.cells (bys key).toArray 22)).alloc (.cells (flC f).toArray 34)).alloc (.cells (bys more).toArray 42)) (flC fl0).toArray 34
  have e3 : (((w.alloc (.cells (bys key).toArray 22)).alloc (.cells (flC f).toArray 34)).alloc (.cells (bys more).toArray 42)).heap.size = w.heap.size + 1 + 1 + 1 := by simp
  rw [e3] at hz
  have HZ := Lib.hid hz
  have HSZ := Lib.hid (show (flC f).toArray.size = (flC fl0).toArray.size by simp [flC_length hf, flC_length ok_fl0])
  have HSZ4 := Lib.hid (show (flC (fl4 f)).toArray.size = (flC fl0).toArray.size by simp [flC_length (ok_fl4 hf), flC_length ok_fl0])
  clear hz e3 hW3
  go_wp2_with (first
    | (refine load_obj rfl 34 (.tmp 6) rfl (w.heap.size + 1) 34 (flC f).toArray _ rfl HO2.out Try.underlying34 rfl HFS.out ?_)
    | (refine store_obj rfl 34 (.tmp 11) (.tmp 13) rfl (w.heap.size + 1 + 1 + 1) 34 (flC fl0).toArray (flC f).toArray rfl rfl HZ.out HSZ.out HFS.out (flC_one f) ?_; intro w1 ho1 hu1; have q0 : w1.cell? ⟨w.heap.size + 1 + 1 + 1, 0, none⟩ = some (.bool f.v6) := (fl_cell ho1 hf).1; have q1 : w1.frozen? ⟨w.heap.size + 1 + 1 + 1, 0, none⟩ = false := ho1.free 0; have hg2 := ho1.set 0 (.bool false); rw [flC_v4] at hg2; have HG2 := Lib.hid hg2; have HU1 := Lib.hid hu1; have HG1 := Lib.hid ho1; clear ho1 hu1 hg2)
    | (refine load_obj rfl 34 (.tmp 11) rfl (w.heap.size + 1 + 1 + 1) 34 (flC (fl4 f)).toArray _ rfl HG2.out Try.underlying34 rfl HGS.out ?_)
    | (refine store_obj rfl 34 (.tmp 12) (.tmp 15) rfl w1.heap.size 34 (flC fl0).toArray (flC (fl4 f)).toArray rfl rfl (Obj1.newS w1 _ _ _ _) HSZ4.out HGS.out (flC_one (fl4 f)) ?_; intro w2 ho2 hu2; have HH2 := Lib.hid ho2; have HU2 := Lib.hid hu2; clear ho2 hu2))
  have hwG : w.heap.size ≤ w.heap.size + 1 + 1 + 1 := by omega
  have hGH : w.heap.size + 1 + 1 + 1 < w1.heap.size := HG1.out.lt
  have u12 := HU1.out.set 0 (.bool false)
  have k2 := ((((HO1.out.alloc (.cells (flC fl0).toArray 34)).of_grown u12 (by simp; omega)).alloc (.cells (flC fl0).toArray 34)).of_grown HU2.out (by simp; omega))
  have m2 := ((((HO3.out.alloc (.cells (flC fl0).toArray 34)).of_grown u12 (by simp)).alloc (.cells (flC fl0).toArray 34)).of_grown HU2.out (by simp; omega))
  have g2 := (HG2.out.alloc (.cells (flC fl0).toArray 34)).of_grown HU2.out (by simp; omega)
  have hb2 : Below w.heap.size w w2 := bl_upd (bl_alloc (bl_upd (bl_alloc HB.out (.cells (flC fl0).toArray 34)) u12 hwG) (.cells (flC fl0).toArray 34)) HU2.out (by omega)
  obtain ⟨K, hK⟩ : ∃ K, K = w.heap.size := ⟨_, rfl⟩
  obtain ⟨M, hM⟩ : ∃ M, M = w.heap.size + 1 + 1 := ⟨_, rfl⟩
  obtain ⟨G, hG⟩ : ∃ G, G = w.heap.size + 1 + 1 + 1 := ⟨_, rfl⟩
  obtain ⟨H, hH⟩ : ∃ H, H = w1.heap.size := ⟨_, rfl⟩
  have hh2 := HH2.out
  rw [← hK] at k2
  rw [show w.heap.size + 2 = w.heap.size + 1 + 1 from rfl, ← hM] at m2
  rw [← hG] at g2
  rw [← hH] at hh2
  have hwH : w.heap.size ≤ H := by omega
  have hKH : K < H := by omega
  have hMH : M < H := by omega
  have hGH2 : G < H := by omega
  have HK2 := Lib.hid k2
  have HM2 := Lib.hid m2
  have HGG := Lib.hid g2
  have HHH := Lib.hid hh2
  have HB2 := Lib.hid hb2
  rw [← hG, ← hM, ← hK, ← hH]
  clear k2 m2 g2 hh2 hb2 u12 hwG hGH hK hM hG hH HU1 HU2 HG1 HG2 HH2 HO1 HO2 HO3 HB HZ HSZ HSZ4 q0 q1
  have hmc : ∀ (W : World), Obj1 W M (bys more).toArray 42 → ∀ j v, (bys more)[j]? = some v → W.cell? ((⟨M, 0, none⟩ : Addr).add j) = some v := fun W h j v hj => by
    have hb2 : (⟨M, 0, none⟩ : Addr).add j = ⟨M, j, none⟩ := by unfold Addr.add; split <;> simp_all
    rw [hb2, h.cell, List.getElem?_toArray]
    exact hj
  have HMC := Lib.hid hmc
  clear hmc
  refine wp_region_still_tail 3 (by kernel_rfl) (by kernel_rfl) ?_
  change wpStill _ _ (World.drew _) (fun a' => wpList _ _ _ _ a' (World.drew _)) _ _
  simp only [List.take_succ_cons, List.take_zero, List.drop_succ_cons, List.drop_zero]
  repeat still_step
  refine wpStill_nil ?_
  go_wp2_with (refine wpList_copy_splice rfl (.tmp 17) (.tmp 18) 23 23 rfl 5 Try.underlying23 rfl (some ⟨H, 6, none⟩) (some ⟨M, 0, none⟩) 12 12 12 12 rfl rfl H 6 (flC (fl4 f)) 34 (HHH.out.drewN 1) (bys more) (by rw [bys_length, hm]; rfl) (fun _ => ⟨rfl, _, rfl, HMC.out _ (HM2.out.drewN 1)⟩) (by rw [bys_length, hm, flC_length (ok_fl4 hf)]; omega) (bys_one more) H w2 (Below.drew (Below.refl H w2)) (Nat.le_refl _) ?_; intro w3 hg3 hb3; have HH3 := Lib.hid hg3; have HB3 := Lib.hid hb3; clear hg3 hb3)
  have HM3 := Lib.hid ((HM2.out).belowB HB3.out hMH)
  have HK3 := Lib.hid ((HK2.out).belowB HB3.out hKH)
  have HG3 := Lib.hid ((HGG.out).belowB HB3.out hGH2)
  have HHO := Lib.hid HH3.out.out
  have HB30 := Lib.hid (HB2.out.trans (HB3.out.mono hwH))
  go_simp
  refine wp_region_still_tail 3 (by kernel_rfl) (by kernel_rfl) ?_
  change wpStill _ _ (World.drew _) (fun a' => wpList _ _ _ _ a' (World.drew _)) _ _
  simp only [List.take_succ_cons, List.take_zero, List.drop_succ_cons, List.drop_zero]
  repeat still_step
  refine wpStill_nil ?_
  go_wp2_with (refine wpList_copy_splice rfl (.tmp 21) (.tmp 22) 23 23 rfl 5 Try.underlying23 rfl (some ⟨H, 22, none⟩) (some ⟨M, 0, none⟩) 12 12 12 12 rfl rfl H 22 (splice (flC (fl4 f)) 6 (bys more)) 34 (Obj1.drewN HHO.out 1) (bys more) (by rw [bys_length, hm]; rfl) (fun _ => ⟨rfl, _, rfl, HMC.out _ (HM3.out.drewN 1)⟩) (by rw [bys_length, hm, length_splice _ _ _ (by rw [bys_length, hm, flC_length (ok_fl4 hf)]; omega), flC_length (ok_fl4 hf)]; omega) (bys_one more) H w3 (Below.drew (Below.refl H w3)) (Nat.le_refl _) ?_; intro w4 hg4 hb4; have HH4 := Lib.hid hg4; have HB4 := Lib.hid hb4; clear hg4 hb4)
  have hh4 : Obj1 w4 H (flC (flMore f more)).toArray 34 := by have h := HH4.out.out; rw [splice_four hf hm] at h; exact h
  have HX := Lib.hid (show Obj1 w4 K (bys key).toArray 22 ∧ Obj1 w4 G (flC (fl4 f)).toArray 34 ∧ Obj1 w4 H (flC (flMore f more)).toArray 34 from ⟨HK3.out.belowB HB4.out hKH, HG3.out.belowB HB4.out hGH2, hh4⟩)
  have HBW0 := HB30.out.trans (HB4.out.mono hwH)
  clear hh4 HH4 HB4 HHO HH3 HM3 HK3 HG3 HMC HM2 HK2 HGG HHH
  go_simp
  obtain ⟨W0, hW0⟩ : ∃ W0, W0 = World.drew w4 := ⟨_, rfl⟩
  have HX0 := Lib.hid (show Obj1 W0 K (bys key).toArray 22 ∧ Obj1 W0 G (flC (fl4 f)).toArray 34 ∧ Obj1 W0 H (flC (flMore f more)).toArray 34 by rw [hW0]; exact ⟨HX.out.1.drewN 1, HX.out.2.1.drewN 1, HX.out.2.2.drewN 1⟩)
  have HW0 := Lib.hid (Below.refl W0.heap.size W0)
  have HBW := Lib.hid (show Below w.heap.size w W0 by rw [hW0]; exact HBW0.drew)
  clear HBW0
  refine wp_region_held_drew (S := (fun w' => Obj1 w' K (bys key).toArray 22 ∧ Obj1 w' G (flC (fl4 f)).toArray 34 ∧ Obj1 w' H (flC (flMore f more)).toArray 34)) (by kernel_rfl) (⟨HX.out.1.drewN 1, HX.out.2.1.drewN 1, HX.out.2.2.drewN 1⟩) (fun hHeld => ?_)
  rw [← hW0]
  clear hHeld hW0 HX
  refine wpAnyH_ready (rs := [0]) (by kernel_rfl) (by simp) ?_
  refine AllReadyH.cons rfl (fun K hK => ?_) AllReadyH.nil
  go_simp
  refine (awake13_w _).mono ?_
  rintro e W1 ⟨rfl, hb⟩
  have HBq := Lib.hid hb
  clear hb
  dsimp only
  refine hK.out _ _ (⟨HX0.out.1.below HBq.out, HX0.out.2.1.below HBq.out, HX0.out.2.2.below HBq.out⟩) (fun hHeld => ?_)
  have HX1 := Lib.hid hHeld
  have HW1 := Lib.hid (bl_next HW0.out HBq.out)
  clear hK K hHeld HBq
  go_simp
  refine wpAnyH_take (i := 1) (v := ?_) rfl (by kernel_rfl) (by kernel_rfl) (by kernel_rfl) (fun _ _ _ h => h) (Or.inl ⟨by rfl, ?_⟩) HX1.out ?_
  rotate_left
  · intro w hSw; go_simp
    try with_reducible rfl
  go_simp
  refine wpAnyH_take (i := 2) (v := .agg (bys key).toArray) rfl (by kernel_rfl) (by kernel_rfl) (by kernel_rfl) (fun _ _ _ h => h) (Or.inl ⟨by rfl, ?_⟩) HX1.out ?_
  · intro w' hSw
    have hld := run_loadVar_row (P := Try.prog) w' K 22 22 (bys key).toArray (0, 0) _ hSw.1 Try.underlying22 rfl HKS.out
    simp [execOp, Act.eval, Instr.loadAt, Instr.sureAddr, Sem.run_bind, hld, Result.andThen]
  go_simp
  refine wpAnyH_take (i := 3) (v := .agg (flC (fl4 f)).toArray) rfl (by kernel_rfl) (by kernel_rfl) (by kernel_rfl) (fun _ _ _ h => h) (Or.inl ⟨by rfl, ?_⟩) HX1.out ?_
  · intro w' hSw
    have hld := run_loadVar_row (P := Try.prog) w' G 34 34 (flC (fl4 f)).toArray (0, 0) _ hSw.2.1 Try.underlying34 rfl HGS.out
    simp [execOp, Act.eval, Instr.loadAt, Instr.sureAddr, Sem.run_bind, hld, Result.andThen]
  go_simp
  refine wpAnyH_take (i := 4) (v := ?_) rfl (by kernel_rfl) (by kernel_rfl) (by kernel_rfl) (fun _ _ _ h => h) (Or.inl ⟨by rfl, ?_⟩) HX1.out ?_
  rotate_left
  · intro w hSw; go_simp
    try with_reducible rfl
  go_simp
  refine wpAnyH_take (i := 6) (v := .agg (bys key).toArray) rfl (by kernel_rfl) (by kernel_rfl) (by kernel_rfl) (fun _ _ _ h => h) (Or.inl ⟨by rfl, ?_⟩) HX1.out ?_
  · intro w' hSw
    have hld := run_loadVar_row (P := Try.prog) w' K 22 22 (bys key).toArray (0, 0) _ hSw.1 Try.underlying22 rfl HKS.out
    simp [execOp, Act.eval, Instr.loadAt, Instr.sureAddr, Sem.run_bind, hld, Result.andThen]
  go_simp
  refine wpAnyH_take (i := 7) (v := .agg (flC (flMore f more)).toArray) rfl (by kernel_rfl) (by kernel_rfl) (by kernel_rfl) (fun _ _ _ h => h) (Or.inl ⟨by rfl, ?_⟩) HX1.out ?_
  · intro w' hSw
    have hld := run_loadVar_row (P := Try.prog) w' H 34 34 (flC (flMore f more)).toArray (0, 0) _ hSw.2.2 Try.underlying34 rfl HHS.out
    simp [execOp, Act.eval, Instr.loadAt, Instr.sureAddr, Sem.run_bind, hld, Result.andThen]
  go_simp
  refine wpAnyH_take (i := 8) (v := ?_) rfl (by kernel_rfl) (by kernel_rfl) (by kernel_rfl) (fun _ _ _ h => h) (Or.inl ⟨by rfl, ?_⟩) HX1.out ?_
  rotate_left
  · intro w hSw; go_simp
    try with_reducible rfl
  go_simp
  refine wpAnyH_ready (rs := [5]) (by kernel_rfl) (by simp) ?_
  refine AllReadyH.cons rfl (fun K hK => ?_) AllReadyH.nil
  go_simp
  refine (bucket_w key hk16 hkb (fl4 f) (ok_fl4 hf) n (by omega) (by omega) _).mono ?_
  rintro e W2 ⟨rfl, hb⟩
  have HBq := Lib.hid hb
  clear hb
  dsimp only
  refine hK.out _ _ (⟨HX1.out.1.below HBq.out, HX1.out.2.1.below HBq.out, HX1.out.2.2.below HBq.out⟩) (fun hHeld => ?_)
  have HX2 := Lib.hid hHeld
  have HW2 := Lib.hid (bl_next HW1.out HBq.out)
  clear hK K hHeld HBq
  go_simp
  refine wpAnyH_ready (rs := [9]) (by kernel_rfl) (by simp) ?_
  refine AllReadyH.cons rfl (fun K hK => ?_) AllReadyH.nil
  go_simp
  refine (bucketM_w key hk16 hkb f hf more hm hmb n (by omega) (by omega) _).mono ?_
  rintro e W3 ⟨rfl, hb⟩
  have HBq := Lib.hid hb
  clear hb
  dsimp only
  refine hK.out _ _ (⟨HX2.out.1.below HBq.out, HX2.out.2.1.below HBq.out, HX2.out.2.2.below HBq.out⟩) (fun hHeld => ?_)
  have HX3 := Lib.hid hHeld
  have HW3 := Lib.hid (bl_next HW2.out HBq.out)
  clear hK K hHeld HBq
  go_simp
  refine wpAnyH_take (i := 10) (v := ?_) rfl (by kernel_rfl) (by kernel_rfl) (by kernel_rfl) (fun _ _ _ h => h) (Or.inl ⟨by rfl, ?_⟩) HX3.out ?_
  rotate_left
  · intro w hSw; go_simp
    try with_reducible rfl
  go_simp
  refine wpAnyH_take (i := 11) (v := ?_) rfl (by kernel_rfl) (by kernel_rfl) (by kernel_rfl) (fun _ _ _ h => h) (Or.inl ⟨by rfl, ?_⟩) HX3.out ?_
  rotate_left
  · intro w hSw; go_simp
    try with_reducible rfl
  go_simp
  refine wpAnyH_take (i := 12) (v := ?_) rfl (by kernel_rfl) (by kernel_rfl) (by kernel_rfl) (fun _ _ _ h => h) (Or.inl ⟨by rfl, ?_⟩) HX3.out ?_
  rotate_left
  · intro w hSw; go_simp
    try with_reducible rfl
  go_simp
  refine wpAnyH_take (i := 13) (v := .agg (bys key).toArray) rfl (by kernel_rfl) (by kernel_rfl) (by kernel_rfl) (fun _ _ _ h => h) (Or.inl ⟨by rfl, ?_⟩) HX3.out ?_
  · intro w' hSw
    have hld := run_loadVar_row (P := Try.prog) w' K 22 22 (bys key).toArray (0, 0) _ hSw.1 Try.underlying22 rfl HKS.out
    simp [execOp, Act.eval, Instr.loadAt, Instr.sureAddr, Sem.run_bind, hld, Result.andThen]
  go_simp
  refine wpAnyH_take (i := 14) (v := .agg (flC (fl4 f)).toArray) rfl (by kernel_rfl) (by kernel_rfl) (by kernel_rfl) (fun _ _ _ h => h) (Or.inl ⟨by rfl, ?_⟩) HX3.out ?_
  · intro w' hSw
    have hld := run_loadVar_row (P := Try.prog) w' G 34 34 (flC (fl4 f)).toArray (0, 0) _ hSw.2.1 Try.underlying34 rfl HGS.out
    simp [execOp, Act.eval, Instr.loadAt, Instr.sureAddr, Sem.run_bind, hld, Result.andThen]
  go_simp
  refine wpAnyH_take (i := 15) (v := ?_) rfl (by kernel_rfl) (by kernel_rfl) (by kernel_rfl) (fun _ _ _ h => h) (Or.inl ⟨by rfl, ?_⟩) HX3.out ?_
  rotate_left
  · intro w hSw; go_simp
    try with_reducible rfl
  go_simp
  refine wpAnyH_take (i := 16) (v := ?_) rfl (by kernel_rfl) (by kernel_rfl) (by kernel_rfl) (fun _ _ _ h => h) (Or.inl ⟨by rfl, ?_⟩) HX3.out ?_
  rotate_left
  · intro w hSw; go_simp
    try with_reducible rfl
  go_simp
  refine wpAnyH_take (i := 18) (v := .agg (bys key).toArray) rfl (by kernel_rfl) (by kernel_rfl) (by kernel_rfl) (fun _ _ _ h => h) (Or.inl ⟨by rfl, ?_⟩) HX3.out ?_
  · intro w' hSw
    have hld := run_loadVar_row (P := Try.prog) w' K 22 22 (bys key).toArray (0, 0) _ hSw.1 Try.underlying22 rfl HKS.out
    simp [execOp, Act.eval, Instr.loadAt, Instr.sureAddr, Sem.run_bind, hld, Result.andThen]
  go_simp
  refine wpAnyH_take (i := 19) (v := .agg (flC (flMore f more)).toArray) rfl (by kernel_rfl) (by kernel_rfl) (by kernel_rfl) (fun _ _ _ h => h) (Or.inl ⟨by rfl, ?_⟩) HX3.out ?_
  · intro w' hSw
    have hld := run_loadVar_row (P := Try.prog) w' H 34 34 (flC (flMore f more)).toArray (0, 0) _ hSw.2.2 Try.underlying34 rfl HHS.out
    simp [execOp, Act.eval, Instr.loadAt, Instr.sureAddr, Sem.run_bind, hld, Result.andThen]
  go_simp
  refine wpAnyH_take (i := 20) (v := ?_) rfl (by kernel_rfl) (by kernel_rfl) (by kernel_rfl) (fun _ _ _ h => h) (Or.inl ⟨by rfl, ?_⟩) HX3.out ?_
  rotate_left
  · intro w hSw; go_simp
    try with_reducible rfl
  go_simp
  refine wpAnyH_take (i := 21) (v := ?_) rfl (by kernel_rfl) (by kernel_rfl) (by kernel_rfl) (fun _ _ _ h => h) (Or.inl ⟨by rfl, ?_⟩) HX3.out ?_
  rotate_left
  · intro w hSw; go_simp
    try with_reducible rfl
  go_simp
  refine wpAnyH_ready (rs := [17]) (by kernel_rfl) (by simp) ?_
  refine AllReadyH.cons rfl (fun K hK => ?_) AllReadyH.nil
  go_simp
  refine (bins_w key hk16 hkb (fl4 f) (ok_fl4 hf) levels n (by omega) (by omega) (by omega) m HM.out _).mono ?_
  rintro e W4 ⟨A1, c1, rfl, hs1, hb⟩
  have HBq := Lib.hid hb
  clear hb
  dsimp only
  refine hK.out _ _ (⟨HX3.out.1.below HBq.out, HX3.out.2.1.below HBq.out, HX3.out.2.2.below HBq.out⟩) (fun hHeld => ?_)
  have HX4 := Lib.hid hHeld
  have HW4 := Lib.hid (bl_next HW3.out HBq.out)
  have HS1 := Lib.hid hs1
  clear hs1
  clear hK K hHeld HBq
  go_simp
  refine wpAnyH_ready (rs := [22]) (by kernel_rfl) (by simp) ?_
  refine AllReadyH.cons rfl (fun K hK => ?_) AllReadyH.nil
  go_simp
  refine (binsM_w key hk16 hkb f hf more hm hmb levels n (by omega) (by omega) (by omega) m HM.out _).mono ?_
  rintro e W5 ⟨A2, c2, rfl, hs2, hb⟩
  have HBq := Lib.hid hb
  clear hb
  dsimp only
  refine hK.out _ _ (⟨HX4.out.1.below HBq.out, HX4.out.2.1.below HBq.out, HX4.out.2.2.below HBq.out⟩) (fun hHeld => ?_)
  have HX5 := Lib.hid hHeld
  have HW5 := Lib.hid (bl_next HW4.out HBq.out)
  have HT1 := Lib.hid (HS1.out.below HBq.out)
  have HT2 := Lib.hid hs2
  clear hs2 HS1
  clear hK K hHeld HBq
  go_simp
  refine wpAnyH_ready (rs := [23]) (by kernel_rfl) (by simp) ?_
  refine AllReadyH.cons rfl (fun K hK => ?_) AllReadyH.nil
  go_simp
  refine (intsE_w A1 A2 m c1 c2 (binsV key (fl4 f) n m) (by omega) _ HT1.out HT2.out).mono ?_
  rintro e W6 ⟨rfl, q, rfl⟩
  dsimp only
  refine hK.out _ _ (⟨HX5.out.1.drewN q, HX5.out.2.1.drewN q, HX5.out.2.2.drewN q⟩) (fun hHeld => ?_)
  have HX6 := Lib.hid hHeld
  clear hK K hHeld
  go_simp
  refine wpAnyH_take (i := 24) (v := ?_) rfl (by kernel_rfl) (by kernel_rfl) (by kernel_rfl) (fun _ _ _ h => h) (Or.inl ⟨by rfl, ?_⟩) HX6.out ?_
  rotate_left
  · intro w hSw; go_simp
    try with_reducible rfl
  go_simp
  refine wpAnyH_take (i := 25) (v := ?_) rfl (by kernel_rfl) (by kernel_rfl) (by kernel_rfl) (fun _ _ _ h => h) (Or.inl ⟨by rfl, ?_⟩) HX6.out ?_
  rotate_left
  · intro w hSw; go_simp
    try with_reducible rfl
  go_simp
  refine wpAnyH_done (by kernel_rfl) ?_ _
  go_wp2
  go_ret
  exact ⟨rfl, bl_next HBW.out (bl_drewN HW5.out q)⟩

theorem KeyedFour_w (l0 l1 : Array Value) (a2 a3 : Int) (l4 : Array Value) (W : World) (w0 : okCells (List.replicate 16 (.i .u8)) l0.toList) (w1 : okCells flKs l1.toList) (w2 : (Lit.int .i64 a2).wf = true) (w3 : (Lit.int .i64 a3).wf = true) (w4 : okCells (List.replicate 12 (.i .u8)) l4.toList) :
    Calls Try.prog 9 #[.agg l0, .agg l1, .int .i64 a2, .int .i64 a3, .agg l4] W fun e w' => e = .returned (.bool true) ∧ Below W.heap.size W w' := by
  obtain ⟨key, rfl, hk, hkb⟩ := arr_of w0
  obtain ⟨f, hf, rfl⟩ := flow_of w1
  obtain ⟨more, rfl, hm, hmb⟩ := arr_of w4
  exact KeyedFour_x key hk hkb f hf a2 a3 (i64_range w2) (i64_range w3) more hm hmb W
end Go.Proofs.Ytgbdkleckmilkaa
