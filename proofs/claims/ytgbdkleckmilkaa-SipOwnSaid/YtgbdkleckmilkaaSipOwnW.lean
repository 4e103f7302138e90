/- The walk of SipOwn: it answers true. -/
import Derived.Test.YtgbdkleckmilkaaSipE
import Derived.Laws.CopyOwn
namespace Go.Proofs.Ytgbdkleckmilkaa
open Go.RowKit
set_option linter.unusedVariables false
set_option linter.unusedSimpArgs false

theorem made_bytes (n : Nat) : madeCells (Value.int .u8 0).cells (n * 1) = (bys (List.replicate n 0)).toArray := by
  apply Array.ext
  · simp [madeCells, bys]
  · intro i h1 h2
    simp [madeCells, Value.cells, Nat.mod_one, bys]
theorem make_bytes (n C : Nat) (hn : n ≤ C) (hC : C ≤ 1048576) (W : World) :
    (Instr.makeSlice 23 (.int .i64 (n : Int)) (.int .i64 (C : Int))).run Try.prog W = .ok (.slice (some ⟨W.heap.size, 0, none⟩) n C) (W.alloc (.cells (bys (List.replicate C 0)).toArray 5)) := by
  have hinfo : (Try.prog.info? 5).map (fun i => (i.zero, i.size, i.bytes)) = some (some (.int .u8 0), 1, 1) := rfl
  obtain ⟨i0, hi, hzz⟩ := Option.map_eq_some_iff.1 hinfo
  simp only [Prod.mk.injEq] at hzz
  obtain ⟨hz0, hz1, hz2⟩ := hzz
  rw [run_make (P := Try.prog) W 23 5 i0 _ Try.underlying23 hi hz0 .i64 .i64 n C (Int.natCast_nonneg _) (by omega) (by rw [hz2]; omega) (by omega), hz1, Int.toNat_natCast, Int.toNat_natCast, made_bytes]

set_option maxRecDepth 100000 in
set_option maxHeartbeats 600000 in
theorem SipOwn_x (key : List Int) (hk16 : key.length = 16) (hkb : ∀ x ∈ key, 0 ≤ x ∧ x ≤ 255) (A : Option Addr) (n c : Nat) (l : List Int) (room : Int) (hroom : 0 ≤ room ∧ room ≤ 255) (w : World) (hs : SlI .u8 w A n c l) :
    Calls Try.prog 4 #[.agg (bys key).toArray, .slice A n c, .int .u8 room] w fun e w' => e = .returned (.bool true) ∧ Below w.heap.size w w' := by
  have HO1 := Lib.hid (Obj1.new w (bys key).toArray 22)
  have HB := Lib.hid (bl_alloc (Below.refl w.heap.size w) (.cells (bys key).toArray 22))
  have HKS := Lib.hid (key_size0 hk16)
  have hn : n ≤ 9223372036854775807 := Nat.le_trans hs.2.1 hs.2.2.1
  have hbyte : ∀ x ∈ l, 0 ≤ x ∧ x ≤ 255 := fun x hx => u8_range (hs.2.2.2.2 x hx)
  have hll : l.length = n := hs.1
  have HS := Lib.hid hs
  have HBY := Lib.hid hbyte
  have HLL := Lib.hid hll
  clear hs hbyte hll
  go_enter Try.func4, Try.ntmps4
  go_wp2_with fail
  refine (awake07_w _).mono ?_
  rintro e w1 ⟨rfl, hb1⟩
  have HP1 := Lib.hid (HO1.out.below hb1)
  have HB1 := Lib.hid (bl_next HB.out hb1)
  clear hb1
  by_cases h100 : 100 < n
  · have h100' : (100 : Int) < (n : Int) := by omega
    go_wp2_with fail
    refine (awake07_w _).mono ?_
    rintro e w2 ⟨rfl, hb2⟩
    have HB2 := Lib.hid (bl_next HB1.out hb2)
    clear hb2
    go_wp2
    go_ret
    exact ⟨rfl, HB2.out⟩
  · have h100' : ¬ (100 : Int) < (n : Int) := by omega
    obtain ⟨R, rfl⟩ := Int.eq_ofNat_of_zero_le hroom.1
    have hR : R ≤ 255 := by omega
    obtain ⟨C, hC⟩ : ∃ C, C = n + R := ⟨_, rfl⟩
    have a1 : IntKind.i64.wrap (R : Int) = (R : Int) := IntWalk.i64_in _ (by omega)
    have a2 : IntKind.i64.wrap ((n : Int) + (R : Int)) = (C : Int) := by rw [show (n : Int) + (R : Int) = (C : Int) by omega]; exact IntWalk.i64_in _ (by omega)
    have hmk : ∀ W : World, (Instr.makeSlice 23 (.int .i64 (n : Int)) (.int .i64 (C : Int))).run Try.prog W = .ok (.slice (some ⟨W.heap.size, 0, none⟩) n C) (W.alloc (.cells (bys (List.replicate C 0)).toArray 5)) := fun W => make_bytes n C (by omega) (by omega) W
    have HC := Lib.hid hC
    have hg : (w1.alloc (.cells (bys (List.replicate C 0)).toArray 5)).heap[w1.heap.size]? = some (.cells (bys (List.replicate C 0)).toArray 5 (0, 0)) := Obj1.new w1 _ _
    have HG := Lib.hid hg
    have hbA := bl_alloc (Below.refl w1.heap.size w1) (.cells (bys (List.replicate C 0)).toArray 5)
    have HBA := Lib.hid hbA
    have hnC : n ≤ C := by omega
    have hCb : C ≤ 355 := by omega
    clear hC hg hbA
    have hpos : 0 < (bys l).length → (some (⟨w1.heap.size, 0, none⟩ : Addr)) = some ⟨w1.heap.size, 0, none⟩ ∧ ∃ ad, A = some ad ∧ ∀ j v, (bys l)[j]? = some v → (w1.alloc (.cells (bys (List.replicate C 0)).toArray 5)).cell? (ad.add j) = some v := fun h0 => by
      refine ⟨rfl, ?_⟩
      have hr := ((HS.out.below HB1.out).below HBA.out).2.2.2.1
      obtain ⟨ad, e, _⟩ := hr 0 _ (bys_at (by rw [bys_length] at h0; exact h0))
      refine ⟨ad, e, fun j v hj => ?_⟩
      obtain ⟨ad', e', hc⟩ := hr j v hj
      rw [e] at e'
      cases e'
      exact hc
    have HPOS := Lib.hid hpos
    clear hpos
    have HSP := Lib.hid (show splice (bys (List.replicate C 0)) 0 (bys l) = bys (l ++ List.replicate R 0) by
      have h1 := HC.out
      have h2 := HLL.out
      unfold splice bys
      simp [h2]
      omega)
    go_wp2_with (first
      | (refine wpList_copy_splice rfl (.tmp 26) (.tmp 27) 23 23 rfl 5 Try.underlying23 rfl _ A n C n c rfl rfl w1.heap.size 0 (bys (List.replicate C 0)) 5 HG.out (bys l) (by rw [bys_length, HLL.out]; simp) (fun h0 => ⟨rfl, (HPOS.out h0).2⟩) (by rw [bys_length, bys_length, HLL.out]; simp; omega) (bys_one l) w1.heap.size w1 HBA.out (Nat.le_refl _) ?_; intro w2 hg2 hb2; have ho2 := HP1.out.below hb2; have HG2 := Lib.hid hg2; have HB2 := Lib.hid hb2; have HO2 := Lib.hid ho2; clear hg2 hb2 ho2)
      | (refine load_obj rfl 22 (.tmp 3) rfl w.heap.size 22 (bys key).toArray _ rfl HO2.out Try.underlying22 rfl HKS.out ?_))
    have hobj : Obj1 w2 w1.heap.size (bys (l ++ List.replicate R 0)).toArray 5 := by have h := HG2.out.out; rw [HSP.out] at h; exact h
    have hba : ∀ x ∈ l ++ List.replicate R 0, 0 ≤ x ∧ x ≤ 255 := fun x hx => by
      rcases List.mem_append.1 hx with h | h
      · exact HBY.out x h
      · rw [List.eq_of_mem_replicate h]; decide
    have hsl := SlI.block hobj hba 0 n C (by simp; have := HLL.out; omega) hnC (by omega)
    rw [List.drop_zero, List.take_left' HLL.out] at hsl
    have HOB := Lib.hid hobj
    have HSS := Lib.hid (SlSl.two w2 23 hsl hsl)
    have HB20 := Lib.hid (bl_next HB1.out HB2.out)
    clear hobj hba hsl
    refine (sum2_w key hk16 hkb l l (n + n) (by rw [List.length_append, HLL.out]) (by omega) _ HSS.out).mono ?_
    rintro e w3 ⟨rfl, hb3⟩
    have HB3 := Lib.hid (bl_next (bl_alloc HB20.out (.cells #[.slice (some ⟨w1.heap.size, 0, none⟩) n C, .slice (some ⟨w1.heap.size, 0, none⟩) n C] 23)) hb3)
    have HOB3 := Lib.hid ((HOB.out.alloc (.cells #[.slice (some ⟨w1.heap.size, 0, none⟩) n C, .slice (some ⟨w1.heap.size, 0, none⟩) n C] 23)).below hb3)
    have HS3 := Lib.hid (HS.out.below HB3.out)
    clear hb3
    go_wp2_with fail
    go_loopw [40] (fun i wr => ∃ k : Nat, k ≤ C ∧ i = .int .i64 k ∧ ∃ q, wr = w3.drewN q) (fun i _ => C - (intOf i).toNat)
    case atStart => exact ⟨0, by omega, rfl, 0, rfl⟩
    case round =>
      obtain ⟨k, hk, rfl, q, rfl⟩ := hrel
      by_cases hlt : k < C
      · have hk0 : (0 : Int) ≤ (k : Int) := Int.natCast_nonneg k
        have hk1 : (k : Int) < (C : Int) := by omega
        have d1 : w3.cell? ⟨w1.heap.size, k, none⟩ = some (.int .u8 (nth (l ++ List.replicate R 0) k)) := by
          rw [HOB3.out.cell, List.getElem?_toArray]
          exact bys_at (by rw [List.length_append, HLL.out]; have := HC.out; simp; omega)
        by_cases hkn : k < n
        · have x1 : decide ((k : Int) < (n : Int)) = true := by simp; omega
          have x2 : decide ((n : Int) ≤ (k : Int)) = false := by simp; omega
          have x3 : (k : Int) < (n : Int) := by omega
          have x4 : ¬ (n : Int) ≤ (k : Int) := by omega
          have x6 : decide (n ≤ k) = false := by simp; omega
          have x7 : ¬ n ≤ k := by omega
          obtain ⟨ad, rfl, d2, _⟩ := HS3.out.at k hkn
          rw [nth_append_left (by rw [HLL.out]; exact hkn)] at d1
          go_wp2_with fail
          go_quiet (fail)
          go_wp2_with fail
          go_roundw
          case rel => exact ⟨k + 1, by omega, by go_num, _, rfl⟩
          case measure => simp [intOf]; omega
        · have x1 : decide ((k : Int) < (n : Int)) = false := by simp; omega
          have x2 : decide ((n : Int) ≤ (k : Int)) = true := by simp; omega
          have x3 : ¬ (k : Int) < (n : Int) := by omega
          have x4 : (n : Int) ≤ (k : Int) := by omega
          have d3 : nth (l ++ List.replicate R 0) k = 0 := by
            unfold nth
            rw [List.getD_eq_getElem?_getD, List.getElem?_append_right (by rw [HLL.out]; omega), List.getElem?_replicate]
            split <;> rfl
          rw [d3] at d1
          clear d3
          go_wp2_with fail
          go_quiet (fail)
          go_wp2_with fail
          go_roundw
          case rel => exact ⟨k + 1, by omega, by go_num, _, rfl⟩
          case measure => simp [intOf]; omega
      · obtain rfl : k = C := by omega
        go_wp2
        go_ret
        exact ⟨rfl, bl_drewN HB3.out q⟩

theorem SipOwn_w (l0 : Array Value) (a1 : Option Addr) (n1 c1 : Nat) (l1 : List Int) (a2 : Int) (W : World) (w0 : okCells (List.replicate 16 (.i .u8)) l0.toList) (w1 : SlI .u8 W a1 n1 c1 l1) (w2 : (Lit.int .u8 a2).wf = true) :
    Calls Try.prog 4 #[.agg l0, .slice a1 n1 c1, .int .u8 a2] W fun e w' => e = .returned (.bool true) ∧ Below W.heap.size W w' := by
  obtain ⟨key, h1, hk, hkb⟩ := bytes_of w0
  obtain rfl : l0 = (bys key).toArray := by rw [← h1]
  exact SipOwn_x key hk hkb a1 n1 c1 l1 a2 (u8_range w2) W w1
end Go.Proofs.Ytgbdkleckmilkaa
