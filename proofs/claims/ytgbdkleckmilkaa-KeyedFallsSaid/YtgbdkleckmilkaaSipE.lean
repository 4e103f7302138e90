/- Sip's awake. -/
import Derived.Test.YtgbdkleckmilkaaKeyC
namespace Go.Proofs.Ytgbdkleckmilkaa
open Go.RowKit
set_option linter.unusedVariables false
set_option linter.unusedSimpArgs false

/-- 0, 1, .. k-1, then zeros. -/
def upTo : Nat → Nat → List Int
  | n, 0 => List.replicate n 0
  | n, k + 1 => (upTo n k).set k (k : Int)
theorem upTo_length (n : Nat) : ∀ k, (upTo n k).length = n
  | 0 => by simp [upTo]
  | k + 1 => by simp [upTo, upTo_length n k]
theorem bys_set (l : List Int) (k : Nat) (x : Int) : (bys l).toArray.setIfInBounds k (.int .u8 x) = (bys (l.set k x)).toArray := by
  simp [bys, List.map_set]
def numsTo (k : Nat) : List Int := (List.range k).map fun (j : Nat) => (j : Int)
theorem numsTo_step (k : Nat) : numsTo (k + 1) = numsTo k ++ [(k : Int)] := by
  unfold numsTo
  rw [List.range_succ, List.map_append]
  rfl
theorem upTo_byte : ∀ x ∈ upTo 16 16, 0 ≤ x ∧ x ≤ 255 := by decide +kernel
theorem numsTo_byte : ∀ x ∈ numsTo 15, 0 ≤ x ∧ x ≤ 255 := by decide +kernel
theorem sip_awake : uv (sipU (upTo 16 16) (numsTo 15)) = 11613035633349379557 := by decide +kernel
theorem SlI.ownedB {B : Nat} {w : World} {e : TypeId} {v : Value} {n : Nat} {l : List Int} (h : w.ownsRow B e 1 v n (bys l)) (hl : l.length = n) (hb : ∀ x ∈ l, 0 ≤ x ∧ x ≤ 255) :
    ∃ A c, v = .slice A n c ∧ SlI .u8 w A n c l := by
  obtain ⟨A, c, rfl, hr⟩ := own_Rd h
  have hcap : n ≤ c ∧ c ≤ 9223372036854775807 := by
    rcases h.2 with ⟨e, h0⟩ | ⟨g, cap, cur, e, _, _, h1, h2, _⟩
    · cases e; omega
    · cases e; unfold maxLen at h2; omega
  exact ⟨A, c, rfl, hl, hcap.1, hcap.2, hr, fun x hx => lit_u8 (hb x hx)⟩
theorem sum1_w (key : List Int) (hk : key.length = 16) (hkb : ∀ x ∈ key, 0 ≤ x ∧ x ≤ 255) (l1 : List Int) (L : Nat) (hL : l1.length = L) (hT : L ≤ 1000000000) {B : Nat} (w : World) (h : SlSl w (some ⟨B, 0, none⟩) 1 1 [l1]) :
    Calls Try.prog 15 #[.agg (bys key).toArray, .slice (some ⟨B, 0, none⟩) 1 1] w fun e w' => e = .returned (.int .u64 (uv (sipU key l1))) ∧ Below w.heap.size w w' := by
  have e : [l1].flatten = l1 := by simp
  have h1 := sum_w key hk hkb (some ⟨B, 0, none⟩) 1 1 [l1] L (by rw [e]; exact hL) hT w h
  rw [e] at h1
  exact h1
theorem key_size0 {key : List Int} (hk : key.length = 16) : (Try.prog.info? 22).map (·.size) = some (bys key).toArray.size := by rw [show (bys key).toArray.size = 16 by simp [bys_length, hk]]; rfl

set_option maxRecDepth 100000 in
set_option maxHeartbeats 3000000 in
theorem awake07_w (w : World) : Calls Try.prog 13 #[] w fun e w' => e = .returned (.bool true) ∧ Below w.heap.size w w' := by
  go_enter Try.func13, Try.ntmps13
  go_wp2_with fail
  have HK := Lib.hid (show Obj1 (w.alloc (.cells (bys (upTo 16 0)).toArray 22)) w.heap.size (bys (upTo 16 0)).toArray 22 from Obj1.new w _ _)
  have HB := Lib.hid (bl_alloc (Below.refl w.heap.size w) (.cells (bys (upTo 16 0)).toArray 22))
  go_loopw [5] (fun i wr => ∃ k : Nat, k ≤ 16 ∧ i = .int .i64 k ∧ Obj1 wr w.heap.size (bys (upTo 16 k)).toArray 22 ∧ Below w.heap.size w wr) (fun i _ => 16 - (intOf i).toNat)
  case atStart => exact ⟨0, Nat.zero_le _, rfl, HK.out, HB.out⟩
  case round =>
    obtain ⟨k, hk, rfl, hobj, hbel⟩ := hrel
    by_cases hlt : k < 16
    · have hk0 : (0 : Int) ≤ (k : Int) := Int.natCast_nonneg k
      have hk1 : (k : Int) < 16 := by omega
      have a2 : IntKind.u8.wrap (k : Int) = (k : Int) := by simp [IntKind.wrap, IntKind.bits, IntKind.signed]; omega
      have hcell : wr.cell? ⟨w.heap.size, k, none⟩ = some (.int .u8 (nth (upTo 16 k) k)) := by rw [hobj.cell, List.getElem?_toArray]; exact bys_at (by rw [upTo_length]; exact hlt)
      have hfree : wr.frozen? ⟨w.heap.size, k, none⟩ = false := hobj.free k
      have HO := Lib.hid hobj
      have HBB := Lib.hid hbel
      clear hobj hbel
      go_wp2_with fail
      go_roundw
      case rel => exact ⟨k + 1, by omega, by go_num, by have h := HO.out.set k (.int .u8 (k : Int)); rw [bys_set] at h; exact h, bl_setB HBB.out _ _ (Nat.le_refl _) _⟩
      case measure => simp [intOf]; omega
    · have e16 : k = 16 := by omega
      have hk1 : ¬ (k : Int) < 16 := by omega
      rw [e16] at hobj
      have HE16 := Lib.hid e16
      clear e16
      have HO := Lib.hid hobj
      have HBB := Lib.hid hbel
      clear hobj hbel
      go_wp2_with fail
      obtain ⟨W1, hW1⟩ : ∃ W1, W1 = wr := ⟨_, rfl⟩
      rw [← hW1] at HO HBB ⊢
      clear hW1
      go_loopw [2, 13] (fun v i wr => ∃ k : Nat, k ≤ 15 ∧ i = .int .i64 k ∧ wr.ownsRow W1.heap.size 5 1 v k (bys (numsTo k)) ∧ Below W1.heap.size W1 wr) (fun _ i _ => 15 - (intOf i).toNat)
      case atStart => exact ⟨0, Nat.zero_le _, rfl, World.ownsRow_nil _ _ _ _, Below.refl _ _⟩
      case round =>
        obtain ⟨k, hk, rfl, hown, hbel⟩ := hrel
        by_cases hlt : k < 15
        · have hk0 : (0 : Int) ≤ (k : Int) := Int.natCast_nonneg k
          have hk1 : (k : Int) < 15 := by omega
          have a2 : IntKind.u8.wrap (k : Int) = (k : Int) := by simp [IntKind.wrap, IntKind.bits, IntKind.signed]; omega
          go_wp2_with (at_builtin; refine app_one W1.heap.size rfl (.tmp 16) (.tmp 19) 23 5 (.int .u8 0) 1 rfl Try.underlying23 (by kernel_rfl) rfl (by omega) _ k _ (.int .u8 k) rfl rfl rfl hown hbel hbel.size (by omega) ?_; intro v1 w2 hown2 hbel2 _; clear hown hbel)
          go_roundw
          case rel => exact ⟨k + 1, by omega, by go_num, by rw [numsTo_step, bys_append]; exact hown2, hbel2⟩
          case measure => simp [intOf]; omega
        · obtain rfl : k = 15 := by omega
          obtain ⟨A, c, rfl, hs⟩ := SlI.ownedB hown (by decide +kernel) numsTo_byte
          have HS := Lib.hid (SlSl.oneS wr 23 hs)
          have HO2 := Lib.hid (HO.out.below hbel)
          have HB2 := Lib.hid (bl_next HBB.out hbel)
          have HKS := Lib.hid (key_size0 (upTo_length 16 16))
          clear hs hown hbel
          go_wp2_with (refine load_obj rfl 22 (.tmp 1) rfl w.heap.size 22 (bys (upTo 16 16)).toArray _ rfl HO2.out Try.underlying22 rfl HKS.out ?_)
          refine (sum1_w (upTo 16 16) (upTo_length 16 16) upTo_byte (numsTo 15) 15 (by decide +kernel) (by omega) _ HS.out).mono ?_
          rintro e w3 ⟨rfl, hb3⟩
          have HB3 := Lib.hid (bl_next (bl_alloc HB2.out (.cells #[.slice A 15 c] 23)) hb3)
          clear hb3
          rw [sip_awake]
          go_wp2
          go_ret
          exact ⟨rfl, HB3.out⟩
end Go.Proofs.Ytgbdkleckmilkaa
