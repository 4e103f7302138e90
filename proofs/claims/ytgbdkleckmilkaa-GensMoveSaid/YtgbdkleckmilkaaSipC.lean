/- Bytes that are joined. -/
import Derived.Test.YtgbdkleckmilkaaSipB
import Derived.Lib.AppendZeros
namespace Go.Proofs.Ytgbdkleckmilkaa
open Go.RowKit
set_option linter.unusedVariables false
set_option linter.unusedSimpArgs false

set_option maxHeartbeats 1000000 in
theorem grow_w (n : Nat) (hn : n ≤ 1000000000) (w : World) :
    Calls Try.prog 41 #[.slice none 0 0, .int .i64 n] w fun e w' => ∃ v, e = .returned v ∧ w'.ownsRow w.heap.size 5 1 v 0 [] ∧ Below w.heap.size w w' := by
  have h1 : ¬ ((n : Int) < 0) := by omega
  have h2 : IntKind.i64.wrap ((n : Int) - 0) = (n : Int) := by rw [Int.sub_zero]; exact IntWalk.i64_in _ (by omega)
  by_cases h0 : n = 0
  · subst h0
    go_enter Try.func41, Try.ntmps41
    go_wp2
    go_ret
    exact ⟨_, rfl, World.ownsRow_nil _ _ _ _, Below.refl _ _⟩
  · have h4 : (n : Int) > 0 := by omega
    have hinfo : (Try.prog.info? 5).map (fun i => (i.zero, i.size, i.bytes)) = some (some (.int .u8 0), 1, 1) := rfl
    obtain ⟨i0, hi, hzz⟩ := Option.map_eq_some_iff.1 hinfo
    simp only [Prod.mk.injEq] at hzz
    obtain ⟨hz0, hz1, hz2⟩ := hzz
    have hr : ∀ ty, (Builtin.append_ #[23, 3] ty #[.slice none 0 0, .int .i64 n]).run Try.prog w = _ := fun ty => Lib.run_append_nil_zeros w 23 3 ty 5 i0 (.int .u8 0) .i64 .i64 Try.underlying23 Try.underlying3 hi hz0 n (by omega) (by omega) (by omega) (by rw [hz2]; omega)
    have hge := grownCap_ge w n 0 5
    have hcm := grownCap_le_maxLen w n 0 5 (by simp only [maxLen]; omega)
    obtain ⟨G, hG⟩ : ∃ G, G = grownCap w n 0 5 := ⟨_, rfl⟩
    rw [← hG] at hge hcm
    have hG63 : G ≤ 9223372036854775807 := by unfold maxLen at hcm; omega
    simp only [← hG] at hr
    have hcm' := Lib.hid hcm
    clear hG hi hinfo hcm
    go_enter Try.func41, Try.ntmps41
    go_wp2_with (at_builtin; refine Lib.wpList_append_run _ rfl _ _ _ _ rfl _ _ rfl rfl _ _ (hr _) ?_)
    go_ret
    refine ⟨_, rfl, ⟨rfl, .inr ⟨w.heap.size, G, _, rfl, Nat.le_refl _, heap_alloc_new w.drew _, Nat.zero_le _, hcm'.out, ?_, by simp⟩⟩, bl_alloc (Below.drew (Below.refl _ _)) _⟩
    rw [Array.size_append]
    simp [Builtin.zeroCells]
    omega

/-- Slices of bytes, in a slice. -/
def SlSl (w : World) (A : Option Addr) (n c : Nat) (ls : List (List Int)) : Prop :=
  ls.length = n ∧ n ≤ c ∧ c ≤ 9223372036854775807 ∧ ∀ (j : Nat) (l : List Int), ls[j]? = some l → ∃ ad a m d, A = some ad ∧ w.cell? (ad.add j) = some (.slice a m d) ∧ SlI .u8 w a m d l
theorem SlSl.below {w W : World} {A : Option Addr} {n c : Nat} {ls : List (List Int)} (h : SlSl w A n c ls) (hb : Below w.heap.size w W) : SlSl W A n c ls :=
  ⟨h.1, h.2.1, h.2.2.1, fun j l hj => let ⟨ad, a, m, d, e, hc, hs⟩ := h.2.2.2 j l hj; ⟨ad, a, m, d, e, bl_keeps hb hc, hs.below hb⟩⟩

/-- How many bytes the first k parts are. -/
def totN (ls : List (List Int)) (k : Nat) : Nat := ((ls.take k).flatten).length
theorem totN_step {ls : List (List Int)} {k : Nat} {l : List Int} (h : ls[k]? = some l) : totN ls (k + 1) = totN ls k + l.length := by
  unfold totN
  rw [List.take_add_one, h]
  simp
theorem flat_step {ls : List (List Int)} {k : Nat} {l : List Int} (h : ls[k]? = some l) : (ls.take (k + 1)).flatten = (ls.take k).flatten ++ l := by
  rw [List.take_add_one, h]
  simp
theorem totN_le (ls : List (List Int)) (k : Nat) : totN ls k ≤ ls.flatten.length := by
  unfold totN
  have h : (ls.take k).flatten ++ (ls.drop k).flatten = ls.flatten := by rw [← List.flatten_append, List.take_append_drop]
  rw [← h, List.length_append]
  omega
theorem totN_all (ls : List (List Int)) : totN ls ls.length = ls.flatten.length := by simp [totN]

set_option maxHeartbeats 2000000 in
theorem concat_w (A : Option Addr) (n c : Nat) (ls : List (List Int)) (L : Nat) (hL : ls.flatten.length = L) (hT : L ≤ 1000000000) (w : World) (h : SlSl w A n c ls) :
    Calls Try.prog 34 #[.slice A n c] w fun e w' => ∃ A' c', e = .returned (.slice A' L c') ∧ SlI .u8 w' A' L c' ls.flatten ∧ (∀ ad, A' = some ad → w.heap.size ≤ ad.block) ∧ Below w.heap.size w w' := by
  have hn : ls.length = n := h.1
  have hnb : n ≤ 9223372036854775807 := Nat.le_trans h.2.1 h.2.2.1
  have H := Lib.hid h
  have HL := Lib.hid hL
  clear h hL
  have hby : ∀ x ∈ ls.flatten, (Lit.int .u8 x).wf = true := fun x hx => by
    obtain ⟨l, hl, hxl⟩ := List.mem_flatten.1 hx
    obtain ⟨j, hj⟩ := List.getElem?_of_mem hl
    obtain ⟨_, _, _, _, _, _, hs⟩ := H.out.2.2.2 j l hj
    exact hs.2.2.2.2 x hxl
  have HBY := Lib.hid hby
  clear hby
  go_enter Try.func34, Try.ntmps34
  go_wp2_with fail
  go_loop [3, 11] (fun v i => ∃ k : Nat, k ≤ n ∧ i = .int .i64 k ∧ v = .int .i64 (totN ls k)) (fun _ i => n - (intOf i).toNat)
  case atStart => exact ⟨0, Nat.zero_le _, rfl, rfl⟩
  case round =>
    obtain ⟨k, hk, rfl, rfl⟩ := hrel
    by_cases hlt : k < n
    · have hk0 : (0 : Int) ≤ (k : Int) := Int.natCast_nonneg k
      have hk1 : (k : Int) < (n : Int) := by omega
      have hl : ls[k]? = some (ls[k]'(by omega)) := List.getElem?_eq_getElem (by omega)
      obtain ⟨ad, a, m, d, rfl, hc, hs⟩ := H.out.2.2.2 k _ hl
      have hm : (ls[k]'(by omega)).length = m := hs.1
      have ht := totN_step hl
      have hle := totN_le ls (k + 1)
      rw [HL.out] at hle
      rw [hm] at ht
      obtain ⟨T, hTk⟩ : ∃ T, totN ls k = T := ⟨_, rfl⟩
      rw [hTk] at ht ⊢
      have a1 : IntKind.i64.wrap ((T : Int) + (m : Int)) = ((T + m : Nat) : Int) := by rw [show (T : Int) + (m : Int) = ((T + m : Nat) : Int) by omega]; exact IntWalk.i64_in _ (by omega)
      obtain ⟨U, hU⟩ : ∃ U, T + m = U := ⟨_, rfl⟩
      rw [hU] at a1 ht
      have a2 : ¬ (U : Int) < 0 := by omega
      have HT := Lib.hid ht
      clear hs hTk ht hle hU hl hm
      go_wp2_with fail
      go_round
      case rel => exact ⟨k + 1, by omega, by go_num, by rw [HT.out]⟩
      case measure => simp [intOf]; omega
    · obtain rfl : k = n := by omega
      have hall : totN ls k = L := by rw [← hn, ← HL.out]; exact totN_all ls
      rw [hall]
      have HALL := Lib.hid hall
      clear hall
      go_wp2_with fail
      refine (grow_w _ hT _).mono ?_
      rintro e w1 ⟨v, rfl, hown, hb1⟩
      have HOWN := Lib.hid hown
      have HB1 := Lib.hid hb1
      clear hown hb1
      go_wp2_with fail
      go_loopw [6, 27] (fun v i wr => ∃ q : Nat, q ≤ k ∧ i = .int .i64 q ∧ wr.ownsRow w.heap.size 5 1 v (totN ls q) (bys (ls.take q).flatten) ∧ Below w.heap.size w wr) (fun _ i _ => k - (intOf i).toNat)
      case atStart => exact ⟨0, Nat.zero_le _, rfl, HOWN.out, HB1.out⟩
      case round =>
        obtain ⟨q, hq, rfl, hown, hbel⟩ := hrel
        have HOQ := Lib.hid hown
        have HBQ := Lib.hid hbel
        clear hown hbel
        by_cases hqt : q < k
        · have hk0 : (0 : Int) ≤ (q : Int) := Int.natCast_nonneg q
          have hk1 : (q : Int) < (k : Int) := by omega
          have hl : ls[q]? = some (ls[q]'(by omega)) := List.getElem?_eq_getElem (by omega)
          obtain ⟨ad, a, m, d, rfl, hc0, hs⟩ := H.out.2.2.2 q _ hl
          have hc := bl_keeps HBQ.out hc0
          have hm : (ls[q]'(by omega)).length = m := hs.1
          have ht := totN_step hl
          have hf := flat_step hl
          have hle := totN_le ls (q + 1)
          rw [HL.out] at hle
          rw [hm] at ht
          obtain ⟨l, hll⟩ : ∃ l, (ls[q]'(by omega)) = l := ⟨_, rfl⟩
          rw [hll] at hf hm hs
          have HS := Lib.hid (hs.below HBQ.out)
          have HF := Lib.hid hf
          have HTT := Lib.hid ht
          have hmb : (totN ls q + m) * 1 ≤ 140737488355328 := by omega
          clear hs hf ht hl hll hc0 hle
          go_wp2_with (at_builtin; refine app_list w.heap.size rfl (.tmp 31) (.tmp 32) 23 5 (.int .u8 0) 1 1 rfl Try.underlying23 (by kernel_rfl) rfl (by omega) (by omega) _ (totN ls q) _ a m d (bys l) rfl rfl HOQ.out (by rw [bys_length, hm]; omega) HS.out.2.2.2.1 (bys_one l) hmb HBQ.out.size ?_; intro v1 w6 hown6 hg6)
          go_roundw
          case rel => exact ⟨q + 1, by omega, by go_num, by rw [HF.out, bys_append, HTT.out]; exact hown6, bl_grown HBQ.out HOQ.out hg6 (Nat.le_refl _)⟩
          case measure => simp [intOf]; omega
        · obtain rfl : q = k := by omega
          have hown := HOQ.out
          have htk : ls.take q = ls := List.take_of_length_le (by omega)
          rw [htk, HALL.out] at hown
          obtain ⟨A', c', rfl, hr⟩ := own_Rd hown
          have hblk : ∀ ad, A' = some ad → w.heap.size ≤ ad.block := fun ad e => by subst e; exact (hown.lt ad.block rfl).1
          have HBLK := Lib.hid hblk
          clear hblk
          have hcap : L ≤ c' ∧ c' ≤ 9223372036854775807 := by
            rcases hown.2 with ⟨e, h0⟩ | ⟨g, cap, cur, e, _, _, h1, h2, _⟩
            · cases e; omega
            · cases e; unfold maxLen at h2; omega
          have HR := Lib.hid hr
          clear hown hr htk
          go_wp2
          go_ret
          exact ⟨_, _, rfl, ⟨HL.out, hcap.1, hcap.2, HR.out, HBY.out⟩, HBLK.out, HBQ.out⟩
end Go.Proofs.Ytgbdkleckmilkaa
