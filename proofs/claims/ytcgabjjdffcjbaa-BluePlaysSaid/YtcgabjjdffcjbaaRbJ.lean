/- The document's Touch of what is no flow; the law's tuned; Bin beyond. -/
import Derived.Test.YtcgabjjdffcjbaaRbI
import Derived.Test.YtcgabjjdffcjbaaBlueH
namespace Go.Proofs.Ytcgabjjdffcjbaa
open Go.RowKit
set_option linter.unusedVariables false
set_option linter.unusedSimpArgs false

set_option maxRecDepth 100000 in
set_option maxHeartbeats 1000000 in
theorem rtouchNo_w (target hold up down now : Int) (A A1 : Option Addr) (nl c n c1 nb lo : Nat) (ls : List (List Bn)) (ks : List Int) (hnl : 1 ≤ nl ∧ nl ≤ 4) (hnb : 1 ≤ nb ∧ nb ≤ 64) (hf : flowsB nl nb ks = false) (w : World) (h : SlB lo w A nl c ls) (hs : SlI .i64 w A1 n c1 ks) (hr : ∀ l ∈ ls, l.length = nb) :
    Calls Try.prog 30 #[.agg (rbC A nl c target hold up down), .slice A1 n c1, .int .i64 now] w fun e w' => e = .returned (.agg (rbC A nl c target hold up down)) ∧ Below w.heap.size w w' := by
  have HS := Lib.hid h
  have HI := Lib.hid hs
  have HR := Lib.hid hr
  have HF := Lib.hid hf
  obtain ⟨W, hW⟩ : ∃ W, W = (w.alloc (.cells (rbC A nl c target hold up down) 65)).alloc (.cells #[.slice none 0 0, .int .i64 0, .int .i64 0, .int .i64 0, .int .i64 0] 65) := ⟨_, rfl⟩
  have HB := Lib.hid (show Below w.heap.size w W by rw [hW]; exact bl_alloc (bl_alloc (Below.refl w.heap.size w) _) _)
  have HO := Lib.hid (show Obj1 W w.heap.size (rbC A nl c target hold up down) 65 by rw [hW]; exact (Obj1.new w _ _).alloc _)
  have HZ := Lib.hid (show Obj1 W (w.heap.size + 1) #[.slice none 0 0, .int .i64 0, .int .i64 0, .int .i64 0, .int .i64 0] 65 by
    rw [hW]
    have := Obj1.new (w.alloc (.cells (rbC A nl c target hold up down) 65)) #[.slice none 0 0, .int .i64 0, .int .i64 0, .int .i64 0, .int .i64 0] 65
    rwa [World.size_alloc] at this)
  have HW := Lib.hid hW
  clear hW h hs hr hf
  go_enter Try.func30, Try.ntmps30
  go_upto_region 1 with (fail)
  rw [← HW.out]
  clear HW
  go_wp2_with (refine load_obj rfl 65 (.tmp 3) rfl w.heap.size 65 (rbC A nl c target hold up down) _ rfl HO.out Try.underlying65 rfl rfl ?_)
  refine (rflows_w target hold up down A A1 nl c n c1 nb lo ls ks hnl hnb _ (HS.out.below HB.out) (HI.out.below HB.out) HR.out).mono ?_
  rw [HF.out]
  rintro e w2 ⟨rfl, hb2⟩
  have HB2 := Lib.hid (bl_next HB.out hb2)
  have HO2 := Lib.hid (HO.out.below hb2)
  have HZ2 := Lib.hid (HZ.out.below hb2)
  clear hb2 HB HO HZ
  go_wp2_with (first
    | (refine load_obj rfl 65 (.tmp 3) rfl w.heap.size 65 (rbC A nl c target hold up down) _ rfl HO2.out Try.underlying65 rfl rfl ?_)
    | (refine store_obj rfl 65 (.tmp 6) (.tmp 14) rfl (w.heap.size + 1) 65 _ (rbC A nl c target hold up down) rfl rfl HZ2.out rfl rfl (by simp [rbC, Value.oneCell']) ?_; intro w6 ho6 hu6; have HZ6 := Lib.hid ho6; have HB6 := Lib.hid (bl_upd HB2.out hu6 (by omega)); clear ho6 hu6))
  refine bodyPost_ret (results_cell_row rfl _ _ (w.heap.size + 1) 65 (rbC A nl c target hold up down) (0, 0) _ rfl HZ6.out Try.underlying65 rfl rfl) rfl ?_
  exact ⟨rfl, HB6.out⟩
end Go.Proofs.Ytcgabjjdffcjbaa
