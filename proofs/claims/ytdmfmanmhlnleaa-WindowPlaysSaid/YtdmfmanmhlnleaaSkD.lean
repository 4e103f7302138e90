/- New sketches; their slots, totals; one slot; all is forgotten. -/
import Derived.Test.YtdmfmanmhlnleaaSkC
import Derived.Lib.SliceRun
import Derived.Laws.Rows
namespace Go.Proofs.Ytdmfmanmhlnleaa
open Go.RowKit
set_option linter.unusedVariables false
set_option linter.unusedSimpArgs false

def skNew (n : Nat) : Sk := ⟨[], n, 0⟩
theorem skNew_ok {n : Nat} (hn : 1 ≤ n ∧ n ≤ 64) : okSk (skNew n) := ⟨hn, Nat.zero_le _, fun x hx => by simp [skNew] at hx, ⟨Int.le_refl 0, show (0 : Int) ≤ 4611686018427387904 by decide⟩⟩

theorem skNewBad_w (n : Int) (h : n < 1 ∨ 64 < n) (w : World) : Calls Try.prog 13 #[.int .i64 n] w fun e w' => e = .returned (.tuple #[.pointer none, .int .i64 1]) ∧ Below w.heap.size w w' := by
  by_cases h1 : n < 1
  · clear h
    go_enter Try.func13, Try.ntmps13
    go_wp2
    go_ret2
    exact ⟨rfl, Below.refl _ _⟩
  · have h2 : 64 < n := by omega
    clear h
    go_enter Try.func13, Try.ntmps13
    go_wp2
    go_ret2
    exact ⟨rfl, Below.refl _ _⟩

set_option maxHeartbeats 1000000 in
theorem skNew_w (n : Nat) (hn : 1 ≤ n ∧ n ≤ 64) (w : World) :
    Calls Try.prog 13 #[.int .i64 n] w fun e w' => ∃ S L, e = .returned (.tuple #[.pointer (some ⟨S, 0, none⟩), .int .i64 0]) ∧ w.heap.size ≤ L ∧ L < S ∧ SkO w' S L 0 (skNew n) ∧ Below w.heap.size w w' := by
  have hinfo : (Try.prog.info? 32).map (fun i => (i.zero, i.size, i.bytes)) = some (some (.agg #[.bool false, .int .u8 0, .int .u8 0, .int .u8 0, .int .u8 0, .int .u8 0, .int .u8 0, .int .u8 0, .int .i64 0, .int .i64 0]), 10, 24) := by kernel_rfl
  obtain ⟨i0, hi, hzz⟩ := Option.map_eq_some_iff.1 hinfo
  simp only [Prod.mk.injEq] at hzz
  obtain ⟨hz0, hz1, hz2⟩ := hzz
  have HI := Lib.hid hi
  have HZ0 := Lib.hid hz0
  have HZ1 := Lib.hid hz1
  have HB2 := Lib.hid (show i0.bytes * n ≤ 281474976710656 by rw [hz2]; omega)
  have n1 : ¬ (n : Int) < 1 := by omega
  have n2 : ¬ (64 : Int) < (n : Int) := by omega
  have hmx : n ≤ maxLen := by unfold maxLen; omega
  clear hinfo hi hz0 hz1 hz2
  go_enter Try.func13, Try.ntmps13
  go_wp2_with (refine wpList_make_own _ rfl (.const (.int .i64 0)) (.tmp 10) 36 rfl w.heap.size 32 i0 _ 10 Try.underlying36 HI.out HZ0.out HZ1.out .i64 .i64 n n rfl rfl rfl HB2.out hmx (Nat.le_refl _) ?_; intro w1 hown hg; have HOWN := Lib.hid hown; have HG := Lib.hid hg; clear hown hg)
  go_ret2
  have hR := RoomO.of HOWN.out
  have hb : Below w.heap.size w w1 := (Below.refl w.heap.size w).grown HG.out (Nat.le_refl _) (fun k hk => by cases hk)
  have hlt := hR.lt
  refine ⟨_, rfl, _, Nat.le_refl _, hlt, ⟨rfl, ?_, ?_⟩, bl_alloc hb _⟩
  · exact Obj1.new w1 #[.slice (some ⟨w.heap.size, 0, none⟩) 0 n, .int .i64 0] 77
  · exact hR.below (bl_alloc (Below.refl _ _) _)

theorem own_room {w : World} {B : Nat} {e : TypeId} {sz : Nat} {v : Value} {n : Nat} {xs : List Value} (h : w.ownsRow B e sz v n xs) : (n = 0 ∧ v = .slice none 0 0 ∧ xs = []) ∨ ∃ g cap, v = .slice (some ⟨g, 0, none⟩) n cap ∧ B ≤ g ∧ cap ≤ 9223372036854775807 ∧ RoomO w g n cap sz xs e := by
  rcases h.2 with ⟨rfl, h0⟩ | ⟨g, cap, cur, rfl, hb, _, _, hm, _⟩
  · subst h0
    exact .inl ⟨rfl, rfl, List.eq_nil_of_length_eq_zero (by simpa using h.1)⟩
  · exact .inr ⟨g, cap, rfl, hb, hm, RoomO.of h⟩
theorem RoomO.rd {w : World} {L n cap sz : Nat} {xs : List Value} {t : TypeId} (h : RoomO w L n cap sz xs t) : Rd w (some ⟨L, 0, none⟩) xs := fun j v hj => ⟨_, rfl, by rw [add_flat, Nat.zero_add]; exact h.cell hj⟩
theorem slosC_one (l : List Slo) : ∀ v ∈ slosC l, v.oneCell' = true := by
  intro v hv
  simp only [slosC, List.mem_flatten, List.mem_map] at hv
  obtain ⟨_, ⟨s, _, rfl⟩, hv⟩ := hv
  exact sloC_one s v hv

set_option maxHeartbeats 1000000 in
theorem sclone_w (L n cap : Nat) (l : List Slo) (w : World) (h : RoomO w L n cap 10 (slosC l) 32) (hcap : cap ≤ 64) :
    Calls Try.prog 38 #[.slice (some ⟨L, 0, none⟩) n cap] w fun e w' => ∃ v, e = .returned v ∧ w'.ownsRow w.heap.size 32 10 v n (slosC l) ∧ Below w.heap.size w w' := by
  have hn : n ≤ 64 := Nat.le_trans h.2.1 hcap
  have hz := World.ownsRow_lit (base := w.heap.size) (e := 32) (size := 10) w #[] 0 (Nat.le_refl _) (by simp [maxLen]) rfl
  have hb := bl_alloc (Below.refl w.heap.size w) (.cells #[] 32)
  have HZ := Lib.hid hz
  have HB := Lib.hid hb
  have HS := Lib.hid (h.below hb)
  have hnil : ∀ W : World, (binOp .eql 36 (.slice (some ⟨L, 0, none⟩) n cap) (.slice none 0 0)).run Try.prog W = .ok (.bool false) W := fun W => Lib.run_eql_slice_nil W _ 32 (some ⟨L, 0, none⟩) n cap 0 0 Try.underlying36
  clear h hz hb
  go_enter Try.func38, Try.ntmps38
  go_wp2_with (at_builtin; refine app_list w.heap.size rfl (.tmp 5) (.tmp 6) 36 32 (.agg #[.bool false, .int .u8 0, .int .u8 0, .int .u8 0, .int .u8 0, .int .u8 0, .int .u8 0, .int .u8 0, .int .i64 0, .int .i64 0]) 10 24 rfl Try.underlying36 (by kernel_rfl) (by simp [Value.cells]) (by omega) (by omega) _ 0 [] (some ⟨L, 0, none⟩) n cap (slosC l) rfl rfl HZ.out HS.out.1 HS.out.rd (slosC_one l) (by omega) (by simp) ?_; intro v1 w6 hown6 hg6; have HO := Lib.hid hown6; have HG := Lib.hid hg6; clear hown6 hg6)
  go_ret
  have ho := HO.out
  rw [Nat.zero_add, List.nil_append] at ho
  exact ⟨_, rfl, ho, bl_grown HB.out HZ.out HG.out (Nat.le_refl _)⟩

set_option maxHeartbeats 1000000 in
theorem skSlots_w (S L n : Nat) (s : Sk) (hsk : okSk s) (w : World) (h : SkO w S L n s) :
    Calls Try.prog 15 #[.pointer (some ⟨S, 0, none⟩)] w fun e w' => ∃ v, e = .returned v ∧ w'.ownsRow w.heap.size 32 10 v n (slosC s.l) ∧ Below w.heap.size w w' := by
  have c0 : w.cell? ⟨S, 0, none⟩ = some (.slice (some ⟨L, 0, none⟩) n s.room) := h.2.1.cell 0
  have HR := Lib.hid h.2.2
  have hcap := hsk.1.2
  clear h
  go_enter Try.func15, Try.ntmps15
  go_wp2_with fail
  refine (sclone_w L n s.room s.l _ HR.out hcap).mono ?_
  rintro e w2 ⟨v, rfl, ho, hb2⟩
  have HO := Lib.hid ho
  have HB2 := Lib.hid hb2
  clear ho hb2
  go_wp2
  go_ret
  exact ⟨_, rfl, HO.out, HB2.out⟩

theorem skTotal_w (S L n : Nat) (s : Sk) (w : World) (h : SkO w S L n s) :
    Calls Try.prog 17 #[.pointer (some ⟨S, 0, none⟩)] w fun e w' => e = .returned (.int .i64 s.total) ∧ w = w' := by
  have c0 : w.cell? ⟨S, 1, none⟩ = some (.int .i64 s.total) := h.2.1.cell 1
  clear h
  go_enter Try.func17, Try.ntmps17
  go_wp2
  go_ret
  exact ⟨rfl, rfl⟩

theorem skReset_w (S L n : Nat) (s : Sk) (w : World) (h : SkO w S L n s) :
    Calls Try.prog 24 #[.pointer (some ⟨S, 0, none⟩)] w fun e w' => e = .returned (.tuple #[]) ∧ SkO w' S L 0 { s with l := [], total := 0 } ∧ Upd2 S L w w' := by
  have c0 : w.cell? ⟨S, 0, none⟩ = some (.slice (some ⟨L, 0, none⟩) n s.room) := h.2.1.cell 0
  have f0 : w.frozen? ⟨S, 0, none⟩ = false := h.2.1.free 0
  have c1 : w.cell? ⟨S, 1, none⟩ = some (.int .i64 s.total) := h.2.1.cell 1
  have f1 : w.frozen? ⟨S, 1, none⟩ = false := h.2.1.free 1
  have H := Lib.hid h
  clear h
  go_enter Try.func24, Try.ntmps24
  go_wp2
  go_end0
  have hu := ((Upd.refl S w).set 0 (.slice (some ⟨L, 0, none⟩) 0 s.room)).set 1 (.int .i64 0)
  have hSL := H.out.ne
  refine ⟨rfl, ⟨rfl, (H.out.2.1.set 0 (.slice (some ⟨L, 0, none⟩) 0 s.room)).set 1 (.int .i64 0), ?_⟩, Upd2.of1 hu⟩
  have hc := H.out.2.2.cut 0 (Nat.zero_le _)
  exact hc.grown hu (by simp; omega)
end Go.Proofs.Ytdmfmanmhlnleaa
