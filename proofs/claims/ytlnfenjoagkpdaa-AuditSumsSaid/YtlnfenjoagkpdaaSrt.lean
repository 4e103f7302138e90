/- slices.Sort at []int64, by the shelf's contract: an own row holds the same numbers, sorted. -/
import Derived.Shelf.SortM.Plain
import Derived.Shelf.SortM.SortNone
import Derived.Ground.SlgmProg
import Derived.Lib.SortBridge
import Derived.Test.YtlnfenjoagkpdaaAuB
namespace Go.Proofs.Ytlnfenjoagkpdaa
open Go.RowKit Go.Shelf Go.Sort
set_option linter.unusedVariables false
set_option linter.unusedSimpArgs false

def srt_ren : Go.Shelf.Ren := ⟨fun | 5 => 42 | 8 => 45 | 7 => 44 | 19 => 55 | 20 => 56 | 10 => 46 | 11 => 47 | 12 => 48 | 13 => 49 | 14 => 50 | 15 => 51 | 16 => 52 | 17 => 53 | 18 => 54 | 30 => 57 | 31 => 58 | 32 => 59 | 33 => 60 | 34 => 61 | 35 => 62 | 40 => 63 | n => n, fun | 23 => 58 | 25 => 2 | 3 => 3 | 32 => 91 | 22 => 58 | 0 => 0 | 44 => 101 | 46 => 85 | 4 => 4 | 36 => 94 | 35 => 93 | 41 => 34 | 5 => 5 | 9 => 9 | 53 => 103 | 57 => 107 | 63 => 110 | 64 => 111 | n => n, fun | n => n⟩
theorem srt : Go.Proofs.SlLaysM.n5 Try.prog srt_ren := {
  mixed := by kernel_rfl
  f5 := ⟨Try.f42.name, by decide, Try.func42.trans (congrArg some (by kernel_rfl))⟩
  f7 := ⟨Try.f44.name, by decide, Try.func44.trans (congrArg some (by kernel_rfl))⟩
  f8 := Try.func45.trans (congrArg some (by kernel_rfl))
  f10 := ⟨Try.f46.name, by decide, Try.func46.trans (congrArg some (by kernel_rfl))⟩
  f11 := ⟨Try.f47.name, by decide, Try.func47.trans (congrArg some (by kernel_rfl))⟩
  f12 := ⟨Try.f48.name, by decide, Try.func48.trans (congrArg some (by kernel_rfl))⟩
  f13 := ⟨Try.f49.name, by decide, Try.func49.trans (congrArg some (by kernel_rfl))⟩
  f14 := ⟨Try.f50.name, by decide, Try.func50.trans (congrArg some (by kernel_rfl))⟩
  f15 := ⟨Try.f51.name, by decide, Try.func51.trans (congrArg some (by kernel_rfl))⟩
  f16 := ⟨Try.f52.name, by decide, Try.func52.trans (congrArg some (by kernel_rfl))⟩
  f17 := ⟨Try.f53.name, by decide, Try.func53.trans (congrArg some (by kernel_rfl))⟩
  f18 := ⟨Try.f54.name, by decide, Try.func54.trans (congrArg some (by kernel_rfl))⟩
  f19 := Try.func55.trans (congrArg some (by kernel_rfl))
  f20 := Try.func56.trans (congrArg some (by kernel_rfl))
  f30 := ⟨Try.f57.name, by decide, Try.func57.trans (congrArg some (by kernel_rfl))⟩
  f31 := Try.func58.trans (congrArg some (by kernel_rfl))
  f32 := Try.func59.trans (congrArg some (by kernel_rfl))
  f33 := ⟨Try.f60.name, by decide, Try.func60.trans (congrArg some (by kernel_rfl))⟩
  f34 := ⟨Try.f61.name, by decide, Try.func61.trans (congrArg some (by kernel_rfl))⟩
  f35 := ⟨Try.f62.name, by decide, Try.func62.trans (congrArg some (by kernel_rfl))⟩
  f40 := ⟨Try.f63.name, by decide, Try.func63.trans (congrArg some (by kernel_rfl))⟩
  t0 := Try.underlying0
  a0 := Try.isAgg0
  z0 := Try.sizeOf0
  v0 := Try.zeroValue0
  t3 := Try.underlying3
  a3 := Try.isAgg3
  z3 := Try.sizeOf3
  v3 := Try.zeroValue3
  t4 := Try.underlying4
  a4 := Try.isAgg4
  z4 := Try.sizeOf4
  v4 := Try.zeroValue4
  t5 := Try.underlying5
  a5 := Try.isAgg5
  z5 := Try.sizeOf5
  v5 := Try.zeroValue5
  t9 := Try.underlying9
  a9 := Try.isAgg9
  z9 := Try.sizeOf9
  v9 := Try.zeroValue9
  t22 := Try.underlying58
  a22 := Try.isAgg58
  z22 := Try.sizeOf58
  v22 := Try.zeroValue58
  t23 := Try.underlying58
  a23 := Try.isAgg58
  z23 := Try.sizeOf58
  v23 := Try.zeroValue58
  t25 := Try.underlying2
  a25 := Try.isAgg2
  z25 := Try.sizeOf2
  v25 := Try.zeroValue2
  t32 := Try.underlying91
  a32 := Try.isAgg91
  z32 := Try.sizeOf91
  v32 := Try.zeroValue91
  t35 := Try.underlying93
  a35 := Try.isAgg93
  z35 := Try.sizeOf93
  v35 := Try.zeroValue93
  t36 := Try.underlying94
  a36 := Try.isAgg94
  z36 := Try.sizeOf94
  v36 := Try.zeroValue94
  t41 := Try.underlying34
  a41 := Try.isAgg34
  z41 := Try.sizeOf34
  v41 := Try.zeroValue34
  t44 := Try.underlying101
  a44 := Try.isAgg101
  z44 := Try.sizeOf101
  v44 := Try.zeroValue101
  t46 := Try.underlying85
  a46 := Try.isAgg85
  z46 := Try.sizeOf85
  v46 := Try.zeroValue85
  t53 := Try.underlying103
  a53 := Try.isAgg103
  z53 := Try.sizeOf103
  v53 := Try.zeroValue103
  t57 := Try.underlying107
  a57 := Try.isAgg107
  z57 := Try.sizeOf107
  v57 := Try.zeroValue107
  t63 := Try.underlying110
  a63 := Try.isAgg110
  z63 := Try.sizeOf110
  v63 := Try.zeroValue110
  t64 := Try.underlying111
  a64 := Try.isAgg111
  z64 := Try.sizeOf111
  v64 := Try.zeroValue111 }

def sortI (l : List Int) : List Int := l.mergeSort fun x y => decide (x ≤ y)
theorem sortI_length (l : List Int) : (sortI l).length = l.length := List.length_mergeSort l
theorem sortI_perm (l : List Int) : (sortI l).Perm l := List.mergeSort_perm l _
theorem sortI_le (l : List Int) : (sortI l).Pairwise (· ≤ ·) := by
  have h := List.pairwise_mergeSort (le := fun x y : Int => decide (x ≤ y)) (fun a b c h1 h2 => by simp at *; omega) (fun a b => by simp; omega) l
  exact h.imp (fun h => by simpa using h)
theorem sort_w (base n : Nat) (l : List Int) (v : Value) (w : World) (h : w.ownsRow base 2 1 v n (vals l)) (hn : n ≤ 1000000) :
    Calls Try.prog 42 #[v] w fun e w' => e = .returned (.tuple #[]) ∧ w'.ownsRow base 2 1 v n (vals (sortI l)) ∧ w.grownBy w' v.ownBlock := by
  have hl : l.length = n := by have := h.1; simpa [vals] using this
  rcases own_room h with ⟨rfl, rfl, hx⟩ | ⟨g, cap, rfl, hb, hm, hr⟩
  · refine (AnyM.slices_Sort_int_none srt none 0 w).mono ?_
    rintro e w' ⟨rfl, rfl⟩
    have hl0 : l = [] := List.eq_nil_of_length_eq_zero hl
    subst hl0
    have e0 : sortI [] = [] := List.eq_nil_of_length_eq_zero (sortI_length [])
    rw [e0]
    exact ⟨rfl, h, rfl, rfl, rfl, Nat.le_refl _, fun _ _ _ => rfl⟩
  · have hc : ∀ j, j < l.length → w.cell? ⟨g, 0 + j, none⟩ = some (.int .i64 (l.getD j 0)) := fun j hj => by
      rw [Nat.zero_add]
      exact hr.cell (vals_at l j hj)
    have hH := Lib.holds_of_ints (Nat.le_refl l.length) hc (fun j hj => by rw [Nat.zero_add]; exact hr.free j)
    rw [List.take_length] at hH
    have hcon := AnyM.slices_Sort_int srt g 0 cap l w hH hr.lt (by omega)
    rw [hl] at hcon
    refine hcon.mono ?_
    rintro e w' ⟨rfl, q, os, hw⟩
    have hsz : (l.mergeSort fun x y => decide (x ≤ y)).length = l.toArray.size := by simp
    rw [Lib.sorted_world (Value.int .i64) w g 0 q l.toArray _ os hH hsz] at hw
    have hv : (l.mergeSort fun x y => decide (x ≤ y)).map (Value.int .i64) = vals (sortI l) := rfl
    rw [hv] at hw
    have hr1 : RoomO (w.drewN q) g n cap 1 (vals l) 2 := hr
    obtain ⟨h1, h2⟩ := hr1.midAt (i := 0) (cs := vals (sortI l)) (by simp [vals, sortI_length, hl])
    have e1 : (vals l).take 0 ++ (vals (sortI l) ++ (vals l).drop (0 + (vals (sortI l)).length)) = vals (sortI l) := by
      rw [List.drop_eq_nil_of_le (by simp [vals, sortI_length]), List.append_nil]
      rfl
    rw [e1] at h1
    have hgr : Below ((w.drewN q).setCells g 0 (vals (sortI l))).heap.size ((w.drewN q).setCells g 0 (vals (sortI l))) (grow ((w.drewN q).setCells g 0 (vals (sortI l))) os) :=
      ⟨rfl, rfl, rfl, by simp [grow], fun k hk => heap_grow_old _ os hk⟩
    have h3 := (h1.below hgr).own hm
    have h4 : Upd g w w' := by
      rw [hw]
      exact (((Upd.refl g w).drewN q).trans h2).next hgr
    rw [hw]
    rw [hw] at h4
    exact ⟨rfl, ⟨h3.1, h3.2.imp id (fun ⟨g', cap', cur, a, b, c⟩ => ⟨g', cap', cur, a, (by
      simp only [Value.slice.injEq, Option.some.injEq, Addr.mk.injEq] at a
      omega), c⟩)⟩, h4⟩
end Go.Proofs.Ytlnfenjoagkpdaa
