/- Sleep; the first one becomes the last one; New; what heads a class. -/
import Derived.Test.YtlnfenjoagkpdaaTuB
import Derived.Laws.IdiomCopy
namespace Go.Proofs.Ytlnfenjoagkpdaa
open Go.RowKit
set_option linter.unusedVariables false
set_option linter.unusedSimpArgs false

/-- Behind a falling asleep. -/
def tnSleep (t : Tn) (c : Nat) : Tn := ⟨t.q, t.l.set c ⟨false, false, 0⟩, t.line.eraseIdx (t.line.idxOf c)⟩
set_option maxRecDepth 100000 in
set_option maxHeartbeats 2000000 in
theorem sleepYes_w (T C L N m : Nat) (t : Tn) (hok : okTn t) (c : Nat) (hc : c ∈ t.line) (w : World) (h : TnO w T C L N m t) :
    Calls Try.prog 18 #[.pointer (some ⟨T, 0, none⟩), .int .i64 c] w fun e w' => e = .returned (.bool true) ∧ TnO w' T C L N (m - 1) (tnSleep t c) ∧ Upd3 T C L w w' := by
  obtain ⟨x, hx, haw⟩ := (hok.2.2.1 c).1 hc
  have hcN : c < N := by rw [← h.1.1]; exact (List.getElem?_eq_some_iff.1 hx).1
  have hN129 : N ≤ 129 := by rw [← h.1.1]; exact hok.1.2
  have c1 : w.cell? ⟨T, 1, none⟩ = some (.slice (some ⟨C, 0, none⟩) N N) := h.2.1.cell 1
  have r0 : w.cell? ⟨C, c * 3, none⟩ = some (.bool true) := by rw [← haw]; exact (h.cl hx).1
  have k0 : (0 : Int) ≤ (c : Int) := Int.natCast_nonneg c
  have k1 : (c : Int) < (N : Int) := by omega
  have HD := Lib.hid (show hasB N (c : Int) = true from decide_eq_true ⟨k0, k1⟩)
  have H := Lib.hid h
  have HNE := Lib.hid h.ne
  have HC := Lib.hid hc
  obtain ⟨k, hk⟩ : ∃ k, t.line.idxOf c = k := ⟨_, rfl⟩
  have hkm : k < m := by rw [← hk, ← h.1.2]; exact List.idxOf_lt_length_of_mem hc
  have hmN : m ≤ N := h.2.2.2.2.1
  obtain ⟨j, hj⟩ : ∃ j, j = k + 1 := ⟨_, rfl⟩
  have a1 : IntKind.i64.wrap ((k : Int) + 1) = (j : Int) := by rw [show (k : Int) + 1 = (j : Int) by omega]; exact IntWalk.i64_in _ (by omega)
  have HK := Lib.hid hk
  have HJ := Lib.hid hj
  clear h hx haw hc hk hj
  go_enter Try.func18, Try.ntmps18
  go_wp2_with fail
  refine (has_w T C L N m t c _ H.out).mono ?_
  rintro e w' ⟨rfl, rfl⟩
  rw [HD.out]
  go_wp2_with (refine store_rowAt rfl 74 (.tmp 27) (.tmp 26) rfl C N N 3 (c * 3) (clsC t.l) 74 H.out.2.2.1 (clC ⟨false, false, 0⟩) (by rw [clC_length]; omega) rfl rfl rfl (clC_one _) ?_; intro w2 hr2 hu2; have HR2 := Lib.hid hr2; have HU2 := Lib.hid hu2; have HT2 := Lib.hid (H.out.2.1.of_grown hu2 (by have := HNE.out; simp; omega)); have HL2 := Lib.hid (H.out.2.2.2.grown hu2 (by have := HNE.out; simp; omega)); clear hr2 hu2; have c2 : w2.cell? ⟨T, 2, none⟩ = some (.slice (some ⟨L, 0, none⟩) m N) := HT2.out.cell 2)
  refine (iindex_w L m N t.line c HC.out _ HL2.out H.out.1.2 hN129).mono ?_
  rintro e w' ⟨rfl, rfl⟩
  rw [HK.out]
  go_wp2_with fail
  refine (idelete_w L m N k j t.line H.out.1.2 hkm HJ.out hN129 _ HL2.out).mono ?_
  rintro e w3 ⟨rfl, hr3, hu3⟩
  have HL3 := Lib.hid hr3
  have HT3 := Lib.hid (HT2.out.of_grown hu3 (by have := HNE.out; simp; omega))
  have HC3 := Lib.hid (HR2.out.grown hu3 (by have := HNE.out; simp; omega))
  have HU3 := Lib.hid (show Upd3 T C L w w3 from (Upd3.of2 HU2.out).trans (Upd3.of3 hu3))
  clear hr3 hu3 c2
  obtain ⟨m1, hm1⟩ : ∃ m1, m1 = m - 1 := ⟨_, rfl⟩
  rw [← hm1] at HL3 ⊢
  have HM1 := Lib.hid hm1
  clear hm1
  have c3 : w3.cell? ⟨T, 2, none⟩ = some (.slice (some ⟨L, 0, none⟩) m N) := HT3.out.cell 2
  have f3 : w3.frozen? ⟨T, 2, none⟩ = false := HT3.out.free 2
  go_wp2
  go_ret
  have hu := (Upd.refl T w3).set 2 (.slice (some ⟨L, 0, none⟩) m1 N)
  refine ⟨rfl, ?_, HU3.out.trans (Upd3.of1 hu)⟩
  rw [← HM1.out]
  refine ⟨⟨?_, ?_⟩, HT3.out.set 2 _, ?_, ?_⟩
  · show (t.l.set c _).length = N
    rw [List.length_set]
    exact H.out.1.1
  · show (t.line.eraseIdx (t.line.idxOf c)).length = m1
    rw [HK.out, List.length_eraseIdx, if_pos (by rw [H.out.1.2]; exact hkm), H.out.1.2, HM1.out]
  · show RoomO _ C N N 3 (clsC (t.l.set c ⟨false, false, 0⟩)) _
    rw [clsC_set _ (by rw [H.out.1.1]; exact hcN)]
    exact HC3.out.grown hu (by have := HNE.out; simp; omega)
  · show RoomO _ L m1 N 1 (lineV (t.line.eraseIdx (t.line.idxOf c))) _
    rw [HK.out]
    exact HL3.out.grown hu (by have := HNE.out; simp; omega)
theorem sleepNo_w (T C L N m : Nat) (t : Tn) (c : Int) (hno : ¬ (0 ≤ c ∧ c < (N : Int)) ∨ ∃ x, t.l[c.toNat]? = some x ∧ x.aw = false) (hN129 : N ≤ 129) (w : World) (h : TnO w T C L N m t) :
    Calls Try.prog 18 #[.pointer (some ⟨T, 0, none⟩), .int .i64 c] w fun e w' => e = .returned (.bool false) ∧ w = w' := by
  have H := Lib.hid h
  by_cases hh : 0 ≤ c ∧ c < (N : Int)
  · obtain ⟨k, rfl⟩ := Int.eq_ofNat_of_zero_le hh.1
    obtain ⟨x, hx, haw⟩ : ∃ x, t.l[k]? = some x ∧ x.aw = false := by
      rcases hno with h' | h'
      · exact absurd hh h'
      · simpa using h'
    have HD := Lib.hid (show hasB N (k : Int) = true from decide_eq_true hh)
    have c1 : w.cell? ⟨T, 1, none⟩ = some (.slice (some ⟨C, 0, none⟩) N N) := h.2.1.cell 1
    have r0 : w.cell? ⟨C, k * 3, none⟩ = some (.bool false) := by rw [← haw]; exact (h.cl hx).1
    have k0 : (0 : Int) ≤ (k : Int) := hh.1
    have k1 : (k : Int) < (N : Int) := hh.2
    clear h hno hx haw hh
    go_enter Try.func18, Try.ntmps18
    go_wp2_with fail
    refine (has_w T C L N m t k _ H.out).mono ?_
    rintro e w' ⟨rfl, rfl⟩
    rw [HD.out]
    go_wp2
    go_ret
    exact ⟨rfl, rfl⟩
  · have HD := Lib.hid (show hasB N c = false from decide_eq_false hh)
    clear h hno hh
    go_enter Try.func18, Try.ntmps18
    go_wp2_with fail
    refine (has_w T C L N m t c _ H.out).mono ?_
    rintro e w' ⟨rfl, rfl⟩
    rw [HD.out]
    go_wp2
    go_ret
    exact ⟨rfl, rfl⟩

section
variable {P : Program} {o : Oper} {a : Act} {Q : Exit → Act → World → Prop} {w : World}
theorem wp_copyC {K : Act → World → Prop} (d s : Operand) (dT sT elem : TypeId) (ho : o.op = .call { callee := .builtin .copy, args := #[d, s], argTypes := #[dT, sT] }) (hu : P.underlying dT = some (.slice elem)) (hsz : (P.info? elem).map (·.size) = some 1)
    (b dLen dCap : Nat) (ad : Addr) (sLen sCap : Nat) (hd : a.eval d = .slice (some ⟨b, 0, none⟩) dLen dCap) (hs : a.eval s = .slice (some ad) sLen sCap) (cs : List Value) (hn : cs.length = Nat.min sLen dLen)
    (hsrc : ∀ j v, cs[j]? = some v → w.cell? (ad.add j) = some v) (ht : w.there b 0 cs.length) (h1 : ∀ v ∈ cs, v.oneCell' = true) (h : K (a.put o.dst (goInt cs.length)) (w.setCells b 0 cs)) : o.wp P a w K Q := by
  have hr := run_copy_cells (P := P) w dT sT o.type elem b 0 dLen dCap ad sLen sCap cs hu hsz hn hsrc (fun j hj => (ht j hj).1) (fun j hj => (ht j hj).2) h1
  unfold Oper.wp execOp
  simp only [ho, resolve, invoke, builtin, Sem.run_bind, Sem.run_pure, Result.andThen_ok, List.map_toArray, List.map_cons, List.map_nil, hd, hs, hr]
  exact h
end
/-- The first one has become the last one. -/
def tnLast (t : Tn) (c : Nat) (rest : List Nat) (x : Cl) : Tn := ⟨t.q, t.l.set c { x with fr := true }, rest ++ [c]⟩
theorem clsC_one {l : List Cl} {k : Nat} {x y : Cl} {q : Nat} {v : Value} (hk : l[k]? = some x) (hq : q < 3) (hc : clC y = (clC x).set q v) : clsC (l.set k y) = (clsC l).set (k * 3 + q) v := by
  have hlt := (List.getElem?_eq_some_iff.1 hk).1
  have e : clsC l = clsC (l.take k) ++ (clC x ++ clsC (l.drop (k + 1))) := by
    have : l = l.take k ++ x :: l.drop (k + 1) := by
      rw [← (List.getElem?_eq_some_iff.1 hk).2, List.getElem_cons_drop, List.take_append_drop]
    conv => lhs; rw [this]
    rw [clsC_append, clsC_cons]
  have hl : (clsC (l.take k)).length = k * 3 := by rw [clsC_length, List.length_take, Nat.min_eq_left (by omega)]
  rw [List.set_eq_take_append_cons_drop, if_pos hlt, clsC_append, clsC_cons, hc, e, List.set_append, if_neg (by rw [hl]; omega), hl, show k * 3 + q - k * 3 = q by omega, List.set_append, if_pos (by rw [clC_length]; exact hq)]

set_option maxRecDepth 100000 in
set_option maxHeartbeats 4000000 in
theorem last_w (T C L N m : Nat) (t : Tn) (c : Nat) (rest : List Nat) (hline : t.line = c :: rest) (x : Cl) (hx : t.l[c]? = some x) (hN129 : N ≤ 129) (w : World) (h : TnO w T C L N m t) :
    Calls Try.prog 33 #[.pointer (some ⟨T, 0, none⟩)] w fun e w' => e = .returned (.tuple #[]) ∧ TnO w' T C L N m (tnLast t c rest x) ∧ Upd3 T C L w w' := by
  have hm : rest.length + 1 = m := by rw [← h.1.2, hline]; rfl
  have hmN : m ≤ N := h.2.2.2.2.1
  have hcN : c < N := by rw [← h.1.1]; exact (List.getElem?_eq_some_iff.1 hx).1
  have hL : RoomO w L m N 1 (lineV (c :: rest)) 3 := by rw [← hline]; exact h.2.2.2
  have c2 : w.cell? ⟨T, 2, none⟩ = some (.slice (some ⟨L, 0, none⟩) m N) := h.2.1.cell 2
  have r0 : w.cell? ⟨L, 0, none⟩ = some (.int .i64 (c : Int)) := hL.cell (j := 0) rfl
  obtain ⟨mm, hmm⟩ : ∃ mm, mm = m - 1 := ⟨_, rfl⟩
  have a1 : IntKind.i64.wrap ((m : Int) - 1) = (mm : Int) := by rw [show (m : Int) - 1 = (mm : Int) by omega]; exact IntWalk.i64_in _ (by omega)
  have i0 : (0 : Int) < (m : Int) := by omega
  have i1 : (1 : Int) ≤ (m : Int) := by omega
  have i2 : (mm : Int) < (m : Int) := by omega
  have i3 : (0 : Int) ≤ (mm : Int) := by omega
  have k0 : (0 : Int) ≤ (c : Int) := Int.natCast_nonneg c
  have k1 : (c : Int) < (N : Int) := by omega
  have hcl : (lineV rest).length = m - 1 := by rw [lineV_length]; omega
  obtain ⟨A, hA, hsrc⟩ : ∃ A : Addr, (if N = 1 then some (⟨L, 0, none⟩ : Addr) else some ⟨L, 1, none⟩) = some A ∧ (∀ (W : World), RoomO W L m N 1 (lineV (c :: rest)) 3 → ∀ (t : Nat) (u : Value), (lineV rest)[t]? = some u → W.cell? (A.add t) = some u) := by
    by_cases hq : N = 1
    · refine ⟨⟨L, 0, none⟩, by simp [hq], fun W hW t u hu => ?_⟩
      have h0 : (lineV rest).length = 0 := by rw [hcl]; omega
      rw [List.length_eq_zero_iff.1 h0] at hu
      simp at hu
    · refine ⟨⟨L, 1, none⟩, by simp [hq], fun W hW t u hu => ?_⟩
      rw [add_flat]
      refine hW.cell ?_
      rw [Nat.add_comm]
      exact hu
  have hN1 : 1 ≤ N := by omega
  have H := Lib.hid h
  have HNE := Lib.hid h.ne
  have HLL := Lib.hid hL
  have HSRC := Lib.hid hsrc
  have HMM := Lib.hid hmm
  have HM := Lib.hid hm
  have HCL := Lib.hid hcl
  have HX := Lib.hid hx
  clear h hL hsrc hmm hm hcl hx hline
  go_enter Try.func33, Try.ntmps33
  go_wp2_with fail
  refine wp_region_held_drew (S := (fun w' => w'.cell? ⟨T, 2, none⟩ = some (.slice (some ⟨L, 0, none⟩) m N))) (by kernel_rfl) (c2) (fun hHeld => ?_)
  generalize hW0 : World.drew _ = W0 at hHeld ⊢
  have HT0 := Lib.hid (show Obj1 W0 T _ _ by rw [← hW0]; exact H.out.2.1)
  have HC0 := Lib.hid (show RoomO W0 C N N 3 (clsC t.l) 74 by rw [← hW0]; exact H.out.2.2.1)
  have HL0 := Lib.hid (show RoomO W0 L m N 1 (lineV (c :: rest)) 3 by rw [← hW0]; exact HLL.out)
  have HU0 := Lib.hid (show Upd3 T C L w W0 by rw [← hW0]; exact Upd3.of_below (bl_drewN (Below.refl _ _) 1))
  clear hW0 c2 r0
  refine wpAnyH_take (i := 0) (v := ?_) rfl (by kernel_rfl) (by kernel_rfl) (by kernel_rfl) (fun _ _ _ h => h) (Or.inl ⟨by rfl, ?_⟩) (by assumption) ?_
  rotate_left
  · intro w hSw; (try dsimp only at hSw); go_simp
    try with_reducible rfl
  refine wpAnyH_take (i := 1) (v := ?_) rfl (by kernel_rfl) (by kernel_rfl) (by kernel_rfl) (fun _ _ _ h => h) (Or.inl ⟨by rfl, ?_⟩) (by assumption) ?_
  rotate_left
  · intro w hSw; (try dsimp only at hSw); go_simp
    try with_reducible rfl
  go_simp
  refine wpAnyH_take (i := 2) (v := ?_) rfl (by kernel_rfl) (by kernel_rfl) (by kernel_rfl) (fun _ _ _ h => h) (Or.inl ⟨by rfl, ?_⟩) (by assumption) ?_
  rotate_left
  · intro w hSw; (try dsimp only at hSw); go_simp
    try with_reducible rfl
  refine wpAnyH_take (i := 3) (v := ?_) rfl (by kernel_rfl) (by kernel_rfl) (by kernel_rfl) (fun _ _ _ h => h) (Or.inl ⟨by rfl, ?_⟩) (by assumption) ?_
  rotate_left
  · intro w hSw; (try dsimp only at hSw); go_simp
    try with_reducible rfl
  go_simp
  refine wpAnyH_take (i := 4) (v := ?_) rfl (by kernel_rfl) (by kernel_rfl) (by kernel_rfl) (fun _ _ _ h => h) (Or.inl ⟨by rfl, ?_⟩) (by assumption) ?_
  rotate_left
  · intro w hSw; (try dsimp only at hSw); go_simp
    try with_reducible rfl
  refine wpAnyH_take (i := 5) (v := ?_) rfl (by kernel_rfl) (by kernel_rfl) (by kernel_rfl) (fun _ _ _ h => h) (Or.inl ⟨by rfl, ?_⟩) (by assumption) ?_
  rotate_left
  · intro w hSw; (try dsimp only at hSw); go_simp
    try with_reducible rfl
  go_simp
  refine wpAnyH_take (i := 6) (v := ?_) rfl (by kernel_rfl) (by kernel_rfl) (by kernel_rfl) (fun _ _ _ h => h) (Or.inl ⟨by rfl, ?_⟩) (by assumption) ?_
  rotate_left
  · intro w hSw; (try dsimp only at hSw); go_simp
    try with_reducible rfl
  refine wpAnyH_take (i := 7) (v := ?_) rfl (by kernel_rfl) (by kernel_rfl) (by kernel_rfl) (fun _ _ _ h => h) (Or.inl ⟨by rfl, ?_⟩) (by assumption) ?_
  rotate_left
  · intro w hSw; (try dsimp only at hSw); go_simp
    try with_reducible rfl
  go_simp
  refine wpAnyH_take (i := 8) (v := ?_) rfl (by kernel_rfl) (by kernel_rfl) (by kernel_rfl) (fun _ _ _ h => h) (Or.inl ⟨by rfl, ?_⟩) (by assumption) ?_
  rotate_left
  · intro w hSw; (try dsimp only at hSw); go_simp
    try with_reducible rfl
  go_simp
  refine wpAnyH_ready (rs := [9]) (by kernel_rfl) (by simp) ?_
  refine AllReadyH.cons rfl (fun K hK => ?_) AllReadyH.nil
  refine gwanted rfl ?_
  refine wp_copyC (.tmp 12) (.tmp 17) 32 32 3 rfl Try.underlying32 rfl L m N A (m - 1) (N - 1) rfl (by simp [Act.eval, Act.put, hA]) (lineV rest) (by rw [HCL.out]; exact (Nat.min_eq_left (by omega)).symm) (HSRC.out W0 HL0.out) (HL0.out.thereAt (by rw [HCL.out]; omega)) (lineV_one _) ?_
  have hmid := HL0.out.midAt (i := 0) (cs := lineV rest) (by rw [HCL.out]; omega)
  have hT1 := HT0.out.of_grown hmid.2 (by have := HNE.out; simp; omega)
  refine hK.out _ _ (hT1.cell 2) (fun hHeld => ?_)
  clear hK K
  refine wpAnyH_done (by kernel_rfl) ?_ _
  have HL1 := Lib.hid hmid.1
  have HT1 := Lib.hid hT1
  have HC1 := Lib.hid (HC0.out.grown hmid.2 (by have := HNE.out; simp; omega))
  have HU1 := Lib.hid (HU0.out.trans (Upd3.of3 hmid.2))
  clear hmid hT1
  generalize hW1 : World.setCells W0 _ _ _ = W1 at hHeld HL1 HT1 HC1 HU1 ⊢
  clear hW1 HT0 HC0 HL0 HU0
  go_wp2_with fail
  refine wp_region_held_drew (S := (fun w' => w'.cell? ⟨T, 2, none⟩ = some (.slice (some ⟨L, 0, none⟩) m N))) (by kernel_rfl) ((HT1.out.cell 2)) (fun hHeld => ?_)
  generalize hW2 : World.drew _ = W2 at hHeld ⊢
  have HT2 := Lib.hid (show Obj1 W2 T _ _ by rw [← hW2]; exact HT1.out)
  have HC2 := Lib.hid (show RoomO W2 C N N 3 (clsC t.l) 74 by rw [← hW2]; exact HC1.out)
  have HL2 := Lib.hid (show RoomO W2 L m N 1 _ 3 by rw [← hW2]; exact HL1.out)
  have HU2 := Lib.hid (show Upd3 T C L w W2 by rw [← hW2]; exact HU1.out.next (bl_drewN (Below.refl _ _) 1))
  clear hW2
  obtain ⟨ys, hys⟩ : ∃ ys, ys = List.take 0 (lineV (c :: rest)) ++ (lineV rest ++ List.drop (0 + (lineV rest).length) (lineV (c :: rest))) := ⟨_, rfl⟩
  rw [← hys] at HL2
  have hylen : ys.length = m := by have := HL2.out.1; omega
  have r1 : W2.cell? ⟨L, mm, none⟩ = some (ys[mm]'(by rw [hylen]; omega)) := HL2.out.cell (List.getElem?_eq_getElem _)
  have f1 : W2.frozen? ⟨L, mm, none⟩ = false := HL2.out.free _
  have hset := (Upd.refl L W2).set mm (.int .i64 (c : Int))
  have HT3 := Lib.hid (HT2.out.of_grown hset (by have := HNE.out; simp; omega))
  have HC3 := Lib.hid (HC2.out.grown hset (by have := HNE.out; simp; omega))
  have HU3 := Lib.hid (HU2.out.trans (Upd3.of3 hset))
  have HL3 := Lib.hid (show RoomO (W2.setCell ⟨L, mm, none⟩ (.int .i64 (c : Int))) L m N 1 (lineV (rest ++ [c])) 3 by
    have h1 := HL2.out.set mm (by omega) (.int .i64 (c : Int))
    have e : ys.set mm (.int .i64 (c : Int)) = lineV (rest ++ [c]) := by
      rw [hys, List.take_zero, List.nil_append, Nat.zero_add, HCL.out, ← HMM.out, lineV_append, List.set_append, if_neg (by rw [HCL.out, HMM.out]; omega), HCL.out, HMM.out, Nat.sub_self]
      have hd : (List.drop (m - 1) (lineV (c :: rest))).length = 1 := by rw [List.length_drop, lineV_length, List.length_cons]; have := HM.out; omega
      match List.drop (m - 1) (lineV (c :: rest)), hd with
      | [z], _ => rfl
    rw [e] at h1
    exact h1)
  clear hset
  refine wpAnyH_take (i := 0) (v := ?_) rfl (by kernel_rfl) (by kernel_rfl) (by kernel_rfl) (fun _ _ _ h => h) (Or.inl ⟨by rfl, ?_⟩) (by assumption) ?_
  rotate_left
  · intro w hSw; (try dsimp only at hSw); go_simp
    try with_reducible rfl
  refine wpAnyH_take (i := 1) (v := ?_) rfl (by kernel_rfl) (by kernel_rfl) (by kernel_rfl) (fun _ _ _ h => h) (Or.inl ⟨by rfl, ?_⟩) (by assumption) ?_
  rotate_left
  · intro w hSw; (try dsimp only at hSw); go_simp
    try with_reducible rfl
  go_simp
  refine wpAnyH_take (i := 2) (v := ?_) rfl (by kernel_rfl) (by kernel_rfl) (by kernel_rfl) (fun _ _ _ h => h) (Or.inl ⟨by rfl, ?_⟩) (by assumption) ?_
  rotate_left
  · intro w hSw; (try dsimp only at hSw); go_simp
    try with_reducible rfl
  refine wpAnyH_take (i := 3) (v := ?_) rfl (by kernel_rfl) (by kernel_rfl) (by kernel_rfl) (fun _ _ _ h => h) (Or.inl ⟨by rfl, ?_⟩) (by assumption) ?_
  rotate_left
  · intro w hSw; (try dsimp only at hSw); go_simp
    try with_reducible rfl
  go_simp
  refine wpAnyH_take (i := 4) (v := ?_) rfl (by kernel_rfl) (by kernel_rfl) (by kernel_rfl) (fun _ _ _ h => h) (Or.inl ⟨by rfl, ?_⟩) (by assumption) ?_
  rotate_left
  · intro w hSw; (try dsimp only at hSw); go_simp
    try with_reducible rfl
  refine wpAnyH_take (i := 5) (v := ?_) rfl (by kernel_rfl) (by kernel_rfl) (by kernel_rfl) (fun _ _ _ h => h) (Or.inl ⟨by rfl, ?_⟩) (by assumption) ?_
  rotate_left
  · intro w hSw; (try dsimp only at hSw); go_simp
    try with_reducible rfl
  go_simp
  refine wpAnyH_take (i := 6) (v := ?_) rfl (by kernel_rfl) (by kernel_rfl) (by kernel_rfl) (fun _ _ _ h => h) (Or.inl ⟨by rfl, ?_⟩) (by assumption) ?_
  rotate_left
  · intro w hSw; (try dsimp only at hSw); go_simp
    try with_reducible rfl
  refine wpAnyH_take (i := 7) (v := ?_) rfl (by kernel_rfl) (by kernel_rfl) (by kernel_rfl) (fun _ _ _ h => h) (Or.inl ⟨by rfl, ?_⟩) (by assumption) ?_
  rotate_left
  · intro w hSw; (try dsimp only at hSw); go_simp
    try with_reducible rfl
  go_simp
  refine wpAnyH_take (i := 8) (v := ?_) rfl (by kernel_rfl) (by kernel_rfl) (by kernel_rfl) (fun _ _ _ h => h) (Or.inl ⟨by rfl, ?_⟩) (by assumption) ?_
  rotate_left
  · intro w hSw; (try dsimp only at hSw); go_simp
    try with_reducible rfl
  refine wpAnyH_take (i := 9) (v := ?_) rfl (by kernel_rfl) (by kernel_rfl) (by kernel_rfl) (fun _ _ _ h => h) (Or.inl ⟨by rfl, ?_⟩) (by assumption) ?_
  rotate_left
  · intro w hSw; (try dsimp only at hSw); go_simp
    try with_reducible rfl
  go_simp
  refine wpAnyH_take (i := 10) (v := ?_) rfl (by kernel_rfl) (by kernel_rfl) (by kernel_rfl) (fun _ _ _ h => h) (Or.inl ⟨by rfl, ?_⟩) (by assumption) ?_
  rotate_left
  · intro w hSw; (try dsimp only at hSw); go_simp
    try with_reducible rfl
  refine wpAnyH_take (i := 11) (v := ?_) rfl (by kernel_rfl) (by kernel_rfl) (by kernel_rfl) (fun _ _ _ h => h) (Or.inl ⟨by rfl, ?_⟩) (by assumption) ?_
  rotate_left
  · intro w hSw; (try dsimp only at hSw); go_simp
    try with_reducible rfl
  go_simp
  refine wpAnyH_ready (rs := [12]) (by kernel_rfl) (by simp) ?_
  refine AllReadyH.cons rfl (fun K hK => ?_) ?_
  rotate_left
  · exact AllReadyH.nil
  go_simp
  refine hK.out _ _ ((HT3.out.cell 2)) (fun hHeld => ?_)
  clear hK K
  refine wpAnyH_done (by kernel_rfl) ?_ _
  generalize hW4 : World.setCell W2 _ _ = W4 at hHeld HT3 HC3 HU3 HL3 ⊢
  clear hW4 r1 f1
  have c1 : W4.cell? ⟨T, 1, none⟩ = some (.slice (some ⟨C, 0, none⟩) N N) := HT3.out.cell 1
  have r3 : W4.cell? ⟨C, c * 3 + 1, none⟩ = some (.bool x.fr) := HC3.out.cell (clsC_at HX.out (q := 1) (by omega))
  have f3 : W4.frozen? ⟨C, c * 3 + 1, none⟩ = false := HC3.out.free _
  go_wp2
  go_end0
  have hset := (Upd.refl C W4).set (c * 3 + 1) (.bool true)
  refine ⟨rfl, ⟨⟨?_, ?_⟩, ?_, ?_, ?_⟩, HU3.out.trans (Upd3.of2 hset)⟩
  · show (t.l.set c _).length = N
    rw [List.length_set]
    exact H.out.1.1
  · show (rest ++ [c]).length = m
    rw [List.length_append]
    exact HM.out
  · exact HT3.out.of_grown hset (by have := HNE.out; simp; omega)
  · show RoomO _ C N N 3 (clsC (t.l.set c { x with fr := true })) _
    rw [clsC_one HX.out (q := 1) (v := .bool true) (by omega) rfl]
    exact HC3.out.set _ (by omega) _
  · exact HL3.out.grown hset (by have := HNE.out; simp; omega)
end Go.Proofs.Ytlnfenjoagkpdaa
