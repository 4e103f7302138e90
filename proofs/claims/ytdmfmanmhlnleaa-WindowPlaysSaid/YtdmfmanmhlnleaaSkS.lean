/- The document's sketch: what Add answers; a sketch that is nobody's. -/
import Derived.Test.YtdmfmanmhlnleaaSkR
namespace Go.Proofs.Ytdmfmanmhlnleaa
open Go.RowKit
set_option linter.unusedVariables false
set_option linter.unusedSimpArgs false

section
variable {P : Program} {o : Oper} {a : Act} {Q : Exit → Act → World → Prop} {w : World}
theorem wp_store_objR {K : Act → World → Prop} (ty : TypeId) (x y : Operand) (ho : o.op = .store ty x y) (p : Nat) (t : TypeId) (old cs : Array Value) (hx : a.eval x = .pointer (some ⟨p, 0, none⟩)) (hy : a.eval y = .agg cs)
    (HO : Obj1 w p old t) (hs : cs.size = old.size) (hi : (P.info? ty).map (·.size) = some cs.size) (h1 : cs.all (·.oneCell') = true)
    (h : ∀ w', Obj1 w' p cs t → Upd p w w' → K (a.put o.dst undef) w') : o.wp P a w K Q := by
  have hk := setCells_obj p t cs.toList 0 old w HO (by simp [hs])
  refine wp_store_mid ty x y ho p 0 cs hx hy (fun j hj => ?_) hi h1 (h _ (by simpa using hk.1) hk.2)
  rw [Nat.zero_add, HO.cell j, HO.free j]
  exact ⟨by rw [Array.getElem?_eq_getElem (by omega)]; rfl, rfl⟩
end
theorem RefV.of_room {w : World} {B g n cap : Nat} {l : List Slo} {t : TypeId} (h : RoomO w g n cap 10 (slosC l) t) (hn : l.length = n) (hg : B ≤ g) : RefV w B (.slice (some ⟨g, 0, none⟩) n cap) l :=
  ⟨some ⟨g, 0, none⟩, cap, by rw [hn], by rw [hn]; exact h.2.1, .inr ⟨g, hg, rfl⟩, h.rd⟩
theorem Rd.belowW {w W : World} {A : Option Addr} {vs : List Value} (h : Rd w A vs) (hb : Below w.heap.size w W) : Rd W A vs := h.below hb
theorem own_ne {w : World} {O : Nat} {cs : Array Value} {t e : TypeId} {B sz : Nat} {v : Value} {n : Nat} {xs : List Value} (hO : Obj1 w O cs t) (h : w.ownsRow B e sz v n xs) (ht : t ≠ e) : some O ≠ v.ownBlock := by
  intro hv
  rcases h.2 with ⟨rfl, _⟩ | ⟨g, cap, cur, rfl, _, hg, _⟩
  · simp [Value.ownBlock] at hv
  · simp only [Value.ownBlock, Option.some.injEq] at hv
    subst hv
    unfold Obj1 at hO
    rw [hO] at hg
    cases hg
    exact ht rfl
theorem RoomO.neObj {w : World} {L n cap sz K : Nat} {xs : List Value} {t t2 : TypeId} {cs : Array Value} (h : RoomO w L n cap sz xs t) (ho : Obj1 w K cs t2) (ht : t2 ≠ t) : L ≠ K := by
  rintro rfl
  obtain ⟨_, _, junk, _, h4⟩ := h
  have := h4.symm.trans ho
  simp at this
  exact ht this.2.symm
set_option maxRecDepth 100000 in
set_option maxHeartbeats 4000000 in
theorem refAddFound_w (B0 : Nat) (v : Value) (s : Sk) (hsk : okSk s) (p : Px) (hp : okPx p) (n0 : Int) (w : World) (h : RefV w B0 v s.l) (hf : fnd s.l p < s.l.length) :
    Calls Try.prog 21 #[.agg (refC v s), .agg (pxC p).toArray, .int .i64 n0] w fun e w' => ∃ v', e = .returned (.tuple #[.agg (refC v' (skAdd s p n0)), .int .i64 (skAt s p)]) ∧ RefV w' w.heap.size v' (skAdd s p n0).l ∧ Below w.heap.size w w' := by
  obtain ⟨A, c, rfl, hnc, hrd, _⟩ := h.slice hsk.px
  obtain ⟨n, hn⟩ : ∃ n, s.l.length = n := ⟨_, rfl⟩
  have hn64 : n ≤ 64 := by have := hsk.2.1; have := hsk.1.2; omega
  rw [hn] at hnc h hf ⊢
  have HPA := Lib.hid (px_sizeA hp)
  have hb1 := bl_alloc (Below.refl w.heap.size w) (.cells (refC (.slice A n c) s) 50)
  have hb2 := bl_next hb1 (bl_alloc (Below.refl _ _) (.cells (pxC p).toArray 30))
  have hb3 := bl_next hb2 (bl_alloc (Below.refl _ _) (.cells #[.slice none 0 0, .int .i64 0, .int .i64 0] 50))
  obtain ⟨W1, hW1⟩ : ∃ W1, W1 = ((w.alloc (.cells (refC (.slice A n c) s) 50)).alloc (.cells (pxC p).toArray 30)).alloc (.cells #[.slice none 0 0, .int .i64 0, .int .i64 0] 50) := ⟨_, rfl⟩
  have HK1 := Lib.hid (show Obj1 W1 w.heap.size (refC (.slice A n c) s) 50 by rw [hW1]; exact ((Obj1.new w (refC (.slice A n c) s) 50).alloc _).alloc _)
  have HP1 := Lib.hid (show Obj1 W1 (w.heap.size + 1) (pxC p).toArray 30 by
    rw [hW1]
    have := (Obj1.new (w.alloc (.cells (refC (.slice A n c) s) 50)) (pxC p).toArray 30).alloc (.cells #[.slice none 0 0, .int .i64 0, .int .i64 0] 50)
    rwa [World.size_alloc] at this)
  have HZ1 := Lib.hid (show Obj1 W1 (w.heap.size + 2) #[.slice none 0 0, .int .i64 0, .int .i64 0] 50 by
    rw [hW1]
    have := Obj1.new ((w.alloc (.cells (refC (.slice A n c) s) 50)).alloc (.cells (pxC p).toArray 30)) #[.slice none 0 0, .int .i64 0, .int .i64 0] 50
    rwa [World.size_alloc, World.size_alloc] at this)
  have HB1 := Lib.hid (show Below w.heap.size w W1 by rw [hW1]; exact hb3)
  have hb4 := bl_alloc (Below.refl W1.heap.size W1) (.cells #[] 53)
  have HLIT := Lib.hid (World.ownsRow_lit (base := w.heap.size) (e := 53) (size := 10) W1 #[] 0 HB1.out.size (by simp [maxLen]) rfl)
  have HRD4 := Lib.hid (hrd.below (bl_next HB1.out hb4))
  have HB4 := Lib.hid (bl_next HB1.out hb4)
  have HN := Lib.hid hn
  have HV := Lib.hid h
  have HSP := Lib.hid hsk.px
  have hW1s : W1.heap.size = w.heap.size + 3 := by rw [hW1, World.size_alloc, World.size_alloc, World.size_alloc]
  have HWS := Lib.hid hW1s
  have HKA := Lib.hid (HK1.out.alloc (.cells #[] 53))
  have HPA4 := Lib.hid (HP1.out.alloc (.cells #[] 53))
  have HZA := Lib.hid (HZ1.out.alloc (.cells #[] 53))
  have HW1 := Lib.hid hW1
  have HE8 := Lib.hid (show some w.heap.size ≠ (Value.slice (some ⟨W1.heap.size, 0, none⟩) 0 0).ownBlock ∧ some (w.heap.size + 1) ≠ (Value.slice (some ⟨W1.heap.size, 0, none⟩) 0 0).ownBlock ∧ some (w.heap.size + 2) ≠ (Value.slice (some ⟨W1.heap.size, 0, none⟩) 0 0).ownBlock by
    rw [hW1s]
    simp [Value.ownBlock])
  have c0 : (W1.alloc (.cells #[] 53)).cell? ⟨w.heap.size, 0, none⟩ = some (.slice A n c) := HKA.out.cell 0
  clear hb1 hb2 hb3 hb4 hW1 hW1s hrd h hn
  go_enter Try.func21, Try.ntmps21
  go_upto_region 1 with (fail)
  rw [← HW1.out]
  go_wp2_with (first
    | (at_builtin; refine app_list w.heap.size rfl (.tmp 11) (.tmp 13) 48 53 (.agg #[.bool false, .int .u8 0, .int .u8 0, .int .u8 0, .int .u8 0, .int .u8 0, .int .u8 0, .int .u8 0, .int .i64 0, .int .i64 0]) 10 24 rfl Try.underlying48 (by kernel_rfl) (by simp [Value.cells]) (by omega) (by omega) _ 0 [] A n c (slosC s.l) rfl rfl HLIT.out (by rw [slosC_length HSP.out, HN.out]) HRD4.out (slosC_one _) (by omega) HB4.out.size ?_; intro v8 w8 hown8 hg8; have HO8 := Lib.hid hown8; have HK8 := Lib.hid (HKA.out.of_grown hg8 HE8.out.1); have HP8 := Lib.hid (HPA4.out.of_grown hg8 HE8.out.2.1); have HZ8 := Lib.hid (HZA.out.of_grown hg8 HE8.out.2.2); have HB8 := Lib.hid (bl_grown HB4.out HLIT.out hg8 (Nat.le_refl _)); clear hown8 hg8)
    | (refine load_obj rfl 50 (.tmp 3) rfl w.heap.size 50 (refC (.slice A n c) s) _ rfl HK8.out Try.underlying50 rfl rfl ?_)
    | (refine load_obj rfl 30 (.tmp 4) rfl (w.heap.size + 1) 30 (pxC p).toArray _ rfl HP8.out Try.underlying30 rfl HPA.out ?_))
  refine (refFind_w B0 (.slice A n c) s p HSP.out (by rw [HN.out]; exact hn64) hp _ (HV.out.below HB8.out)).mono ?_
  rintro e w9 ⟨rfl, hb9⟩
  have HO9 := Lib.hid (show w9.ownsRow w.heap.size 53 10 v8 n (slosC s.l) by
    have := own_below HO8.out hb9
    rwa [Nat.zero_add, List.nil_append] at this)
  have HK9 := Lib.hid (HK8.out.below hb9)
  have HP9 := Lib.hid (HP8.out.below hb9)
  have HZ9 := Lib.hid (HZ8.out.below hb9)
  have HB9 := Lib.hid (bl_next HB8.out hb9)
  obtain ⟨A8, c8, hv8, _, _⟩ := own_read HO9.out HSP.out
  rw [hv8] at HO9 ⊢
  clear hb9 hv8 c0 HO8 HK8 HP8 HZ8 HB8 HLIT HRD4 HB4 HKA HPA4 HZA HW1 HK1 HP1 HZ1 HB1
  obtain ⟨k, hk⟩ : ∃ k, fnd s.l p = k := ⟨_, rfl⟩
  rw [hk] at hf
  obtain ⟨l2, hl2⟩ : ∃ l2, skBase s p = l2 := ⟨_, rfl⟩
  have hfl : fnd s.l p < s.l.length := by rw [HN.out, hk]; exact hf
  have hl2s : l2 = s.l := by rw [← hl2]; unfold skBase; rw [if_pos hfl]
  have hat : skAt s p = k := by unfold skAt; rw [if_pos hfl, hk]
  have hfv : fndV s.l p = (k : Int) := by unfold fndV; rw [if_pos hfl, hk]
  obtain ⟨x2, hx2⟩ : ∃ x2, l2[k]? = some x2 := ⟨_, List.getElem?_eq_getElem (by rw [hl2s, HN.out]; exact hf)⟩
  have hx2p : okPx x2.p := by rw [hl2s] at hx2; exact hsk.px _ (List.mem_of_getElem? hx2)
  have HEQ := Lib.hid (skAdd_eq (n := n0) hl2 hat hx2)
  have HAT := Lib.hid hat
  have HX2 := Lib.hid hx2
  have HPX2 := Lib.hid (show ∀ x ∈ l2, okPx x.p by rw [hl2s]; exact hsk.px)
  have HLM2 := Lib.hid (show l2.length = n by rw [hl2s]; exact HN.out)
  have k0 : (0 : Int) ≤ (k : Int) := Int.natCast_nonneg k
  have k1 : (k : Int) < (n : Int) := by omega
  have k2 : ¬ (k : Int) < 0 := by omega
  have k3 : decide ((k : Int) < 0) = false := decide_eq_false k2
  rw [hfv]
  rcases own_room HO9.out with ⟨h0, _, _⟩ | ⟨g, cap, e8, hg, _, hRM⟩
  · omega
  simp only [Value.slice.injEq] at e8
  obtain ⟨rfl, _, rfl⟩ := e8
  have HRM := Lib.hid (show RoomO w9 g n c8 10 (slosC l2) 53 by rw [hl2s]; exact hRM)
  have HK := HK9
  have HP := HP9
  have HZ := HZ9
  have HB := HB9
  clear hk hl2 hl2s hat hfv hx2 hRM hfl
  have rC : w9.cell? ⟨g, k * 10 + 8, none⟩ = some (.int .i64 x2.c) := (slo_count HRM.out HPX2.out HX2.out).1
  have fC : w9.frozen? ⟨g, k * 10 + 8, none⟩ = false := HRM.out.free _
  have HNG := Lib.hid (show g ≠ w.heap.size ∧ g ≠ w.heap.size + 1 ∧ g ≠ w.heap.size + 2 from ⟨HRM.out.neObj HK.out (by decide), HRM.out.neObj HP.out (by decide), HRM.out.neObj HZ.out (by decide)⟩)
  go_wp2_with fail
  refine (rAdd_w x2.c n0 _).mono ?_
  rintro e w' ⟨rfl, rfl⟩
  obtain ⟨c3, hc3⟩ : ∃ c3, plus (cnt x2.c) n0 = c3 := ⟨_, rfl⟩
  rw [hc3]
  have HC3 := Lib.hid hc3
  clear hc3
  have hset := (Upd.refl g w9).set (k * 10 + 8) (.int .i64 c3)
  have hlt2 : k < l2.length := (List.getElem?_eq_some_iff.1 HX2.out).1
  have hRo := HRM.out.set (k * 10 + 8) (by have := HLM2.out; omega) (.int .i64 c3)
  rw [← slosC_count HPX2.out HX2.out c3] at hRo
  have HRO := Lib.hid hRo
  have HKB := Lib.hid (HK.out.of_grown hset (by have := HNG.out.1; simp; omega))
  have HZB := Lib.hid (HZ.out.of_grown hset (by have := HNG.out.2.2; simp; omega))
  have HBB := Lib.hid (bl_upd HB.out hset hg)
  clear hset hRo
  go_wp2_with fail
  refine wp_region_held_drew (S := (fun w' => w'.cell? ⟨w.heap.size, 1, none⟩ = some (.int .i64 s.room) ∧ w'.cell? ⟨w.heap.size, 2, none⟩ = some (.int .i64 s.total) ∧ Obj1 w' w.heap.size (refC (.slice A n c) s) 50)) (by kernel_rfl) (⟨HKB.out.cell 1, HKB.out.cell 2, HKB.out⟩) (fun hHeld => ?_)
  generalize hW0 : World.drew _ = W0 at hHeld ⊢
  have HRO0 := Lib.hid (show RoomO W0 g n c8 10 (slosC (l2.set k { x2 with c := c3 })) 53 by rw [← hW0]; exact HRO.out)
  have HZ0 := Lib.hid (show Obj1 W0 (w.heap.size + 2) #[.slice none 0 0, .int .i64 0, .int .i64 0] 50 by rw [← hW0]; exact HZB.out)
  have HB0 := Lib.hid (show Below w.heap.size w W0 by rw [← hW0]; exact bl_drewN HBB.out 1)
  have HX := Lib.hid hHeld
  clear hW0 hHeld rC fC
  refine wpAnyH_take (i := 0) (v := ?_) rfl (by kernel_rfl) (by kernel_rfl) (by kernel_rfl) (fun _ _ _ h => h) (Or.inl ⟨by rfl, ?_⟩) HX.out ?_
  rotate_left
  · intro w hSw; have hSw1 := hSw.1; have hSw2 := hSw.2.1; go_simp
    try with_reducible rfl
  go_simp
  refine wpAnyH_take (i := 1) (v := ?_) rfl (by kernel_rfl) (by kernel_rfl) (by kernel_rfl) (fun _ _ _ h => h) (Or.inl ⟨by rfl, ?_⟩) HX.out ?_
  rotate_left
  · intro w hSw; have hSw1 := hSw.1; have hSw2 := hSw.2.1; go_simp
    try with_reducible rfl
  go_simp
  refine wpAnyH_take (i := 2) (v := ?_) rfl (by kernel_rfl) (by kernel_rfl) (by kernel_rfl) (fun _ _ _ h => h) (Or.inl ⟨by rfl, ?_⟩) HX.out ?_
  rotate_left
  · intro w hSw; have hSw1 := hSw.1; have hSw2 := hSw.2.1; go_simp
    try with_reducible rfl
  go_simp
  refine wpAnyH_take (i := 3) (v := ?_) rfl (by kernel_rfl) (by kernel_rfl) (by kernel_rfl) (fun _ _ _ h => h) (Or.inl ⟨by rfl, ?_⟩) HX.out ?_
  rotate_left
  · intro w hSw; have hSw1 := hSw.1; have hSw2 := hSw.2.1; go_simp
    try with_reducible rfl
  go_simp
  refine wpAnyH_take (i := 4) (v := ?_) rfl (by kernel_rfl) (by kernel_rfl) (by kernel_rfl) (fun _ _ _ h => h) (Or.inl ⟨by rfl, ?_⟩) HX.out ?_
  rotate_left
  · intro w hSw; have hSw1 := hSw.1; have hSw2 := hSw.2.1; go_simp
    try with_reducible rfl
  go_simp
  refine wpAnyH_take (i := 5) (v := ?_) rfl (by kernel_rfl) (by kernel_rfl) (by kernel_rfl) (fun _ _ _ h => h) (Or.inl ⟨by rfl, ?_⟩) HX.out ?_
  rotate_left
  · intro w hSw; have hSw1 := hSw.1; have hSw2 := hSw.2.1; go_simp
    try with_reducible rfl
  go_simp
  refine wpAnyH_take (i := 8) (v := ?_) rfl (by kernel_rfl) (by kernel_rfl) (by kernel_rfl) (fun _ _ _ h => h) (Or.inl ⟨by rfl, ?_⟩) HX.out ?_
  rotate_left
  · intro w hSw; have hSw1 := hSw.1; have hSw2 := hSw.2.1; go_simp
    try with_reducible rfl
  go_simp
  refine wpAnyH_ready (rs := [6]) (by kernel_rfl) (by simp) ?_
  refine AllReadyH.cons rfl (fun K hK => ?_) AllReadyH.nil
  go_simp
  refine (rAdd_w s.total n0 _).mono ?_
  rintro e w' ⟨rfl, rfl⟩
  dsimp only
  obtain ⟨t3, ht3⟩ : ∃ t3, plus (cnt s.total) n0 = t3 := ⟨_, rfl⟩
  rw [ht3]
  have HT3 := Lib.hid ht3
  clear ht3
  refine hK.out _ _ HX.out (fun hHeld => ?_)
  clear hK K hHeld
  go_simp
  refine wpAnyH_take (i := 7) (v := ?_) rfl (by kernel_rfl) (by kernel_rfl) (by kernel_rfl) (fun _ _ _ h => h) (Or.inl ⟨by rfl, ?_⟩) HX.out ?_
  rotate_left
  · intro w hSw; have hSw1 := hSw.1; have hSw2 := hSw.2.1; go_simp
    try with_reducible rfl
  go_simp
  refine wpAnyH_ready (rs := [9]) (by kernel_rfl) (by simp) ?_
  refine AllReadyH.cons rfl (fun K hK => ?_) AllReadyH.nil
  refine gwanted rfl ?_
  refine wp_store_objR 50 (.tmp 6) (.tmp 87) rfl (w.heap.size + 2) 50 #[.slice none 0 0, .int .i64 0, .int .i64 0] (refC (.slice (some ⟨g, 0, none⟩) n c8) ⟨l2, s.room, t3⟩) rfl rfl HZ0.out rfl rfl (by simp [refC, Value.oneCell']) ?_
  intro w5 hob hup
  have HZ5 := Lib.hid hob
  have HR5 := Lib.hid (HRO0.out.grown hup (by have := HNG.out.2.2; simp; omega))
  have HK5 := Lib.hid (HX.out.2.2.of_grown hup (by simp))
  have HB5 := Lib.hid (bl_upd HB0.out hup (by omega))
  clear hob hup
  refine hK.out _ _ ⟨HK5.out.cell 1, HK5.out.cell 2, HK5.out⟩ (fun hHeld => ?_)
  clear hK K
  have HX := Lib.hid hHeld
  clear hHeld
  refine wpAnyH_take (i := 10) (v := ?_) rfl (by kernel_rfl) (by kernel_rfl) (by kernel_rfl) (fun _ _ _ h => h) (Or.inl ⟨by rfl, ?_⟩) HX.out ?_
  rotate_left
  · intro w hSw; have hSw1 := hSw.1; have hSw2 := hSw.2.1; go_simp
    try with_reducible rfl
  go_simp
  refine wpAnyH_done (by kernel_rfl) ?_ _
  go_wp2_with fail
  refine bodyPost_ret (v := .tuple #[.agg (refC (.slice (some ⟨g, 0, none⟩) n c8) ⟨l2, s.room, t3⟩), .int .i64 k]) ?_ rfl ?_
  · rw [results_cell_tmp (p := 6) (u := 7) (ty := 50) rfl]
    show (Result.andThen (.ok (⟨w.heap.size + 2, 0, none⟩ : Addr) w5) _) = _
    simp only [Result.andThen_ok]
    rw [run_loadVar_row (P := Try.prog) w5 (w.heap.size + 2) 50 50 (refC (.slice (some ⟨g, 0, none⟩) n c8) ⟨l2, s.room, t3⟩) (0, 0) _ HZ5.out Try.underlying50 rfl rfl]
    rfl
  · have hE : skAdd s p n0 = ⟨l2.set k { x2 with c := c3 }, s.room, t3⟩ := by rw [HEQ.out, HC3.out, HT3.out]
    rw [hE, HAT.out]
    exact ⟨_, rfl, RefV.of_room HR5.out (by rw [List.length_set]; exact HLM2.out) hg, HB5.out⟩

set_option maxRecDepth 100000 in
set_option maxHeartbeats 4000000 in
theorem refAddRoom_w (B0 : Nat) (v : Value) (s : Sk) (hsk : okSk s) (p : Px) (hp : okPx p) (n0 : Int) (w : World) (h : RefV w B0 v s.l) (hf : ¬ fnd s.l p < s.l.length) (hroom : s.l.length < s.room) :
    Calls Try.prog 21 #[.agg (refC v s), .agg (pxC p).toArray, .int .i64 n0] w fun e w' => ∃ v', e = .returned (.tuple #[.agg (refC v' (skAdd s p n0)), .int .i64 (skAt s p)]) ∧ RefV w' w.heap.size v' (skAdd s p n0).l ∧ Below w.heap.size w w' := by
  obtain ⟨A, c, rfl, hnc, hrd, _⟩ := h.slice hsk.px
  obtain ⟨n, hn⟩ : ∃ n, s.l.length = n := ⟨_, rfl⟩
  have hn64 : n ≤ 64 := by have := hsk.2.1; have := hsk.1.2; omega
  rw [hn] at hnc h hf hroom ⊢
  have HPA := Lib.hid (px_sizeA hp)
  have hb1 := bl_alloc (Below.refl w.heap.size w) (.cells (refC (.slice A n c) s) 50)
  have hb2 := bl_next hb1 (bl_alloc (Below.refl _ _) (.cells (pxC p).toArray 30))
  have hb3 := bl_next hb2 (bl_alloc (Below.refl _ _) (.cells #[.slice none 0 0, .int .i64 0, .int .i64 0] 50))
  obtain ⟨W1, hW1⟩ : ∃ W1, W1 = ((w.alloc (.cells (refC (.slice A n c) s) 50)).alloc (.cells (pxC p).toArray 30)).alloc (.cells #[.slice none 0 0, .int .i64 0, .int .i64 0] 50) := ⟨_, rfl⟩
  have HK1 := Lib.hid (show Obj1 W1 w.heap.size (refC (.slice A n c) s) 50 by rw [hW1]; exact ((Obj1.new w (refC (.slice A n c) s) 50).alloc _).alloc _)
  have HP1 := Lib.hid (show Obj1 W1 (w.heap.size + 1) (pxC p).toArray 30 by
    rw [hW1]
    have := (Obj1.new (w.alloc (.cells (refC (.slice A n c) s) 50)) (pxC p).toArray 30).alloc (.cells #[.slice none 0 0, .int .i64 0, .int .i64 0] 50)
    rwa [World.size_alloc] at this)
  have HZ1 := Lib.hid (show Obj1 W1 (w.heap.size + 2) #[.slice none 0 0, .int .i64 0, .int .i64 0] 50 by
    rw [hW1]
    have := Obj1.new ((w.alloc (.cells (refC (.slice A n c) s) 50)).alloc (.cells (pxC p).toArray 30)) #[.slice none 0 0, .int .i64 0, .int .i64 0] 50
    rwa [World.size_alloc, World.size_alloc] at this)
  have HB1 := Lib.hid (show Below w.heap.size w W1 by rw [hW1]; exact hb3)
  have hb4 := bl_alloc (Below.refl W1.heap.size W1) (.cells #[] 53)
  have HLIT := Lib.hid (World.ownsRow_lit (base := w.heap.size) (e := 53) (size := 10) W1 #[] 0 HB1.out.size (by simp [maxLen]) rfl)
  have HRD4 := Lib.hid (hrd.below (bl_next HB1.out hb4))
  have HB4 := Lib.hid (bl_next HB1.out hb4)
  have HN := Lib.hid hn
  have HV := Lib.hid h
  have HSP := Lib.hid hsk.px
  have hW1s : W1.heap.size = w.heap.size + 3 := by rw [hW1, World.size_alloc, World.size_alloc, World.size_alloc]
  have HWS := Lib.hid hW1s
  have HKA := Lib.hid (HK1.out.alloc (.cells #[] 53))
  have HPA4 := Lib.hid (HP1.out.alloc (.cells #[] 53))
  have HZA := Lib.hid (HZ1.out.alloc (.cells #[] 53))
  have HW1 := Lib.hid hW1
  have HE8 := Lib.hid (show some w.heap.size ≠ (Value.slice (some ⟨W1.heap.size, 0, none⟩) 0 0).ownBlock ∧ some (w.heap.size + 1) ≠ (Value.slice (some ⟨W1.heap.size, 0, none⟩) 0 0).ownBlock ∧ some (w.heap.size + 2) ≠ (Value.slice (some ⟨W1.heap.size, 0, none⟩) 0 0).ownBlock by
    rw [hW1s]
    simp [Value.ownBlock])
  have c0 : (W1.alloc (.cells #[] 53)).cell? ⟨w.heap.size, 0, none⟩ = some (.slice A n c) := HKA.out.cell 0
  clear hb1 hb2 hb3 hb4 hW1 hW1s hrd h hn
  go_enter Try.func21, Try.ntmps21
  go_upto_region 1 with (fail)
  rw [← HW1.out]
  go_wp2_with (first
    | (at_builtin; refine app_list w.heap.size rfl (.tmp 11) (.tmp 13) 48 53 (.agg #[.bool false, .int .u8 0, .int .u8 0, .int .u8 0, .int .u8 0, .int .u8 0, .int .u8 0, .int .u8 0, .int .i64 0, .int .i64 0]) 10 24 rfl Try.underlying48 (by kernel_rfl) (by simp [Value.cells]) (by omega) (by omega) _ 0 [] A n c (slosC s.l) rfl rfl HLIT.out (by rw [slosC_length HSP.out, HN.out]) HRD4.out (slosC_one _) (by omega) HB4.out.size ?_; intro v8 w8 hown8 hg8; have HO8 := Lib.hid hown8; have HK8 := Lib.hid (HKA.out.of_grown hg8 HE8.out.1); have HP8 := Lib.hid (HPA4.out.of_grown hg8 HE8.out.2.1); have HZ8 := Lib.hid (HZA.out.of_grown hg8 HE8.out.2.2); have HB8 := Lib.hid (bl_grown HB4.out HLIT.out hg8 (Nat.le_refl _)); clear hown8 hg8)
    | (refine load_obj rfl 50 (.tmp 3) rfl w.heap.size 50 (refC (.slice A n c) s) _ rfl HK8.out Try.underlying50 rfl rfl ?_)
    | (refine load_obj rfl 30 (.tmp 4) rfl (w.heap.size + 1) 30 (pxC p).toArray _ rfl HP8.out Try.underlying30 rfl HPA.out ?_))
  refine (refFind_w B0 (.slice A n c) s p HSP.out (by rw [HN.out]; exact hn64) hp _ (HV.out.below HB8.out)).mono ?_
  rintro e w9 ⟨rfl, hb9⟩
  have HO9 := Lib.hid (show w9.ownsRow w.heap.size 53 10 v8 n (slosC s.l) by
    have := own_below HO8.out hb9
    rwa [Nat.zero_add, List.nil_append] at this)
  have HK9 := Lib.hid (HK8.out.below hb9)
  have HP9 := Lib.hid (HP8.out.below hb9)
  have HZ9 := Lib.hid (HZ8.out.below hb9)
  have HB9 := Lib.hid (bl_next HB8.out hb9)
  obtain ⟨A8, c8, hv8, _, _⟩ := own_read HO9.out HSP.out
  rw [hv8] at HO9 ⊢
  clear hb9 hv8 c0 HO8 HK8 HP8 HZ8 HB8 HLIT HRD4 HB4 HKA HPA4 HZA HW1 HK1 HP1 HZ1 HB1
  obtain ⟨l2, hl2⟩ : ∃ l2, skBase s p = l2 := ⟨_, rfl⟩
  have hfl : ¬ fnd s.l p < s.l.length := by rw [HN.out]; exact hf
  have hrl : s.l.length < s.room := by rw [HN.out]; exact hroom
  have hl2s : l2 = s.l ++ [⟨p, 0, 0⟩] := by rw [← hl2]; unfold skBase; rw [if_neg hfl, if_pos hrl]
  have hat : skAt s p = n := by unfold skAt; rw [if_neg hfl, if_pos hrl, HN.out]
  have hfv : fndV s.l p = -1 := by unfold fndV; rw [if_neg hfl]
  obtain ⟨x2, hx2e⟩ : ∃ x2 : Slo, x2 = ⟨p, 0, 0⟩ := ⟨_, rfl⟩
  have hx2 : l2[n]? = some x2 := by rw [hl2s, hx2e, ← HN.out]; simp
  have hx2p : okPx x2.p := by rw [hx2e]; exact hp
  obtain ⟨m, hm⟩ : ∃ m, m = n + 1 := ⟨_, rfl⟩
  have HEQ := Lib.hid (skAdd_eq (n := n0) hl2 hat hx2)
  have HAT := Lib.hid hat
  have HX2 := Lib.hid hx2
  have HPX2 := Lib.hid (show ∀ x ∈ l2, okPx x.p by
    rw [hl2s]
    intro x hx
    rcases List.mem_append.1 hx with h | h
    · exact hsk.px x h
    · simp at h; rw [h]; exact hp)
  have HLM2 := Lib.hid (show l2.length = m by rw [hl2s, hm, ← HN.out]; simp)
  have HM := Lib.hid hm
  have HL2 := Lib.hid hl2s
  have k0 : (0 : Int) ≤ (n : Int) := Int.natCast_nonneg n
  have k1 : (n : Int) < (m : Int) := by omega
  have k2 : ¬ (n : Int) < 0 := by omega
  have k3 : decide ((n : Int) < 0) = false := decide_eq_false k2
  have k4 : n < m := by omega
  have q1 : (n : Int) < (s.room : Int) := by omega
  have q2 : decide ((n : Int) < (s.room : Int)) = true := decide_eq_true q1
  have hlen := sloC_length (s := ⟨p, 0, 0⟩) hp
  have r1 : w9.cell? ⟨w.heap.size, 1, none⟩ = some (.int .i64 s.room) := HK9.out.cell 1
  rw [hfv]
  clear hl2 hl2s hat hfv hx2 hx2e hm hfl hrl
  have HOA := Lib.hid (HO9.out.alloc (.cells (sloC ⟨p, 0, 0⟩).toArray 53))
  go_upto_region 15 with (first
    | (refine load_obj rfl 30 (.tmp 4) rfl (w.heap.size + 1) 30 (pxC p).toArray _ rfl HP9.out Try.underlying30 rfl HPA.out ?_)
    | (refine list_buildR rfl hp (.tmp 30) rfl rfl ?_)
    | (refine list_slotR (s := ⟨p, 0, 0⟩) rfl hp (.tmp 31) rfl rfl ?_)
    | (at_builtin; refine app_list w.heap.size rfl (.tmp 29) (.tmp 32) 48 53 (.agg #[.bool false, .int .u8 0, .int .u8 0, .int .u8 0, .int .u8 0, .int .u8 0, .int .u8 0, .int .u8 0, .int .i64 0, .int .i64 0]) 10 24 rfl Try.underlying48 (by kernel_rfl) (by simp [Value.cells]) (by omega) (by omega) _ n (slosC s.l) (some ⟨w9.heap.size, 0, none⟩) 1 1 (sloC ⟨p, 0, 0⟩) rfl rfl HOA.out (by omega) (slo_rd _ _ _) (sloC_one _) (by omega) (by have := HB9.out.size; simp; omega) ?_; intro v10 w10 hown10 hg10; have HO10 := Lib.hid hown10; have HB10 := Lib.hid (bl_grown (bl_alloc HB9.out (.cells (sloC ⟨p, 0, 0⟩).toArray 53)) HOA.out hg10 (Nat.le_refl _)); have HK10 := Lib.hid ((HK9.out.alloc (.cells (sloC ⟨p, 0, 0⟩).toArray 53)).of_grown hg10 (own_ne (HK9.out.alloc _) HOA.out (by decide))); have HP10 := Lib.hid ((HP9.out.alloc (.cells (sloC ⟨p, 0, 0⟩).toArray 53)).of_grown hg10 (own_ne (HP9.out.alloc _) HOA.out (by decide))); have HZ10 := Lib.hid ((HZ9.out.alloc (.cells (sloC ⟨p, 0, 0⟩).toArray 53)).of_grown hg10 (own_ne (HZ9.out.alloc _) HOA.out (by decide))); clear hown10 hg10))
  rcases own_room HO10.out with ⟨h0, _, _⟩ | ⟨g, cap, e8, hg, _, hRM⟩
  · omega
  subst e8
  have HRM := Lib.hid (show RoomO w10 g m cap 10 (slosC l2) 53 by rw [HL2.out, slosC_append, slosC_cons, slosC_nil, List.append_nil, HM.out]; exact hRM)
  rw [← HM.out]
  clear hRM
  have HK := HK10
  have HP := HP10
  have HZ := HZ10
  have HB := HB10
  have rC : w10.cell? ⟨g, n * 10 + 8, none⟩ = some (.int .i64 x2.c) := (slo_count HRM.out HPX2.out HX2.out).1
  have fC : w10.frozen? ⟨g, n * 10 + 8, none⟩ = false := HRM.out.free _
  have HNG := Lib.hid (show g ≠ w.heap.size ∧ g ≠ w.heap.size + 1 ∧ g ≠ w.heap.size + 2 from ⟨HRM.out.neObj HK.out (by decide), HRM.out.neObj HP.out (by decide), HRM.out.neObj HZ.out (by decide)⟩)
  go_wp2_with fail
  refine (rAdd_w x2.c n0 _).mono ?_
  rintro e w' ⟨rfl, rfl⟩
  obtain ⟨c3, hc3⟩ : ∃ c3, plus (cnt x2.c) n0 = c3 := ⟨_, rfl⟩
  rw [hc3]
  have HC3 := Lib.hid hc3
  clear hc3
  have hset := (Upd.refl g w10).set (n * 10 + 8) (.int .i64 c3)
  have hlt2 : n < l2.length := (List.getElem?_eq_some_iff.1 HX2.out).1
  have hRo := HRM.out.set (n * 10 + 8) (by have := HLM2.out; omega) (.int .i64 c3)
  rw [← slosC_count HPX2.out HX2.out c3] at hRo
  have HRO := Lib.hid hRo
  have HKB := Lib.hid (HK.out.of_grown hset (by have := HNG.out.1; simp; omega))
  have HZB := Lib.hid (HZ.out.of_grown hset (by have := HNG.out.2.2; simp; omega))
  have HBB := Lib.hid (bl_upd HB.out hset hg)
  clear hset hRo
  go_wp2_with fail
  refine wp_region_held_drew (S := (fun w' => w'.cell? ⟨w.heap.size, 1, none⟩ = some (.int .i64 s.room) ∧ w'.cell? ⟨w.heap.size, 2, none⟩ = some (.int .i64 s.total) ∧ Obj1 w' w.heap.size (refC (.slice A n c) s) 50)) (by kernel_rfl) (⟨HKB.out.cell 1, HKB.out.cell 2, HKB.out⟩) (fun hHeld => ?_)
  generalize hW0 : World.drew _ = W0 at hHeld ⊢
  have HRO0 := Lib.hid (show RoomO W0 g m cap 10 (slosC (l2.set n { x2 with c := c3 })) 53 by rw [← hW0]; exact HRO.out)
  have HZ0 := Lib.hid (show Obj1 W0 (w.heap.size + 2) #[.slice none 0 0, .int .i64 0, .int .i64 0] 50 by rw [← hW0]; exact HZB.out)
  have HB0 := Lib.hid (show Below w.heap.size w W0 by rw [← hW0]; exact bl_drewN HBB.out 1)
  have HX := Lib.hid hHeld
  clear hW0 hHeld rC fC
  refine wpAnyH_take (i := 0) (v := ?_) rfl (by kernel_rfl) (by kernel_rfl) (by kernel_rfl) (fun _ _ _ h => h) (Or.inl ⟨by rfl, ?_⟩) HX.out ?_
  rotate_left
  · intro w hSw; have hSw1 := hSw.1; have hSw2 := hSw.2.1; go_simp
    try with_reducible rfl
  go_simp
  refine wpAnyH_take (i := 1) (v := ?_) rfl (by kernel_rfl) (by kernel_rfl) (by kernel_rfl) (fun _ _ _ h => h) (Or.inl ⟨by rfl, ?_⟩) HX.out ?_
  rotate_left
  · intro w hSw; have hSw1 := hSw.1; have hSw2 := hSw.2.1; go_simp
    try with_reducible rfl
  go_simp
  refine wpAnyH_take (i := 2) (v := ?_) rfl (by kernel_rfl) (by kernel_rfl) (by kernel_rfl) (fun _ _ _ h => h) (Or.inl ⟨by rfl, ?_⟩) HX.out ?_
  rotate_left
  · intro w hSw; have hSw1 := hSw.1; have hSw2 := hSw.2.1; go_simp
    try with_reducible rfl
  go_simp
  refine wpAnyH_take (i := 3) (v := ?_) rfl (by kernel_rfl) (by kernel_rfl) (by kernel_rfl) (fun _ _ _ h => h) (Or.inl ⟨by rfl, ?_⟩) HX.out ?_
  rotate_left
  · intro w hSw; have hSw1 := hSw.1; have hSw2 := hSw.2.1; go_simp
    try with_reducible rfl
  go_simp
  refine wpAnyH_take (i := 4) (v := ?_) rfl (by kernel_rfl) (by kernel_rfl) (by kernel_rfl) (fun _ _ _ h => h) (Or.inl ⟨by rfl, ?_⟩) HX.out ?_
  rotate_left
  · intro w hSw; have hSw1 := hSw.1; have hSw2 := hSw.2.1; go_simp
    try with_reducible rfl
  go_simp
  refine wpAnyH_take (i := 5) (v := ?_) rfl (by kernel_rfl) (by kernel_rfl) (by kernel_rfl) (fun _ _ _ h => h) (Or.inl ⟨by rfl, ?_⟩) HX.out ?_
  rotate_left
  · intro w hSw; have hSw1 := hSw.1; have hSw2 := hSw.2.1; go_simp
    try with_reducible rfl
  go_simp
  refine wpAnyH_take (i := 8) (v := ?_) rfl (by kernel_rfl) (by kernel_rfl) (by kernel_rfl) (fun _ _ _ h => h) (Or.inl ⟨by rfl, ?_⟩) HX.out ?_
  rotate_left
  · intro w hSw; have hSw1 := hSw.1; have hSw2 := hSw.2.1; go_simp
    try with_reducible rfl
  go_simp
  refine wpAnyH_ready (rs := [6]) (by kernel_rfl) (by simp) ?_
  refine AllReadyH.cons rfl (fun K hK => ?_) AllReadyH.nil
  go_simp
  refine (rAdd_w s.total n0 _).mono ?_
  rintro e w' ⟨rfl, rfl⟩
  dsimp only
  obtain ⟨t3, ht3⟩ : ∃ t3, plus (cnt s.total) n0 = t3 := ⟨_, rfl⟩
  rw [ht3]
  have HT3 := Lib.hid ht3
  clear ht3
  refine hK.out _ _ HX.out (fun hHeld => ?_)
  clear hK K hHeld
  go_simp
  refine wpAnyH_take (i := 7) (v := ?_) rfl (by kernel_rfl) (by kernel_rfl) (by kernel_rfl) (fun _ _ _ h => h) (Or.inl ⟨by rfl, ?_⟩) HX.out ?_
  rotate_left
  · intro w hSw; have hSw1 := hSw.1; have hSw2 := hSw.2.1; go_simp
    try with_reducible rfl
  go_simp
  refine wpAnyH_ready (rs := [9]) (by kernel_rfl) (by simp) ?_
  refine AllReadyH.cons rfl (fun K hK => ?_) AllReadyH.nil
  refine gwanted rfl ?_
  refine wp_store_objR 50 (.tmp 6) (.tmp 87) rfl (w.heap.size + 2) 50 #[.slice none 0 0, .int .i64 0, .int .i64 0] (refC (.slice (some ⟨g, 0, none⟩) m cap) ⟨l2, s.room, t3⟩) rfl rfl HZ0.out rfl rfl (by simp [refC, Value.oneCell']) ?_
  intro w5 hob hup
  have HZ5 := Lib.hid hob
  have HR5 := Lib.hid (HRO0.out.grown hup (by have := HNG.out.2.2; simp; omega))
  have HK5 := Lib.hid (HX.out.2.2.of_grown hup (by simp))
  have HB5 := Lib.hid (bl_upd HB0.out hup (by omega))
  clear hob hup
  refine hK.out _ _ ⟨HK5.out.cell 1, HK5.out.cell 2, HK5.out⟩ (fun hHeld => ?_)
  clear hK K
  have HX := Lib.hid hHeld
  clear hHeld
  refine wpAnyH_take (i := 10) (v := ?_) rfl (by kernel_rfl) (by kernel_rfl) (by kernel_rfl) (fun _ _ _ h => h) (Or.inl ⟨by rfl, ?_⟩) HX.out ?_
  rotate_left
  · intro w hSw; have hSw1 := hSw.1; have hSw2 := hSw.2.1; go_simp
    try with_reducible rfl
  go_simp
  refine wpAnyH_done (by kernel_rfl) ?_ _
  go_wp2_with fail
  refine bodyPost_ret (v := .tuple #[.agg (refC (.slice (some ⟨g, 0, none⟩) m cap) ⟨l2, s.room, t3⟩), .int .i64 n]) ?_ rfl ?_
  · rw [results_cell_tmp (p := 6) (u := 7) (ty := 50) rfl]
    show (Result.andThen (.ok (⟨w.heap.size + 2, 0, none⟩ : Addr) w5) _) = _
    simp only [Result.andThen_ok]
    rw [run_loadVar_row (P := Try.prog) w5 (w.heap.size + 2) 50 50 (refC (.slice (some ⟨g, 0, none⟩) m cap) ⟨l2, s.room, t3⟩) (0, 0) _ HZ5.out Try.underlying50 rfl rfl]
    rfl
  · have hE : skAdd s p n0 = ⟨l2.set n { x2 with c := c3 }, s.room, t3⟩ := by rw [HEQ.out, HC3.out, HT3.out]
    rw [hE, HAT.out]
    exact ⟨_, rfl, RefV.of_room HR5.out (by rw [List.length_set]; exact HLM2.out) hg, HB5.out⟩

set_option maxRecDepth 100000 in
set_option maxHeartbeats 4000000 in
theorem refAddLeast_w (B0 : Nat) (v : Value) (s : Sk) (hsk : okSk s) (p : Px) (hp : okPx p) (n0 : Int) (w : World) (h : RefV w B0 v s.l) (hf : ¬ fnd s.l p < s.l.length) (hroom : ¬ s.l.length < s.room) :
    Calls Try.prog 21 #[.agg (refC v s), .agg (pxC p).toArray, .int .i64 n0] w fun e w' => ∃ v', e = .returned (.tuple #[.agg (refC v' (skAdd s p n0)), .int .i64 (skAt s p)]) ∧ RefV w' w.heap.size v' (skAdd s p n0).l ∧ Below w.heap.size w w' := by
  obtain ⟨A, c, rfl, hnc, hrd, _⟩ := h.slice hsk.px
  obtain ⟨n, hn⟩ : ∃ n, s.l.length = n := ⟨_, rfl⟩
  have hn64 : n ≤ 64 := by have := hsk.2.1; have := hsk.1.2; omega
  rw [hn] at hnc h hf hroom ⊢
  have HPA := Lib.hid (px_sizeA hp)
  have hb1 := bl_alloc (Below.refl w.heap.size w) (.cells (refC (.slice A n c) s) 50)
  have hb2 := bl_next hb1 (bl_alloc (Below.refl _ _) (.cells (pxC p).toArray 30))
  have hb3 := bl_next hb2 (bl_alloc (Below.refl _ _) (.cells #[.slice none 0 0, .int .i64 0, .int .i64 0] 50))
  obtain ⟨W1, hW1⟩ : ∃ W1, W1 = ((w.alloc (.cells (refC (.slice A n c) s) 50)).alloc (.cells (pxC p).toArray 30)).alloc (.cells #[.slice none 0 0, .int .i64 0, .int .i64 0] 50) := ⟨_, rfl⟩
  have HK1 := Lib.hid (show Obj1 W1 w.heap.size (refC (.slice A n c) s) 50 by rw [hW1]; exact ((Obj1.new w (refC (.slice A n c) s) 50).alloc _).alloc _)
  have HP1 := Lib.hid (show Obj1 W1 (w.heap.size + 1) (pxC p).toArray 30 by
    rw [hW1]
    have := (Obj1.new (w.alloc (.cells (refC (.slice A n c) s) 50)) (pxC p).toArray 30).alloc (.cells #[.slice none 0 0, .int .i64 0, .int .i64 0] 50)
    rwa [World.size_alloc] at this)
  have HZ1 := Lib.hid (show Obj1 W1 (w.heap.size + 2) #[.slice none 0 0, .int .i64 0, .int .i64 0] 50 by
    rw [hW1]
    have := Obj1.new ((w.alloc (.cells (refC (.slice A n c) s) 50)).alloc (.cells (pxC p).toArray 30)) #[.slice none 0 0, .int .i64 0, .int .i64 0] 50
    rwa [World.size_alloc, World.size_alloc] at this)
  have HB1 := Lib.hid (show Below w.heap.size w W1 by rw [hW1]; exact hb3)
  have hb4 := bl_alloc (Below.refl W1.heap.size W1) (.cells #[] 53)
  have HLIT := Lib.hid (World.ownsRow_lit (base := w.heap.size) (e := 53) (size := 10) W1 #[] 0 HB1.out.size (by simp [maxLen]) rfl)
  have HRD4 := Lib.hid (hrd.below (bl_next HB1.out hb4))
  have HB4 := Lib.hid (bl_next HB1.out hb4)
  have HN := Lib.hid hn
  have HV := Lib.hid h
  have HSP := Lib.hid hsk.px
  have hW1s : W1.heap.size = w.heap.size + 3 := by rw [hW1, World.size_alloc, World.size_alloc, World.size_alloc]
  have HWS := Lib.hid hW1s
  have HKA := Lib.hid (HK1.out.alloc (.cells #[] 53))
  have HPA4 := Lib.hid (HP1.out.alloc (.cells #[] 53))
  have HZA := Lib.hid (HZ1.out.alloc (.cells #[] 53))
  have HW1 := Lib.hid hW1
  have HE8 := Lib.hid (show some w.heap.size ≠ (Value.slice (some ⟨W1.heap.size, 0, none⟩) 0 0).ownBlock ∧ some (w.heap.size + 1) ≠ (Value.slice (some ⟨W1.heap.size, 0, none⟩) 0 0).ownBlock ∧ some (w.heap.size + 2) ≠ (Value.slice (some ⟨W1.heap.size, 0, none⟩) 0 0).ownBlock by
    rw [hW1s]
    simp [Value.ownBlock])
  have c0 : (W1.alloc (.cells #[] 53)).cell? ⟨w.heap.size, 0, none⟩ = some (.slice A n c) := HKA.out.cell 0
  clear hb1 hb2 hb3 hb4 hW1 hW1s hrd h hn
  go_enter Try.func21, Try.ntmps21
  go_upto_region 1 with (fail)
  rw [← HW1.out]
  go_wp2_with (first
    | (at_builtin; refine app_list w.heap.size rfl (.tmp 11) (.tmp 13) 48 53 (.agg #[.bool false, .int .u8 0, .int .u8 0, .int .u8 0, .int .u8 0, .int .u8 0, .int .u8 0, .int .u8 0, .int .i64 0, .int .i64 0]) 10 24 rfl Try.underlying48 (by kernel_rfl) (by simp [Value.cells]) (by omega) (by omega) _ 0 [] A n c (slosC s.l) rfl rfl HLIT.out (by rw [slosC_length HSP.out, HN.out]) HRD4.out (slosC_one _) (by omega) HB4.out.size ?_; intro v8 w8 hown8 hg8; have HO8 := Lib.hid hown8; have HK8 := Lib.hid (HKA.out.of_grown hg8 HE8.out.1); have HP8 := Lib.hid (HPA4.out.of_grown hg8 HE8.out.2.1); have HZ8 := Lib.hid (HZA.out.of_grown hg8 HE8.out.2.2); have HB8 := Lib.hid (bl_grown HB4.out HLIT.out hg8 (Nat.le_refl _)); clear hown8 hg8)
    | (refine load_obj rfl 50 (.tmp 3) rfl w.heap.size 50 (refC (.slice A n c) s) _ rfl HK8.out Try.underlying50 rfl rfl ?_)
    | (refine load_obj rfl 30 (.tmp 4) rfl (w.heap.size + 1) 30 (pxC p).toArray _ rfl HP8.out Try.underlying30 rfl HPA.out ?_))
  refine (refFind_w B0 (.slice A n c) s p HSP.out (by rw [HN.out]; exact hn64) hp _ (HV.out.below HB8.out)).mono ?_
  rintro e w9 ⟨rfl, hb9⟩
  have HO9 := Lib.hid (show w9.ownsRow w.heap.size 53 10 v8 n (slosC s.l) by
    have := own_below HO8.out hb9
    rwa [Nat.zero_add, List.nil_append] at this)
  have HK9 := Lib.hid (HK8.out.below hb9)
  have HP9 := Lib.hid (HP8.out.below hb9)
  have HZ9 := Lib.hid (HZ8.out.below hb9)
  have HB9 := Lib.hid (bl_next HB8.out hb9)
  obtain ⟨A8, c8, hv8, _, _⟩ := own_read HO9.out HSP.out
  rw [hv8] at HO9 ⊢
  clear hb9 hv8 c0 HO8 HK8 HP8 HZ8 HB8 HLIT HRD4 HB4 HKA HPA4 HZA HW1 HK1 HP1 HZ1 HB1
  have hfl : ¬ fnd s.l p < s.l.length := by rw [HN.out]; exact hf
  have hrl : ¬ s.l.length < s.room := by rw [HN.out]; exact hroom
  have hn1 : 1 ≤ n := by have := hsk.1.1; omega
  obtain ⟨k, hk⟩ : ∃ k, lst s.l n = k := ⟨_, rfl⟩
  have hkn : k < n := by
    rw [← hk]
    rcases lst_lt s.l n with h | h <;> omega
  have hkl : k < s.l.length := by rw [HN.out]; exact hkn
  obtain ⟨y, hy⟩ : ∃ y, s.l[k]? = some y := ⟨_, List.getElem?_eq_getElem hkl⟩
  obtain ⟨x2, hx2e⟩ : ∃ x2 : Slo, x2 = ⟨p, y.c, y.c⟩ := ⟨_, rfl⟩
  obtain ⟨l2, hl2⟩ : ∃ l2, skBase s p = l2 := ⟨_, rfl⟩
  have hl2s : l2 = s.l.set k x2 := by rw [← hl2]; unfold skBase; rw [if_neg hfl, if_neg hrl, HN.out, hk, cntAt_of hy, hx2e]
  have hat : skAt s p = k := by unfold skAt; rw [if_neg hfl, if_neg hrl, HN.out, hk]
  have hfv : fndV s.l p = -1 := by unfold fndV; rw [if_neg hfl]
  have hx2 : l2[k]? = some x2 := by rw [hl2s, List.getElem?_set_self hkl]
  have hx2p : okPx x2.p := by rw [hx2e]; exact hp
  have HEQ := Lib.hid (skAdd_eq (n := n0) hl2 hat hx2)
  have HAT := Lib.hid hat
  have HX2 := Lib.hid hx2
  have HPX2 := Lib.hid (show ∀ x ∈ l2, okPx x.p by
    rw [hl2s]
    intro x hx
    rcases List.mem_or_eq_of_mem_set hx with h | h
    · exact hsk.px x h
    · rw [h]; exact hx2p)
  have HLM2 := Lib.hid (show l2.length = n by rw [hl2s, List.length_set]; exact HN.out)
  have HL2 := Lib.hid hl2s
  have HXE := Lib.hid hx2e
  have HKK := Lib.hid hk
  have HY := Lib.hid hy
  have q1 : ¬ (n : Int) < (s.room : Int) := by omega
  have q2 : decide ((n : Int) < (s.room : Int)) = false := decide_eq_false q1
  have r1 : w9.cell? ⟨w.heap.size, 1, none⟩ = some (.int .i64 s.room) := HK9.out.cell 1
  rw [hfv]
  rcases own_room HO9.out with ⟨h0, _, _⟩ | ⟨g, cap, e8, hg, _, hRM⟩
  · omega
  simp only [Value.slice.injEq] at e8
  obtain ⟨rfl, _, rfl⟩ := e8
  have HR9 := Lib.hid hRM
  clear hk hl2 hl2s hat hfv hx2 hx2e hy hRM hfl hrl
  go_wp2_with fail
  go_loopw [9, 38] (fun vv i wr => ∃ j : Nat, j ≤ n ∧ i = .int .i64 j ∧ vv = .int .i64 (lst s.l j) ∧ Below w9.heap.size w9 wr) (fun _ i _ => n - (intOf i).toNat)
  case atStart => exact ⟨0, Nat.zero_le _, rfl, rfl, Below.refl _ _⟩
  case round =>
    obtain ⟨j, hj, rfl, rfl, hbel⟩ := hrel
    have HBJ := Lib.hid hbel
    clear hbel
    by_cases hlt : j < n
    · have hj0 : (0 : Int) ≤ (j : Int) := Int.natCast_nonneg j
      have hj1 : (j : Int) < (n : Int) := by omega
      obtain ⟨x, hx⟩ : ∃ x, s.l[j]? = some x := ⟨_, List.getElem?_eq_getElem (by rw [HN.out]; exact hlt)⟩
      have hll := lst_lt s.l j
      obtain ⟨at', hat⟩ : ∃ at', lst s.l j = at' := ⟨_, rfl⟩
      rw [hat] at hll
      have hatn : at' < n := by omega
      obtain ⟨z, hz⟩ : ∃ z, s.l[at']? = some z := ⟨_, List.getElem?_eq_getElem (by rw [HN.out]; exact hatn)⟩
      have hstep : lst s.l (j + 1) = if x.c < z.c then j else at' := by
        show (if cntAt s.l j < cntAt s.l (lst s.l j) then j else lst s.l j) = _
        rw [hat, cntAt_of hx, cntAt_of hz]
      have HST := Lib.hid hstep
      have r2 : wr.cell? ⟨g, j * 10 + 8, none⟩ = some (.int .i64 x.c) := (slo_count (HR9.out.below HBJ.out) HSP.out hx).1
      have r3 : wr.cell? ⟨g, at' * 10 + 8, none⟩ = some (.int .i64 z.c) := (slo_count (HR9.out.below HBJ.out) HSP.out hz).1
      have ha0 : (0 : Int) ≤ (at' : Int) := Int.natCast_nonneg at'
      have ha1 : (at' : Int) < (n : Int) := by omega
      rw [hat]
      clear hx hz hstep hat hll
      by_cases hlc : x.c < z.c
      · have d1 : decide (x.c < z.c) = true := by simp [hlc]
        go_wp2_with fail
        go_quiet (fail)
        go_wp2_with fail
        go_roundw
        case rel => exact ⟨j + 1, by omega, by go_num, by rw [HST.out, if_pos hlc], bl_drewN HBJ.out _⟩
        case measure => simp [intOf]; omega
      · have d1 : decide (x.c < z.c) = false := by simp; omega
        go_wp2_with fail
        go_quiet (fail)
        go_wp2_with fail
        go_roundw
        case rel => exact ⟨j + 1, by omega, by go_num, by rw [HST.out, if_neg (by omega)], bl_drewN HBJ.out _⟩
        case measure => simp [intOf]; omega
    · have hj1 : ¬ (j : Int) < (n : Int) := by omega
      have hjk : lst s.l j = k := by rw [show j = n by omega]; exact HKK.out
      rw [hjk]
      clear hjk
      have k0 : (0 : Int) ≤ (k : Int) := Int.natCast_nonneg k
      have k1 : (k : Int) < (n : Int) := by omega
      have HRJ := Lib.hid (HR9.out.below HBJ.out)
      have HKJ := Lib.hid (HK9.out.below HBJ.out)
      have HPJ := Lib.hid (HP9.out.below HBJ.out)
      have HZJ := Lib.hid (HZ9.out.below HBJ.out)
      have HBB9 := Lib.hid (bl_next HB9.out HBJ.out)
      have HYC := Lib.hid (slo_count HRJ.out HSP.out HY.out).1
      go_wp2_with fail
      refine wp_region_held_drew (S := (fun w' => w'.cell? ⟨g, k * 10 + 8, none⟩ = some (.int .i64 y.c) ∧ w'.cell? ⟨w.heap.size, 1, none⟩ = some (.int .i64 s.room) ∧ Obj1 w' (w.heap.size + 1) (pxC p).toArray 30)) (by kernel_rfl) (⟨HYC.out, HKJ.out.cell 1, HPJ.out⟩) (fun hHeld => ?_)
      generalize hW0 : World.drew _ = W0 at hHeld ⊢
      have HRA := Lib.hid (show RoomO W0 g n c8 10 (slosC s.l) 53 by rw [← hW0]; exact HRJ.out)
      have HKA := Lib.hid (show Obj1 W0 w.heap.size (refC (.slice A n c) s) 50 by rw [← hW0]; exact HKJ.out)
      have HPAA := Lib.hid (show Obj1 W0 (w.heap.size + 1) (pxC p).toArray 30 by rw [← hW0]; exact HPJ.out)
      have HZA := Lib.hid (show Obj1 W0 (w.heap.size + 2) #[.slice none 0 0, .int .i64 0, .int .i64 0] 50 by rw [← hW0]; exact HZJ.out)
      have HBA := Lib.hid (show Below w.heap.size w W0 by rw [← hW0]; exact bl_drewN HBB9.out 1)
      have HX := Lib.hid hHeld
      clear hW0 hHeld
      refine wpAnyH_take (i := 0) (v := ?_) rfl (by kernel_rfl) (by kernel_rfl) (by kernel_rfl) (fun _ _ _ h => h) (Or.inl ⟨by rfl, ?_⟩) HX.out ?_
      rotate_left
      · intro w hSw; have hSw1 := hSw.1; have hSw2 := hSw.2.1; go_simp
        try with_reducible rfl
      go_simp
      refine wpAnyH_take (i := 1) (v := ?_) rfl (by kernel_rfl) (by kernel_rfl) (by kernel_rfl) (fun _ _ _ h => h) (Or.inl ⟨by rfl, ?_⟩) HX.out ?_
      rotate_left
      · intro w hSw; have hSw1 := hSw.1; have hSw2 := hSw.2.1; go_simp
        try with_reducible rfl
      go_simp
      refine wpAnyH_take (i := 2) (v := .agg (pxC p).toArray) rfl (by kernel_rfl) (by kernel_rfl) (by kernel_rfl) (fun _ _ _ h => h) (Or.inl ⟨by rfl, ?_⟩) HX.out ?_
      · intro w' hSw
        have hld := run_loadVar_row (P := Try.prog) w' (w.heap.size + 1) 30 30 (pxC p).toArray (0, 0) _ hSw.2.2 Try.underlying30 rfl HPA.out
        simp [execOp, Act.eval, Instr.loadAt, Instr.sureAddr, Sem.run_bind, hld, Result.andThen]
      go_simp
      refine wpAnyH_take (i := 3) (v := ?_) rfl (by kernel_rfl) (by kernel_rfl) (by kernel_rfl) (fun _ _ _ h => h) (Or.inl ⟨by rfl, ?_⟩) HX.out ?_
      rotate_left
      · intro w hSw; have hSw1 := hSw.1; have hSw2 := hSw.2.1; go_simp
        try with_reducible rfl
      go_simp
      refine wpAnyH_take (i := 4) (v := ?_) rfl (by kernel_rfl) (by kernel_rfl) (by kernel_rfl) (fun _ _ _ h => h) (Or.inl ⟨by rfl, ?_⟩) HX.out ?_
      rotate_left
      · intro w hSw; have hSw1 := hSw.1; have hSw2 := hSw.2.1; go_simp
        try with_reducible rfl
      go_simp
      refine wpAnyH_take (i := 5) (v := ?_) rfl (by kernel_rfl) (by kernel_rfl) (by kernel_rfl) (fun _ _ _ h => h) (Or.inl ⟨by rfl, ?_⟩) HX.out ?_
      rotate_left
      · intro w hSw; have hSw1 := hSw.1; have hSw2 := hSw.2.1; go_simp
        try with_reducible rfl
      go_simp
      refine wpAnyH_take (i := 6) (v := ?_) rfl (by kernel_rfl) (by kernel_rfl) (by kernel_rfl) (fun _ _ _ h => h) (Or.inl ⟨by rfl, ?_⟩) HX.out ?_
      rotate_left
      · intro w hSw; have hSw1 := hSw.1; have hSw2 := hSw.2.1; go_simp
        try with_reducible rfl
      go_simp
      refine wpAnyH_take (i := 7) (v := ?_) rfl (by kernel_rfl) (by kernel_rfl) (by kernel_rfl) (fun _ _ _ h => h) (Or.inl ⟨by rfl, ?_⟩) HX.out ?_
      rotate_left
      · intro w hSw; have hSw1 := hSw.1; have hSw2 := hSw.2.1; go_simp
        try with_reducible rfl
      go_simp
      refine wpAnyH_take (i := 8) (v := ?_) rfl (by kernel_rfl) (by kernel_rfl) (by kernel_rfl) (fun _ _ _ h => h) (Or.inl ⟨by rfl, ?_⟩) HX.out ?_
      rotate_left
      · intro w hSw; have hSw1 := hSw.1; have hSw2 := hSw.2.1; go_simp
        try with_reducible rfl
      go_simp
      refine wpAnyH_take (i := 9) (v := ?_) rfl (by kernel_rfl) (by kernel_rfl) (by kernel_rfl) (fun _ _ _ h => h) (Or.inl ⟨by rfl, ?_⟩) HX.out ?_
      rotate_left
      · intro w hSw; have hSw1 := hSw.1; have hSw2 := hSw.2.1; go_simp
        try with_reducible rfl
      go_simp
      refine wpAnyH_take (i := 10) (v := ?_) rfl (by kernel_rfl) (by kernel_rfl) (by kernel_rfl) (fun _ _ _ h => h) (Or.inl ⟨by rfl, ?_⟩) HX.out ?_
      rotate_left
      · intro w hSw; have hSw1 := hSw.1; have hSw2 := hSw.2.1; go_simp
        try with_reducible rfl
      go_simp
      refine wpAnyH_take (i := 11) (v := ?_) rfl (by kernel_rfl) (by kernel_rfl) (by kernel_rfl) (fun _ _ _ h => h) (Or.inl ⟨by rfl, ?_⟩) HX.out ?_
      rotate_left
      · intro w hSw; have hSw1 := hSw.1; have hSw2 := hSw.2.1; go_simp
        try with_reducible rfl
      go_simp
      refine wpAnyH_take (i := 12) (v := ?_) rfl (by kernel_rfl) (by kernel_rfl) (by kernel_rfl) (fun _ _ _ h => h) (Or.inl ⟨by rfl, ?_⟩) HX.out ?_
      rotate_left
      · intro w hSw; have hSw1 := hSw.1; have hSw2 := hSw.2.1; go_simp
        try with_reducible rfl
      go_simp
      refine wpAnyH_take (i := 13) (v := .agg (sloC x2).toArray) rfl (by kernel_rfl) (by kernel_rfl) (by kernel_rfl) (fun _ _ _ h => h) (Or.inl ⟨by rfl, ?_⟩) HX.out ?_
      · intro w' hSw
        have hbd := run_build (P := Try.prog) w' 53 #[(0, .agg (pxC p).toArray), (1, .int .i64 y.c), (2, .int .i64 y.c)] _ (built_slotR hp y.c y.c)
        rw [← HXE.out] at hbd
        simp [execOp, Act.eval, Sem.run_bind, hbd, Result.andThen]
      go_simp
      refine wpAnyH_take (i := 14) (v := ?_) rfl (by kernel_rfl) (by kernel_rfl) (by kernel_rfl) (fun _ _ _ h => h) (Or.inl ⟨by rfl, ?_⟩) HX.out ?_
      rotate_left
      · intro w hSw; have hSw1 := hSw.1; have hSw2 := hSw.2.1; go_simp
        try with_reducible rfl
      go_simp
      refine wpAnyH_ready (rs := [15]) (by kernel_rfl) (by simp) ?_
      refine AllReadyH.cons rfl (fun K hK => ?_) AllReadyH.nil
      refine gwanted rfl ?_
      have hxl := sloC_length (s := x2) hx2p
      refine wp_store_mid 53 (.tmp 68) (.tmp 67) rfl g (k * 10) (sloC x2).toArray rfl rfl (by rw [show (sloC x2).toArray.size = 10 by simp [hxl]]; exact HRA.out.there hkn) (slo_sizeAR (s := x2) hx2p) (all_oneCell_toArray (sloC_one x2)) ?_
      show K _ (World.setCells W0 g (k * 10) (sloC x2))
      have hmid := HRA.out.mid hsk.px hkl hx2p
      have HNG0 := Lib.hid (show g ≠ w.heap.size ∧ g ≠ w.heap.size + 1 ∧ g ≠ w.heap.size + 2 from ⟨HRA.out.neObj HKA.out (by decide), HRA.out.neObj HPAA.out (by decide), HRA.out.neObj HZA.out (by decide)⟩)
      have HRM := Lib.hid (show RoomO (World.setCells W0 g (k * 10) (sloC x2)) g n c8 10 (slosC l2) 53 by rw [HL2.out]; exact hmid.1)
      have HK := Lib.hid (HKA.out.of_grown hmid.2 (by have := HNG0.out.1; simp; omega))
      have HP := Lib.hid (HPAA.out.of_grown hmid.2 (by have := HNG0.out.2.1; simp; omega))
      have HZ := Lib.hid (HZA.out.of_grown hmid.2 (by have := HNG0.out.2.2; simp; omega))
      have HB := Lib.hid (bl_upd HBA.out hmid.2 hg)
      have HXC := Lib.hid (slo_count HRM.out HPX2.out HX2.out).1
      refine hK.out _ _ ⟨by rw [HXC.out, HXE.out], HK.out.cell 1, HP.out⟩ (fun hHeld => ?_)
      clear hK K
      refine wpAnyH_done (by kernel_rfl) ?_ _
      clear hmid hHeld
      generalize hW9 : World.setCells W0 _ _ _ = W9 at HRM HK HP HZ HB ⊢
      clear hW9 HXC HRA HKA HPAA HZA HBA HX
      have rC : W9.cell? ⟨g, k * 10 + 8, none⟩ = some (.int .i64 x2.c) := (slo_count HRM.out HPX2.out HX2.out).1
      have fC : W9.frozen? ⟨g, k * 10 + 8, none⟩ = false := HRM.out.free _
      have HNG := Lib.hid (show g ≠ w.heap.size ∧ g ≠ w.heap.size + 1 ∧ g ≠ w.heap.size + 2 from ⟨HRM.out.neObj HK.out (by decide), HRM.out.neObj HP.out (by decide), HRM.out.neObj HZ.out (by decide)⟩)
      go_wp2_with fail
      refine (rAdd_w x2.c n0 _).mono ?_
      rintro e w' ⟨rfl, rfl⟩
      obtain ⟨c3, hc3⟩ : ∃ c3, plus (cnt x2.c) n0 = c3 := ⟨_, rfl⟩
      rw [hc3]
      have HC3 := Lib.hid hc3
      clear hc3
      have hset := (Upd.refl g W9).set (k * 10 + 8) (.int .i64 c3)
      have hlt2 : k < l2.length := (List.getElem?_eq_some_iff.1 HX2.out).1
      have hRo := HRM.out.set (k * 10 + 8) (by have := HLM2.out; omega) (.int .i64 c3)
      rw [← slosC_count HPX2.out HX2.out c3] at hRo
      have HRO := Lib.hid hRo
      have HKB := Lib.hid (HK.out.of_grown hset (by have := HNG.out.1; simp; omega))
      have HZB := Lib.hid (HZ.out.of_grown hset (by have := HNG.out.2.2; simp; omega))
      have HBB := Lib.hid (bl_upd HB.out hset hg)
      clear hset hRo
      go_wp2_with fail
      refine wp_region_held_drew (S := (fun w' => w'.cell? ⟨w.heap.size, 1, none⟩ = some (.int .i64 s.room) ∧ w'.cell? ⟨w.heap.size, 2, none⟩ = some (.int .i64 s.total) ∧ Obj1 w' w.heap.size (refC (.slice A n c) s) 50)) (by kernel_rfl) (⟨HKB.out.cell 1, HKB.out.cell 2, HKB.out⟩) (fun hHeld => ?_)
      generalize hW0 : World.drew _ = W0 at hHeld ⊢
      have HRO0 := Lib.hid (show RoomO W0 g n c8 10 (slosC (l2.set k { x2 with c := c3 })) 53 by rw [← hW0]; exact HRO.out)
      have HZ0 := Lib.hid (show Obj1 W0 (w.heap.size + 2) #[.slice none 0 0, .int .i64 0, .int .i64 0] 50 by rw [← hW0]; exact HZB.out)
      have HB0 := Lib.hid (show Below w.heap.size w W0 by rw [← hW0]; exact bl_drewN HBB.out 1)
      have HX := Lib.hid hHeld
      clear hW0 hHeld rC fC
      refine wpAnyH_take (i := 0) (v := ?_) rfl (by kernel_rfl) (by kernel_rfl) (by kernel_rfl) (fun _ _ _ h => h) (Or.inl ⟨by rfl, ?_⟩) HX.out ?_
      rotate_left
      · intro w hSw; have hSw1 := hSw.1; have hSw2 := hSw.2.1; go_simp
        try with_reducible rfl
      go_simp
      refine wpAnyH_take (i := 1) (v := ?_) rfl (by kernel_rfl) (by kernel_rfl) (by kernel_rfl) (fun _ _ _ h => h) (Or.inl ⟨by rfl, ?_⟩) HX.out ?_
      rotate_left
      · intro w hSw; have hSw1 := hSw.1; have hSw2 := hSw.2.1; go_simp
        try with_reducible rfl
      go_simp
      refine wpAnyH_take (i := 2) (v := ?_) rfl (by kernel_rfl) (by kernel_rfl) (by kernel_rfl) (fun _ _ _ h => h) (Or.inl ⟨by rfl, ?_⟩) HX.out ?_
      rotate_left
      · intro w hSw; have hSw1 := hSw.1; have hSw2 := hSw.2.1; go_simp
        try with_reducible rfl
      go_simp
      refine wpAnyH_take (i := 3) (v := ?_) rfl (by kernel_rfl) (by kernel_rfl) (by kernel_rfl) (fun _ _ _ h => h) (Or.inl ⟨by rfl, ?_⟩) HX.out ?_
      rotate_left
      · intro w hSw; have hSw1 := hSw.1; have hSw2 := hSw.2.1; go_simp
        try with_reducible rfl
      go_simp
      refine wpAnyH_take (i := 4) (v := ?_) rfl (by kernel_rfl) (by kernel_rfl) (by kernel_rfl) (fun _ _ _ h => h) (Or.inl ⟨by rfl, ?_⟩) HX.out ?_
      rotate_left
      · intro w hSw; have hSw1 := hSw.1; have hSw2 := hSw.2.1; go_simp
        try with_reducible rfl
      go_simp
      refine wpAnyH_take (i := 5) (v := ?_) rfl (by kernel_rfl) (by kernel_rfl) (by kernel_rfl) (fun _ _ _ h => h) (Or.inl ⟨by rfl, ?_⟩) HX.out ?_
      rotate_left
      · intro w hSw; have hSw1 := hSw.1; have hSw2 := hSw.2.1; go_simp
        try with_reducible rfl
      go_simp
      refine wpAnyH_take (i := 8) (v := ?_) rfl (by kernel_rfl) (by kernel_rfl) (by kernel_rfl) (fun _ _ _ h => h) (Or.inl ⟨by rfl, ?_⟩) HX.out ?_
      rotate_left
      · intro w hSw; have hSw1 := hSw.1; have hSw2 := hSw.2.1; go_simp
        try with_reducible rfl
      go_simp
      refine wpAnyH_ready (rs := [6]) (by kernel_rfl) (by simp) ?_
      refine AllReadyH.cons rfl (fun K hK => ?_) AllReadyH.nil
      go_simp
      refine (rAdd_w s.total n0 _).mono ?_
      rintro e w' ⟨rfl, rfl⟩
      dsimp only
      obtain ⟨t3, ht3⟩ : ∃ t3, plus (cnt s.total) n0 = t3 := ⟨_, rfl⟩
      rw [ht3]
      have HT3 := Lib.hid ht3
      clear ht3
      refine hK.out _ _ HX.out (fun hHeld => ?_)
      clear hK K hHeld
      go_simp
      refine wpAnyH_take (i := 7) (v := ?_) rfl (by kernel_rfl) (by kernel_rfl) (by kernel_rfl) (fun _ _ _ h => h) (Or.inl ⟨by rfl, ?_⟩) HX.out ?_
      rotate_left
      · intro w hSw; have hSw1 := hSw.1; have hSw2 := hSw.2.1; go_simp
        try with_reducible rfl
      go_simp
      refine wpAnyH_ready (rs := [9]) (by kernel_rfl) (by simp) ?_
      refine AllReadyH.cons rfl (fun K hK => ?_) AllReadyH.nil
      refine gwanted rfl ?_
      refine wp_store_objR 50 (.tmp 6) (.tmp 87) rfl (w.heap.size + 2) 50 #[.slice none 0 0, .int .i64 0, .int .i64 0] (refC (.slice (some ⟨g, 0, none⟩) n c8) ⟨l2, s.room, t3⟩) rfl rfl HZ0.out rfl rfl (by simp [refC, Value.oneCell']) ?_
      intro w5 hob hup
      have HZ5 := Lib.hid hob
      have HR5 := Lib.hid (HRO0.out.grown hup (by have := HNG.out.2.2; simp; omega))
      have HK5 := Lib.hid (HX.out.2.2.of_grown hup (by simp))
      have HB5 := Lib.hid (bl_upd HB0.out hup (by omega))
      clear hob hup
      refine hK.out _ _ ⟨HK5.out.cell 1, HK5.out.cell 2, HK5.out⟩ (fun hHeld => ?_)
      clear hK K
      have HX := Lib.hid hHeld
      clear hHeld
      refine wpAnyH_take (i := 10) (v := ?_) rfl (by kernel_rfl) (by kernel_rfl) (by kernel_rfl) (fun _ _ _ h => h) (Or.inl ⟨by rfl, ?_⟩) HX.out ?_
      rotate_left
      · intro w hSw; have hSw1 := hSw.1; have hSw2 := hSw.2.1; go_simp
        try with_reducible rfl
      go_simp
      refine wpAnyH_done (by kernel_rfl) ?_ _
      go_wp2_with fail
      refine bodyPost_ret (v := .tuple #[.agg (refC (.slice (some ⟨g, 0, none⟩) n c8) ⟨l2, s.room, t3⟩), .int .i64 k]) ?_ rfl ?_
      · rw [results_cell_tmp (p := 6) (u := 7) (ty := 50) rfl]
        show (Result.andThen (.ok (⟨w.heap.size + 2, 0, none⟩ : Addr) w5) _) = _
        simp only [Result.andThen_ok]
        rw [run_loadVar_row (P := Try.prog) w5 (w.heap.size + 2) 50 50 (refC (.slice (some ⟨g, 0, none⟩) n c8) ⟨l2, s.room, t3⟩) (0, 0) _ HZ5.out Try.underlying50 rfl rfl]
        rfl
      · have hE : skAdd s p n0 = ⟨l2.set k { x2 with c := c3 }, s.room, t3⟩ := by rw [HEQ.out, HC3.out, HT3.out]
        rw [hE, HAT.out]
        exact ⟨_, rfl, RefV.of_room HR5.out (by rw [List.length_set]; exact HLM2.out) hg, HB5.out⟩

theorem refAdd_w (B0 : Nat) (v : Value) (s : Sk) (hsk : okSk s) (p : Px) (hp : okPx p) (n0 : Int) (w : World) (h : RefV w B0 v s.l) :
    Calls Try.prog 21 #[.agg (refC v s), .agg (pxC p).toArray, .int .i64 n0] w fun e w' => ∃ v', e = .returned (.tuple #[.agg (refC v' (skAdd s p n0)), .int .i64 (skAt s p)]) ∧ RefV w' w.heap.size v' (skAdd s p n0).l ∧ Below w.heap.size w w' := by
  by_cases h1 : fnd s.l p < s.l.length
  · exact refAddFound_w B0 v s hsk p hp n0 w h h1
  · by_cases h2 : s.l.length < s.room
    · exact refAddRoom_w B0 v s hsk p hp n0 w h h1 h2
    · exact refAddLeast_w B0 v s hsk p hp n0 w h h1 h2
end Go.Proofs.Ytdmfmanmhlnleaa
