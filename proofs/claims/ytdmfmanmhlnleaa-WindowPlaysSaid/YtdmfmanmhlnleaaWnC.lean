/- The document's window; Tune; a window that is nobody's. -/
import Derived.Test.YtdmfmanmhlnleaaSkS
import Derived.Test.YtdmfmanmhlnleaaWindowBackW
namespace Go.Proofs.Ytdmfmanmhlnleaa
open Go.RowKit
set_option linter.unusedVariables false
set_option linter.unusedSimpArgs false

theorem wdNumberNil_w (w : World) : Calls Try.prog 28 #[.pointer none] w fun e w' => e = .returned (.int .i64 0) ∧ w = w' := by
  go_enter Try.func28, Try.ntmps28
  go_wp2
  go_ret
  exact ⟨rfl, rfl⟩
theorem wdSlotsNil_w (w : World) : Calls Try.prog 29 #[.pointer none] w fun e w' => e = .returned (.slice none 0 0) ∧ w = w' := by
  go_enter Try.func29, Try.ntmps29
  go_wp2
  go_ret
  exact ⟨rfl, rfl⟩
theorem wdTuneNil_w (n : Int) (w : World) : Calls Try.prog 30 #[.pointer none, .int .i64 n] w fun e w' => e = .returned (.bool false) ∧ w = w' := by
  go_enter Try.func30, Try.ntmps30
  go_wp2
  go_ret
  exact ⟨rfl, rfl⟩
theorem wdAddNil_w (now : Int) (cs : Array Value) (n : Int) (w : World) : Calls Try.prog 27 #[.pointer none, .int .i64 now, .agg cs, .int .i64 n] w fun e w' => e = .returned (.bool false) ∧ Below w.heap.size w w' := by
  go_enter Try.func27, Try.ntmps27
  go_wp2
  go_ret
  exact ⟨rfl, bl_alloc (Below.refl _ _) _⟩
theorem wdTuneYes_w (B S L m : Nat) (d : Wd) (n : Int) (hn : mayB n = true) (w : World) (h : WdO w B S L m d) :
    Calls Try.prog 30 #[.pointer (some ⟨B, 0, none⟩), .int .i64 n] w fun e w' => e = .returned (.bool true) ∧ WdO w' B S L m { d with thr := n } ∧ Upd B w w' := by
  have c2 : w.cell? ⟨B, 2, none⟩ = some (.int .i64 d.thr) := h.1.cell 2
  have f2 : w.frozen? ⟨B, 2, none⟩ = false := h.1.free 2
  have H := Lib.hid h
  have HN := Lib.hid hn
  clear h hn
  go_enter Try.func30, Try.ntmps30
  go_wp2_with fail
  refine (may_w n _).mono ?_
  rintro e w' ⟨rfl, rfl⟩
  rw [HN.out]
  go_wp2
  go_ret
  have hu := (Upd.refl B w).set 2 (.int .i64 n)
  have hne := H.out.ne
  exact ⟨rfl, ⟨H.out.1.set 2 _, H.out.2.grown hu (by simp; omega) (by simp; omega)⟩, hu⟩
theorem wdTuneNo_w (B S L m : Nat) (d : Wd) (n : Int) (hn : mayB n = false) (w : World) (h : WdO w B S L m d) :
    Calls Try.prog 30 #[.pointer (some ⟨B, 0, none⟩), .int .i64 n] w fun e w' => e = .returned (.bool false) ∧ w = w' := by
  have HN := Lib.hid hn
  clear h hn
  go_enter Try.func30, Try.ntmps30
  go_wp2_with fail
  refine (may_w n _).mono ?_
  rintro e w' ⟨rfl, rfl⟩
  rw [HN.out]
  go_wp2
  go_ret
  exact ⟨rfl, rfl⟩

/-- The document's window. -/
def refWC (v : Value) (d : Wd) : Array Value := #[v, .int .i64 d.s.room, .int .i64 d.s.total, .int .i64 d.ns, .int .i64 d.thr, .int .i64 d.num]
theorem refWC_one {A : Option Addr} {n c : Nat} {d : Wd} : (refWC (.slice A n c) d).all (·.oneCell') = true := by simp [refWC, Value.oneCell']
theorem refWNew_w (n : Nat) (ns thr : Int) (w : World) : Calls Try.prog 31 #[.int .i64 n, .int .i64 ns, .int .i64 thr] w fun e w' => e = .returned (.agg (refWC (.slice none 0 0) (wdNew n ns thr))) ∧ Below w.heap.size w w' := by
  go_enter Try.func31, Try.ntmps31
  go_wp2_with (refine store_obj rfl 71 (.tmp 6) (.tmp 11) rfl w.heap.size 71 _ (refWC (.slice none 0 0) (wdNew n ns thr)) rfl rfl (Obj1.new _ _ _) rfl rfl refWC_one ?_; intro w9 hob9 hup9; have HOB9 := Lib.hid hob9; have HUP9 := Lib.hid hup9; clear hob9 hup9)
  refine bodyPost_ret (results_cell_row rfl _ _ w.heap.size 71 (refWC (.slice none 0 0) (wdNew n ns thr)) (0, 0) _ rfl HOB9.out Try.underlying71 rfl rfl) rfl ?_
  exact ⟨rfl, bl_upd (bl_alloc (Below.refl _ _) _) HUP9.out (Nat.le_refl _)⟩
section
variable {P : Program} {ops : Array Oper} {rest : List Oper} {o : Oper} {a : Act} {Q : Exit → Act → World → Prop} {w : World}
/-- The window's sketch is written. -/
theorem store_refS (hgd : o.guard = none) (ty : TypeId) (x y : Operand) (ho : o.op = .store ty x y) (K : Nat) (t : TypeId) (v : Value) (d : Wd) (h : Obj1 w K (refWC v d) t) (v2 : Value) (s2 : Sk)
    (hx : a.eval x = .pointer (some ⟨K, 0, none⟩)) (hy : a.eval y = .agg (refC v2 s2)) (hi : (P.info? ty).map (·.size) = some (refC v2 s2).size) (h1 : (refC v2 s2).all (·.oneCell') = true)
    (hK : ∀ w5, Obj1 w5 K (refWC v2 { d with s := s2 }) t → Upd K w w5 → wpList P ops Q rest (a.put o.dst undef) w5) : wpList P ops Q (o :: rest) a w := by
  refine wpList_store_mid hgd ty x y ho K 0 (refC v2 s2) hx hy ?_ hi h1 ?_
  · intro j hj
    have hj3 : j < 3 := hj
    rw [Nat.zero_add, h.cell, h.free]
    refine ⟨?_, rfl⟩
    match j, hj3 with
    | 0, _ => rfl
    | 1, _ => rfl
    | 2, _ => rfl
  · have hm := setCells_mid K t (refC v2 s2).toList 0 _ w h (by simp [refC, refWC])
    exact hK _ hm.1 hm.2
end
theorem skAdd_some {s : Sk} (p : Px) (n : Int) (hok : okSk s) : ∃ x, (skAdd s p n).l[skAt s p]? = some x := by
  by_cases h1 : fnd s.l p < s.l.length
  · obtain ⟨y, hy, hp⟩ := fnd_at h1
    have e1 : skBase s p = s.l := by unfold skBase; rw [if_pos h1]
    have e2 : skAt s p = fnd s.l p := by unfold skAt; rw [if_pos h1]
    rw [skAdd_eq e1 e2 hy, e2]
    exact ⟨_, List.getElem?_set_self h1⟩
  · by_cases hr : s.l.length < s.room
    · have e1 : skBase s p = s.l ++ [⟨p, 0, 0⟩] := by unfold skBase; rw [if_neg h1, if_pos hr]
      have e2 : skAt s p = s.l.length := by unfold skAt; rw [if_neg h1, if_pos hr]
      rw [skAdd_eq e1 e2 (x := ⟨p, 0, 0⟩) (by simp), e2]
      exact ⟨_, List.getElem?_set_self (by simp)⟩
    · have hlen : 0 < s.l.length := by have := hok.1.1; omega
      have hkl : lst s.l s.l.length < s.l.length := by rcases lst_lt s.l s.l.length with h | h <;> omega
      have e1 : skBase s p = s.l.set (lst s.l s.l.length) ⟨p, cntAt s.l (lst s.l s.l.length), cntAt s.l (lst s.l s.l.length)⟩ := by unfold skBase; rw [if_neg h1, if_neg hr]
      have e2 : skAt s p = lst s.l s.l.length := by unfold skAt; rw [if_neg h1, if_neg hr]
      rw [skAdd_eq e1 e2 (x := ⟨p, cntAt s.l (lst s.l s.l.length), cntAt s.l (lst s.l s.l.length)⟩) (by rw [List.getElem?_set_self hkl]), e2]
      exact ⟨_, List.getElem?_set_self (by simpa using hkl)⟩
/-- A row that is only read stays as it is where another block is written. -/
theorem RefV.one {w w' : World} {B0 X : Nat} {A : Option Addr} {n c : Nat} {l : List Slo} (h : RefV w B0 (.slice A n c) l) (hu : Upd X w w') (hX : ∀ ad, A = some ad → ad.block ≠ X) : RefV w' B0 (.slice A n c) l := by
  obtain ⟨A2, c2, e, h2, h3, h4⟩ := h
  cases e
  exact ⟨A, c, rfl, h2, h3, h4.upd hu hX⟩

set_option maxRecDepth 100000 in
set_option maxHeartbeats 4000000 in
theorem refWAdd_w (B0 : Nat) (v : Value) (d : Wd) (hd : okWd d) (now : Int) (p : Px) (hp : okPx p) (n : Int) (w : World) (hB0 : B0 ≤ w.heap.size) (h : RefV w B0 v d.s.l) :
    Calls Try.prog 32 #[.agg (refWC v d), .int .i64 now, .agg (pxC p).toArray, .int .i64 n] w fun e w' => ∃ v' x, e = .returned (.tuple #[.agg (refWC v' (wdAdd d now p n)), .bool (decide (d.thr ≤ x.c - x.e))]) ∧ (wdAdd d now p n).s.l[skAt (wdTurn d now).s p]? = some x ∧ RefV w' w.heap.size v' (wdAdd d now p n).s.l ∧ Below w.heap.size w w' := by
  have HPA := Lib.hid (px_sizeA hp)
  have hb1 := bl_alloc (Below.refl w.heap.size w) (.cells (refWC v d) 71)
  have hb2 := bl_next hb1 (bl_alloc (Below.refl _ _) (.cells (pxC p).toArray 30))
  have hb3 := bl_next hb2 (bl_alloc (Below.refl _ _) (.cells #[.slice none 0 0, .int .i64 0, .int .i64 0, .int .i64 0, .int .i64 0, .int .i64 0] 71))
  obtain ⟨W1, hW1⟩ : ∃ W1, W1 = ((w.alloc (.cells (refWC v d) 71)).alloc (.cells (pxC p).toArray 30)).alloc (.cells #[.slice none 0 0, .int .i64 0, .int .i64 0, .int .i64 0, .int .i64 0, .int .i64 0] 71) := ⟨_, rfl⟩
  have HK1 := Lib.hid (show Obj1 W1 w.heap.size (refWC v d) 71 by rw [hW1]; exact ((Obj1.new w (refWC v d) 71).alloc _).alloc _)
  have HP1 := Lib.hid (show Obj1 W1 (w.heap.size + 1) (pxC p).toArray 30 by
    rw [hW1]
    have := (Obj1.new (w.alloc (.cells (refWC v d) 71)) (pxC p).toArray 30).alloc (.cells #[.slice none 0 0, .int .i64 0, .int .i64 0, .int .i64 0, .int .i64 0, .int .i64 0] 71)
    rwa [World.size_alloc] at this)
  have HZ1 := Lib.hid (show Obj1 W1 (w.heap.size + 2) #[.slice none 0 0, .int .i64 0, .int .i64 0, .int .i64 0, .int .i64 0, .int .i64 0] 71 by
    rw [hW1]
    have := Obj1.new ((w.alloc (.cells (refWC v d) 71)).alloc (.cells (pxC p).toArray 30)) #[.slice none 0 0, .int .i64 0, .int .i64 0, .int .i64 0, .int .i64 0, .int .i64 0] 71
    rwa [World.size_alloc, World.size_alloc] at this)
  have HB1 := Lib.hid (show Below w.heap.size w W1 by rw [hW1]; exact hb3)
  have HV1 := Lib.hid (h.below HB1.out)
  have HW1 := Lib.hid hW1
  have HBG := Lib.hid hB0
  obtain ⟨n1, hn1⟩ : ∃ n1, min now 4611686018427387903 = n1 := ⟨_, rfl⟩
  have HN1 := Lib.hid hn1
  have HAT := wdAt_range hd now
  obtain ⟨nu, hnu⟩ : ∃ nu, wdAt d now = nu := ⟨_, rfl⟩
  rw [hnu] at HAT
  have hns : 1 ≤ d.ns := hd.2.1.1
  have hn0 : ¬ d.ns = 0 := by omega
  have hnm : ¬ d.ns = -1 := by omega
  have HNU := Lib.hid hnu
  have hqp : 0 < n1 → n1.tdiv d.ns = nu := by
    intro hp0
    rw [← hnu, Int.tdiv_eq_ediv_of_nonneg (by omega)]
    unfold wdAt
    rw [hn1, show max 0 n1 = n1 by omega]
  have hq0 : ¬ 0 < n1 → nu = 0 := by
    intro hp0
    rw [← hnu]
    unfold wdAt
    rw [hn1, show max 0 n1 = 0 by omega]
    simp
  have HQP := Lib.hid hqp
  have HQ0 := Lib.hid hq0
  have a0 : IntKind.i64.wrap nu = nu := IntWalk.i64_in _ (by omega)
  have hnum0 : 0 ≤ d.num := hd.2.2.2.1
  have hokt := wdTurn_ok hd now
  have HTN := Lib.hid (wdTurn_ns d now)
  clear hb1 hb2 hb3 hn1 hnu hqp hq0 h hW1 hB0
  go_enter Try.func32, Try.ntmps32
  go_upto_if 12 with (fail)
  rw [← HW1.out]
  go_cut [1] from 11 to 61 (fun s1 wx => s1 = .int .i64 n1 ∧ wx = W1)
  case first =>
    by_cases hbig : 4611686018427387903 < now
    · have hv1 : n1 = 4611686018427387903 := by rw [← HN1.out]; omega
      have HV1 := Lib.hid hv1
      clear hv1
      go_wp2_with fail
      go_meet
      case rel => exact ⟨by rw [HV1.out], rfl⟩
    · have hv1 : n1 = now := by rw [← HN1.out]; omega
      have HV1 := Lib.hid hv1
      clear hv1
      go_wp2_with fail
      go_meet
      case rel => exact ⟨by rw [HV1.out], rfl⟩
  case rest =>
    obtain ⟨rfl, rfl⟩ := hcut
    obtain ⟨wq, hwq⟩ : ∃ wq, wq = wc := ⟨_, rfl⟩
    rw [← hwq] at HK1 HP1 HZ1 HB1 HV1 ⊢
    clear hwq HW1
    have c3 : wq.cell? ⟨w.heap.size, 3, none⟩ = some (.int .i64 d.ns) := HK1.out.cell 3
    have c5 : wq.cell? ⟨w.heap.size, 5, none⟩ = some (.int .i64 d.num) := HK1.out.cell 5
    have c1 : wq.cell? ⟨w.heap.size, 1, none⟩ = some (.int .i64 d.s.room) := HK1.out.cell 1
    have f5 : wq.frozen? ⟨w.heap.size, 5, none⟩ = false := HK1.out.free 5
    obtain ⟨d1, hd1⟩ : ∃ d1, wdTurn d now = d1 := ⟨_, rfl⟩
    rw [hd1] at hokt HTN
    have HOK1 := Lib.hid hokt
    have HADD := Lib.hid (show wdAdd d now p n = { d1 with s := skAdd d1.s p n } by rw [← hd1]; rfl)
    have HD1 := Lib.hid hd1
    clear hokt hd1
    go_upto_region 3 with (fail)
    by_cases hpos : 0 < n1
    · have hqq := HQP.out hpos
      have p1 : decide (0 < n1) = true := decide_eq_true hpos
      by_cases htn : d.num < nu
      · have p2 : decide (d.num < nu) = true := decide_eq_true htn
        have HTU := Lib.hid (show d1 = { d with s := { d.s with l := [], total := 0 }, num := nu } by rw [← HD1.out]; unfold wdTurn; rw [HNU.out, if_pos htn])
        go_quiet (fail)
        obtain ⟨wz, hwz⟩ : ∃ wz, wz = wq.drewN nq := ⟨_, rfl⟩
        have HKz := Lib.hid (show Obj1 wz w.heap.size (refWC v d) 71 by rw [hwz]; exact HK1.out)
        have HPz := Lib.hid (show Obj1 wz (w.heap.size + 1) (pxC p).toArray 30 by rw [hwz]; exact HP1.out)
        have HZz := Lib.hid (show Obj1 wz (w.heap.size + 2) #[.slice none 0 0, .int .i64 0, .int .i64 0, .int .i64 0, .int .i64 0, .int .i64 0] 71 by rw [hwz]; exact HZ1.out)
        have HBz := Lib.hid (show Below w.heap.size w wz by rw [hwz]; exact bl_drewN HB1.out _)
        rw [← hwz]
        clear hwz c1 c3 c5 f5
        have c3 : wz.cell? ⟨w.heap.size, 3, none⟩ = some (.int .i64 d.ns) := HKz.out.cell 3
        have c5 : wz.cell? ⟨w.heap.size, 5, none⟩ = some (.int .i64 d.num) := HKz.out.cell 5
        have f5 : wz.frozen? ⟨w.heap.size, 5, none⟩ = false := HKz.out.free 5
        have hset := (Upd.refl w.heap.size wz).set 5 (.int .i64 nu)
        have HK2 := Lib.hid (show Obj1 (wz.setCell ⟨w.heap.size, 5, none⟩ (.int .i64 nu)) w.heap.size (refWC v { d with num := nu }) 71 from HKz.out.set 5 _)
        have HP2 := Lib.hid (HPz.out.of_grown hset (by simp))
        have HZ2 := Lib.hid (HZz.out.of_grown hset (by simp))
        have HB2 := Lib.hid (bl_upd HBz.out hset (Nat.le_refl _))
        have c1b : (wz.setCell ⟨w.heap.size, 5, none⟩ (.int .i64 nu)).cell? ⟨w.heap.size, 1, none⟩ = some (.int .i64 d.s.room) := HK2.out.cell 1
        clear hset
        go_upto_region 6 with (refine store_refS rfl 50 (.tmp 33) (.tmp 32) rfl w.heap.size 71 v { d with num := nu } HK2.out (.slice none 0 0) { d.s with l := [], total := 0 } rfl rfl rfl (by simp [refC, Value.oneCell']) ?_; intro w3 hob hup; have HK3 := Lib.hid hob; have HP3 := Lib.hid (HP2.out.of_grown hup (by simp)); have HZ3 := Lib.hid (HZ2.out.of_grown hup (by simp)); have HB3 := Lib.hid (bl_upd HB2.out hup (Nat.le_refl _)); clear hob hup)
        obtain ⟨v1, hv1⟩ : ∃ v1, v1 = Value.slice none 0 0 := ⟨_, rfl⟩
        have HKK := Lib.hid (show Obj1 w3 w.heap.size (refWC v1 d1) 71 by rw [HTU.out, hv1]; exact HK3.out)
        have HVV := Lib.hid (show RefV w3 B0 v1 d1.s.l by rw [HTU.out, hv1]; exact RefV.nil _ _)
        have HPP := HP3
        have HZZ := HZ3
        have HBB := HB3
        clear hv1 c3 c5 f5 c1b
        have HCS := Lib.hid (show ∀ (j : Nat) (u : Value), [v1, .int .i64 d1.s.room, .int .i64 d1.s.total][j]? = some u → w3.cell? ((⟨w.heap.size, 0, none⟩ : Addr).add j) = some u from three_cells (HKK.out.cell 0) (HKK.out.cell 1) (HKK.out.cell 2))
        go_wp2_with (first
          | (refine load_cells rfl 50 (.tmp 35) rfl ⟨w.heap.size, 0, none⟩ [v1, .int .i64 d1.s.room, .int .i64 d1.s.total] _ rfl HCS.out Try.underlying50 rfl rfl ?_)
          | (refine load_obj rfl 30 (.tmp 6) rfl (w.heap.size + 1) 30 (pxC p).toArray _ rfl HPP.out Try.underlying30 rfl HPA.out ?_))
        refine (refAdd_w B0 v1 d1.s HOK1.out.1 p hp n _ HVV.out).mono ?_
        rintro e w4 ⟨v2, rfl, hv2, hb4⟩
        have HOK2 := Lib.hid (skAdd_ok HOK1.out.1 hp n)
        obtain ⟨sk2, hsk2⟩ : ∃ sk2, skAdd d1.s p n = sk2 := ⟨_, rfl⟩
        obtain ⟨at', hat'⟩ : ∃ at', skAt d1.s p = at' := ⟨_, rfl⟩
        obtain ⟨x, hx⟩ : ∃ x, sk2.l[at']? = some x := by rw [← hsk2, ← hat']; exact skAdd_some p n HOK1.out.1
        rw [hsk2] at hv2 HOK2 HADD ⊢
        rw [hat']
        have hw3w : w.heap.size ≤ w3.heap.size := HBB.out.size
        have HV4 := Lib.hid (hv2.mono hw3w)
        have HK4 := Lib.hid (HKK.out.below hb4)
        have HZ4 := Lib.hid (HZZ.out.below hb4)
        have HB4 := Lib.hid (bl_next HBB.out hb4)
        have HG3 := Lib.hid (show ∀ g, w3.heap.size ≤ g → g ≠ w.heap.size ∧ g ≠ w.heap.size + 2 from fun g hg => ⟨by have := HKK.out.lt; omega, by have := HZZ.out.lt; omega⟩)
        obtain ⟨A2, cv, rfl, hcv, _, hrd2⟩ := hv2.slice HOK2.out.px
        obtain ⟨g, hg3, rfl, hcg⟩ := hrd2 at' x hx
        obtain ⟨m2, hm2⟩ : ∃ m2, sk2.l.length = m2 := ⟨_, rfl⟩
        have hatm : at' < m2 := by rw [← hm2]; exact (List.getElem?_eq_some_iff.1 hx).1
        rw [hm2] at HV4 ⊢
        have hxo : okSlo x := HOK2.out.2.2.1 x (List.mem_of_getElem? hx)
        have HXX := Lib.hid (show (wdAdd d now p n).s.l[skAt (wdTurn d now).s p]? = some x by rw [HADD.out, HD1.out, hat']; exact hx)
        have HCT := Lib.hid (show w4.cell? ⟨g, at' * 10 + 8, none⟩ = some (.int .i64 x.c) ∧ w4.cell? ⟨g, at' * 10 + 9, none⟩ = some (.int .i64 x.e) from ⟨by have := hcg 8 _ (sloC_tail hxo.1).1; rwa [add_flat] at this, by have := hcg 9 _ (sloC_tail hxo.1).2; rwa [add_flat] at this⟩)
        have HGG := Lib.hid (HG3.out g hg3)
        have k0 : (0 : Int) ≤ (at' : Int) := Int.natCast_nonneg at'
        have k1 : (at' : Int) < (m2 : Int) := by omega
        have a5 : IntKind.i64.wrap (x.c - x.e) = x.c - x.e := IntWalk.i64_in _ (by have := hxo.2; omega)
        have HTH := Lib.hid (show d1.thr = d.thr from HTN.out.2)
        clear hv2 hb4 hsk2 hat' hx hrd2 hcg hm2
        go_wp2_with (refine store_refS rfl 50 (.tmp 42) (.tmp 40) rfl w.heap.size 71 v1 d1 HK4.out (.slice (some ⟨g, 0, none⟩) m2 cv) sk2 rfl rfl rfl (by simp [refC, Value.oneCell']) ?_; intro w5 hob hup; have HK5 := Lib.hid hob; have HZ5 := Lib.hid (HZ4.out.of_grown hup (by simp)); have HB5 := Lib.hid (bl_upd HB4.out hup (Nat.le_refl _)); have HV5 := Lib.hid (show RefV w5 w.heap.size (.slice (some ⟨g, 0, none⟩) m2 cv) sk2.l from HV4.out.one hup (fun q e => by cases e; exact HGG.out.1)); have HC5 := Lib.hid (And.intro (keep_upd hup HCT.out.1 HGG.out.1) (keep_upd hup HCT.out.2 HGG.out.1)); clear hob hup)
        refine wp_region_held_drew (S := (fun w' => Obj1 w' w.heap.size (refWC (.slice (some ⟨g, 0, none⟩) m2 cv) { d1 with s := sk2 }) 71 ∧ w'.cell? ⟨g, at' * 10 + 8, none⟩ = some (.int .i64 x.c) ∧ w'.cell? ⟨g, at' * 10 + 9, none⟩ = some (.int .i64 x.e))) (by kernel_rfl) (⟨HK5.out, HC5.out.1, HC5.out.2⟩) (fun hHeld => ?_)
        generalize hW0 : World.drew _ = W0 at hHeld ⊢
        have HZ6 := Lib.hid (show Obj1 W0 (w.heap.size + 2) #[.slice none 0 0, .int .i64 0, .int .i64 0, .int .i64 0, .int .i64 0, .int .i64 0] 71 by rw [← hW0]; exact HZ5.out)
        have HB6 := Lib.hid (show Below w.heap.size w W0 by rw [← hW0]; exact bl_drewN HB5.out 1)
        have HV6 := Lib.hid (show RefV W0 w.heap.size (.slice (some ⟨g, 0, none⟩) m2 cv) sk2.l by rw [← hW0]; exact HV5.out)
        have HX := Lib.hid hHeld
        clear hW0 hHeld
        refine wpAnyH_take (i := 0) (v := .agg (refWC (.slice (some ⟨g, 0, none⟩) m2 cv) { d1 with s := sk2 })) rfl (by kernel_rfl) (by kernel_rfl) (by kernel_rfl) (fun _ _ _ h => h) (Or.inl ⟨by rfl, ?_⟩) HX.out ?_
        · intro w' hSw
          have hld := run_loadVar_row (P := Try.prog) w' (w.heap.size) 71 71 (refWC (.slice (some ⟨g, 0, none⟩) m2 cv) { d1 with s := sk2 }) (0, 0) _ hSw.1 Try.underlying71 rfl rfl
          simp [execOp, Act.eval, Instr.loadAt, Instr.sureAddr, Sem.run_bind, hld, Result.andThen]
        go_simp
        refine wpAnyH_take (i := 1) (v := ?_) rfl (by kernel_rfl) (by kernel_rfl) (by kernel_rfl) (fun _ _ _ h => h) (Or.inl ⟨by rfl, ?_⟩) HX.out ?_
        rotate_left
        · intro w' hSw; have hc0 : w'.cell? ⟨w.heap.size, 0, none⟩ = some (.slice (some ⟨g, 0, none⟩) m2 cv) := hSw.1.cell 0; have hc4 : w'.cell? ⟨w.heap.size, 4, none⟩ = some (.int .i64 d1.thr) := hSw.1.cell 4; have hSw2 := hSw.2.1; have hSw3 := hSw.2.2; go_simp
          try with_reducible rfl
        go_simp
        refine wpAnyH_take (i := 2) (v := ?_) rfl (by kernel_rfl) (by kernel_rfl) (by kernel_rfl) (fun _ _ _ h => h) (Or.inl ⟨by rfl, ?_⟩) HX.out ?_
        rotate_left
        · intro w' hSw; have hc0 : w'.cell? ⟨w.heap.size, 0, none⟩ = some (.slice (some ⟨g, 0, none⟩) m2 cv) := hSw.1.cell 0; have hc4 : w'.cell? ⟨w.heap.size, 4, none⟩ = some (.int .i64 d1.thr) := hSw.1.cell 4; have hSw2 := hSw.2.1; have hSw3 := hSw.2.2; go_simp
          try with_reducible rfl
        go_simp
        refine wpAnyH_take (i := 3) (v := ?_) rfl (by kernel_rfl) (by kernel_rfl) (by kernel_rfl) (fun _ _ _ h => h) (Or.inl ⟨by rfl, ?_⟩) HX.out ?_
        rotate_left
        · intro w' hSw; have hc0 : w'.cell? ⟨w.heap.size, 0, none⟩ = some (.slice (some ⟨g, 0, none⟩) m2 cv) := hSw.1.cell 0; have hc4 : w'.cell? ⟨w.heap.size, 4, none⟩ = some (.int .i64 d1.thr) := hSw.1.cell 4; have hSw2 := hSw.2.1; have hSw3 := hSw.2.2; go_simp
          try with_reducible rfl
        go_simp
        refine wpAnyH_take (i := 4) (v := ?_) rfl (by kernel_rfl) (by kernel_rfl) (by kernel_rfl) (fun _ _ _ h => h) (Or.inl ⟨by rfl, ?_⟩) HX.out ?_
        rotate_left
        · intro w' hSw; have hc0 : w'.cell? ⟨w.heap.size, 0, none⟩ = some (.slice (some ⟨g, 0, none⟩) m2 cv) := hSw.1.cell 0; have hc4 : w'.cell? ⟨w.heap.size, 4, none⟩ = some (.int .i64 d1.thr) := hSw.1.cell 4; have hSw2 := hSw.2.1; have hSw3 := hSw.2.2; go_simp
          try with_reducible rfl
        go_simp
        refine wpAnyH_take (i := 5) (v := ?_) rfl (by kernel_rfl) (by kernel_rfl) (by kernel_rfl) (fun _ _ _ h => h) (Or.inl ⟨by rfl, ?_⟩) HX.out ?_
        rotate_left
        · intro w' hSw; have hc0 : w'.cell? ⟨w.heap.size, 0, none⟩ = some (.slice (some ⟨g, 0, none⟩) m2 cv) := hSw.1.cell 0; have hc4 : w'.cell? ⟨w.heap.size, 4, none⟩ = some (.int .i64 d1.thr) := hSw.1.cell 4; have hSw2 := hSw.2.1; have hSw3 := hSw.2.2; go_simp
          try with_reducible rfl
        go_simp
        refine wpAnyH_take (i := 6) (v := ?_) rfl (by kernel_rfl) (by kernel_rfl) (by kernel_rfl) (fun _ _ _ h => h) (Or.inl ⟨by rfl, ?_⟩) HX.out ?_
        rotate_left
        · intro w' hSw; have hc0 : w'.cell? ⟨w.heap.size, 0, none⟩ = some (.slice (some ⟨g, 0, none⟩) m2 cv) := hSw.1.cell 0; have hc4 : w'.cell? ⟨w.heap.size, 4, none⟩ = some (.int .i64 d1.thr) := hSw.1.cell 4; have hSw2 := hSw.2.1; have hSw3 := hSw.2.2; go_simp
          try with_reducible rfl
        go_simp
        refine wpAnyH_take (i := 7) (v := ?_) rfl (by kernel_rfl) (by kernel_rfl) (by kernel_rfl) (fun _ _ _ h => h) (Or.inl ⟨by rfl, ?_⟩) HX.out ?_
        rotate_left
        · intro w' hSw; have hc0 : w'.cell? ⟨w.heap.size, 0, none⟩ = some (.slice (some ⟨g, 0, none⟩) m2 cv) := hSw.1.cell 0; have hc4 : w'.cell? ⟨w.heap.size, 4, none⟩ = some (.int .i64 d1.thr) := hSw.1.cell 4; have hSw2 := hSw.2.1; have hSw3 := hSw.2.2; go_simp
          try with_reducible rfl
        go_simp
        refine wpAnyH_take (i := 8) (v := ?_) rfl (by kernel_rfl) (by kernel_rfl) (by kernel_rfl) (fun _ _ _ h => h) (Or.inl ⟨by rfl, ?_⟩) HX.out ?_
        rotate_left
        · intro w' hSw; have hc0 : w'.cell? ⟨w.heap.size, 0, none⟩ = some (.slice (some ⟨g, 0, none⟩) m2 cv) := hSw.1.cell 0; have hc4 : w'.cell? ⟨w.heap.size, 4, none⟩ = some (.int .i64 d1.thr) := hSw.1.cell 4; have hSw2 := hSw.2.1; have hSw3 := hSw.2.2; go_simp
          try with_reducible rfl
        go_simp
        refine wpAnyH_take (i := 9) (v := ?_) rfl (by kernel_rfl) (by kernel_rfl) (by kernel_rfl) (fun _ _ _ h => h) (Or.inl ⟨by rfl, ?_⟩) HX.out ?_
        rotate_left
        · intro w' hSw; have hc0 : w'.cell? ⟨w.heap.size, 0, none⟩ = some (.slice (some ⟨g, 0, none⟩) m2 cv) := hSw.1.cell 0; have hc4 : w'.cell? ⟨w.heap.size, 4, none⟩ = some (.int .i64 d1.thr) := hSw.1.cell 4; have hSw2 := hSw.2.1; have hSw3 := hSw.2.2; go_simp
          try with_reducible rfl
        go_simp
        refine wpAnyH_take (i := 10) (v := ?_) rfl (by kernel_rfl) (by kernel_rfl) (by kernel_rfl) (fun _ _ _ h => h) (Or.inl ⟨by rfl, ?_⟩) HX.out ?_
        rotate_left
        · intro w' hSw; have hc0 : w'.cell? ⟨w.heap.size, 0, none⟩ = some (.slice (some ⟨g, 0, none⟩) m2 cv) := hSw.1.cell 0; have hc4 : w'.cell? ⟨w.heap.size, 4, none⟩ = some (.int .i64 d1.thr) := hSw.1.cell 4; have hSw2 := hSw.2.1; have hSw3 := hSw.2.2; go_simp
          try with_reducible rfl
        go_simp
        refine wpAnyH_take (i := 11) (v := ?_) rfl (by kernel_rfl) (by kernel_rfl) (by kernel_rfl) (fun _ _ _ h => h) (Or.inl ⟨by rfl, ?_⟩) HX.out ?_
        rotate_left
        · intro w' hSw; have hc0 : w'.cell? ⟨w.heap.size, 0, none⟩ = some (.slice (some ⟨g, 0, none⟩) m2 cv) := hSw.1.cell 0; have hc4 : w'.cell? ⟨w.heap.size, 4, none⟩ = some (.int .i64 d1.thr) := hSw.1.cell 4; have hSw2 := hSw.2.1; have hSw3 := hSw.2.2; go_simp
          try with_reducible rfl
        go_simp
        refine wpAnyH_take (i := 12) (v := ?_) rfl (by kernel_rfl) (by kernel_rfl) (by kernel_rfl) (fun _ _ _ h => h) (Or.inl ⟨by rfl, ?_⟩) HX.out ?_
        rotate_left
        · intro w' hSw; have hc0 : w'.cell? ⟨w.heap.size, 0, none⟩ = some (.slice (some ⟨g, 0, none⟩) m2 cv) := hSw.1.cell 0; have hc4 : w'.cell? ⟨w.heap.size, 4, none⟩ = some (.int .i64 d1.thr) := hSw.1.cell 4; have hSw2 := hSw.2.1; have hSw3 := hSw.2.2; go_simp
          try with_reducible rfl
        go_simp
        refine wpAnyH_take (i := 13) (v := ?_) rfl (by kernel_rfl) (by kernel_rfl) (by kernel_rfl) (fun _ _ _ h => h) (Or.inl ⟨by rfl, ?_⟩) HX.out ?_
        rotate_left
        · intro w' hSw; have hc0 : w'.cell? ⟨w.heap.size, 0, none⟩ = some (.slice (some ⟨g, 0, none⟩) m2 cv) := hSw.1.cell 0; have hc4 : w'.cell? ⟨w.heap.size, 4, none⟩ = some (.int .i64 d1.thr) := hSw.1.cell 4; have hSw2 := hSw.2.1; have hSw3 := hSw.2.2; go_simp
          try with_reducible rfl
        go_simp
        refine wpAnyH_take (i := 14) (v := ?_) rfl (by kernel_rfl) (by kernel_rfl) (by kernel_rfl) (fun _ _ _ h => h) (Or.inl ⟨by rfl, ?_⟩) HX.out ?_
        rotate_left
        · intro w' hSw; have hc0 : w'.cell? ⟨w.heap.size, 0, none⟩ = some (.slice (some ⟨g, 0, none⟩) m2 cv) := hSw.1.cell 0; have hc4 : w'.cell? ⟨w.heap.size, 4, none⟩ = some (.int .i64 d1.thr) := hSw.1.cell 4; have hSw2 := hSw.2.1; have hSw3 := hSw.2.2; go_simp
          try with_reducible rfl
        go_simp
        refine wpAnyH_take (i := 15) (v := ?_) rfl (by kernel_rfl) (by kernel_rfl) (by kernel_rfl) (fun _ _ _ h => h) (Or.inl ⟨by rfl, ?_⟩) HX.out ?_
        rotate_left
        · intro w' hSw; have hc0 : w'.cell? ⟨w.heap.size, 0, none⟩ = some (.slice (some ⟨g, 0, none⟩) m2 cv) := hSw.1.cell 0; have hc4 : w'.cell? ⟨w.heap.size, 4, none⟩ = some (.int .i64 d1.thr) := hSw.1.cell 4; have hSw2 := hSw.2.1; have hSw3 := hSw.2.2; go_simp
          try with_reducible rfl
        go_simp
        refine wpAnyH_take (i := 16) (v := ?_) rfl (by kernel_rfl) (by kernel_rfl) (by kernel_rfl) (fun _ _ _ h => h) (Or.inl ⟨by rfl, ?_⟩) HX.out ?_
        rotate_left
        · intro w' hSw; have hc0 : w'.cell? ⟨w.heap.size, 0, none⟩ = some (.slice (some ⟨g, 0, none⟩) m2 cv) := hSw.1.cell 0; have hc4 : w'.cell? ⟨w.heap.size, 4, none⟩ = some (.int .i64 d1.thr) := hSw.1.cell 4; have hSw2 := hSw.2.1; have hSw3 := hSw.2.2; go_simp
          try with_reducible rfl
        go_simp
        refine wpAnyH_take (i := 17) (v := ?_) rfl (by kernel_rfl) (by kernel_rfl) (by kernel_rfl) (fun _ _ _ h => h) (Or.inl ⟨by rfl, ?_⟩) HX.out ?_
        rotate_left
        · intro w' hSw; have hc0 : w'.cell? ⟨w.heap.size, 0, none⟩ = some (.slice (some ⟨g, 0, none⟩) m2 cv) := hSw.1.cell 0; have hc4 : w'.cell? ⟨w.heap.size, 4, none⟩ = some (.int .i64 d1.thr) := hSw.1.cell 4; have hSw2 := hSw.2.1; have hSw3 := hSw.2.2; go_simp
          try with_reducible rfl
        go_simp
        refine wpAnyH_take (i := 18) (v := ?_) rfl (by kernel_rfl) (by kernel_rfl) (by kernel_rfl) (fun _ _ _ h => h) (Or.inl ⟨by rfl, ?_⟩) HX.out ?_
        rotate_left
        · intro w' hSw; have hc0 : w'.cell? ⟨w.heap.size, 0, none⟩ = some (.slice (some ⟨g, 0, none⟩) m2 cv) := hSw.1.cell 0; have hc4 : w'.cell? ⟨w.heap.size, 4, none⟩ = some (.int .i64 d1.thr) := hSw.1.cell 4; have hSw2 := hSw.2.1; have hSw3 := hSw.2.2; go_simp
          try with_reducible rfl
        go_simp
        refine wpAnyH_ready (rs := [19]) (by kernel_rfl) (by simp) ?_
        refine AllReadyH.cons rfl (fun K hK => ?_) AllReadyH.nil
        refine gwanted rfl ?_
        refine wp_store_objR 71 (.tmp 8) (.tmp 43) rfl (w.heap.size + 2) 71 #[.slice none 0 0, .int .i64 0, .int .i64 0, .int .i64 0, .int .i64 0, .int .i64 0] (refWC (.slice (some ⟨g, 0, none⟩) m2 cv) { d1 with s := sk2 }) rfl rfl HZ6.out rfl rfl refWC_one ?_
        intro w7 hob hup
        have HZ7 := Lib.hid hob
        have HB7 := Lib.hid (bl_upd HB6.out hup (by omega))
        have HV7 := Lib.hid (HV6.out.one hup (fun q e => by cases e; exact HGG.out.2))
        have hs7 : Obj1 w7 w.heap.size (refWC (.slice (some ⟨g, 0, none⟩) m2 cv) { d1 with s := sk2 }) 71 ∧ w7.cell? ⟨g, at' * 10 + 8, none⟩ = some (.int .i64 x.c) ∧ w7.cell? ⟨g, at' * 10 + 9, none⟩ = some (.int .i64 x.e) := ⟨HX.out.1.of_grown hup (by simp), keep_upd hup HX.out.2.1 HGG.out.2, keep_upd hup HX.out.2.2 HGG.out.2⟩
        clear hob hup
        refine hK.out _ _ hs7 (fun hHeld => ?_)
        clear hK K
        have HX := Lib.hid hHeld
        clear hHeld hs7
        refine wpAnyH_take (i := 20) (v := ?_) rfl (by kernel_rfl) (by kernel_rfl) (by kernel_rfl) (fun _ _ _ h => h) (Or.inl ⟨by rfl, ?_⟩) HX.out ?_
        rotate_left
        · intro w' hSw; go_simp
          try with_reducible rfl
        go_simp
        refine wpAnyH_done (by kernel_rfl) ?_ _
        go_wp2_with fail
        refine bodyPost_ret (v := .tuple #[.agg (refWC (.slice (some ⟨g, 0, none⟩) m2 cv) { d1 with s := sk2 }), .bool (decide (d1.thr ≤ x.c - x.e))]) ?_ rfl ?_
        · rw [results_cell_tmp (p := 8) (u := 9) (ty := 71) rfl]
          show (Result.andThen (.ok (⟨w.heap.size + 2, 0, none⟩ : Addr) w7) _) = _
          simp only [Result.andThen_ok]
          rw [run_loadVar_row (P := Try.prog) w7 (w.heap.size + 2) 71 71 (refWC (.slice (some ⟨g, 0, none⟩) m2 cv) { d1 with s := sk2 }) (0, 0) _ HZ7.out Try.underlying71 rfl rfl]
          rfl
        · refine ⟨.slice (some ⟨g, 0, none⟩) m2 cv, x, ?_, HXX.out, ?_, HB7.out⟩
          · rw [HADD.out, HTH.out]
          · rw [HADD.out]
            exact HV7.out
      · have p2 : decide (d.num < nu) = false := decide_eq_false htn
        have HTU := Lib.hid (show d1 = d by rw [← HD1.out]; unfold wdTurn; rw [HNU.out, if_neg htn])
        go_quiet (fail)
        go_upto_region 6 with (fail)
        obtain ⟨w3, hw3⟩ : ∃ w3, w3 = wq.drewN nq := ⟨_, rfl⟩
        obtain ⟨v1, hv1⟩ : ∃ v1, v1 = v := ⟨_, rfl⟩
        have HKK := Lib.hid (show Obj1 w3 w.heap.size (refWC v1 d1) 71 by rw [HTU.out, hv1, hw3]; exact HK1.out)
        have HVV := Lib.hid (show RefV w3 B0 v1 d1.s.l by rw [HTU.out, hv1, hw3]; exact HV1.out)
        have HPP := Lib.hid (show Obj1 w3 (w.heap.size + 1) (pxC p).toArray 30 by rw [hw3]; exact HP1.out)
        have HZZ := Lib.hid (show Obj1 w3 (w.heap.size + 2) #[.slice none 0 0, .int .i64 0, .int .i64 0, .int .i64 0, .int .i64 0, .int .i64 0] 71 by rw [hw3]; exact HZ1.out)
        have HBB := Lib.hid (show Below w.heap.size w w3 by rw [hw3]; exact bl_drewN HB1.out _)
        rw [← hw3]
        clear hw3 hv1 c1 c3 c5 f5
        have HCS := Lib.hid (show ∀ (j : Nat) (u : Value), [v1, .int .i64 d1.s.room, .int .i64 d1.s.total][j]? = some u → w3.cell? ((⟨w.heap.size, 0, none⟩ : Addr).add j) = some u from three_cells (HKK.out.cell 0) (HKK.out.cell 1) (HKK.out.cell 2))
        go_wp2_with (first
          | (refine load_cells rfl 50 (.tmp 35) rfl ⟨w.heap.size, 0, none⟩ [v1, .int .i64 d1.s.room, .int .i64 d1.s.total] _ rfl HCS.out Try.underlying50 rfl rfl ?_)
          | (refine load_obj rfl 30 (.tmp 6) rfl (w.heap.size + 1) 30 (pxC p).toArray _ rfl HPP.out Try.underlying30 rfl HPA.out ?_))
        refine (refAdd_w B0 v1 d1.s HOK1.out.1 p hp n _ HVV.out).mono ?_
        rintro e w4 ⟨v2, rfl, hv2, hb4⟩
        have HOK2 := Lib.hid (skAdd_ok HOK1.out.1 hp n)
        obtain ⟨sk2, hsk2⟩ : ∃ sk2, skAdd d1.s p n = sk2 := ⟨_, rfl⟩
        obtain ⟨at', hat'⟩ : ∃ at', skAt d1.s p = at' := ⟨_, rfl⟩
        obtain ⟨x, hx⟩ : ∃ x, sk2.l[at']? = some x := by rw [← hsk2, ← hat']; exact skAdd_some p n HOK1.out.1
        rw [hsk2] at hv2 HOK2 HADD ⊢
        rw [hat']
        have hw3w : w.heap.size ≤ w3.heap.size := HBB.out.size
        have HV4 := Lib.hid (hv2.mono hw3w)
        have HK4 := Lib.hid (HKK.out.below hb4)
        have HZ4 := Lib.hid (HZZ.out.below hb4)
        have HB4 := Lib.hid (bl_next HBB.out hb4)
        have HG3 := Lib.hid (show ∀ g, w3.heap.size ≤ g → g ≠ w.heap.size ∧ g ≠ w.heap.size + 2 from fun g hg => ⟨by have := HKK.out.lt; omega, by have := HZZ.out.lt; omega⟩)
        obtain ⟨A2, cv, rfl, hcv, _, hrd2⟩ := hv2.slice HOK2.out.px
        obtain ⟨g, hg3, rfl, hcg⟩ := hrd2 at' x hx
        obtain ⟨m2, hm2⟩ : ∃ m2, sk2.l.length = m2 := ⟨_, rfl⟩
        have hatm : at' < m2 := by rw [← hm2]; exact (List.getElem?_eq_some_iff.1 hx).1
        rw [hm2] at HV4 ⊢
        have hxo : okSlo x := HOK2.out.2.2.1 x (List.mem_of_getElem? hx)
        have HXX := Lib.hid (show (wdAdd d now p n).s.l[skAt (wdTurn d now).s p]? = some x by rw [HADD.out, HD1.out, hat']; exact hx)
        have HCT := Lib.hid (show w4.cell? ⟨g, at' * 10 + 8, none⟩ = some (.int .i64 x.c) ∧ w4.cell? ⟨g, at' * 10 + 9, none⟩ = some (.int .i64 x.e) from ⟨by have := hcg 8 _ (sloC_tail hxo.1).1; rwa [add_flat] at this, by have := hcg 9 _ (sloC_tail hxo.1).2; rwa [add_flat] at this⟩)
        have HGG := Lib.hid (HG3.out g hg3)
        have k0 : (0 : Int) ≤ (at' : Int) := Int.natCast_nonneg at'
        have k1 : (at' : Int) < (m2 : Int) := by omega
        have a5 : IntKind.i64.wrap (x.c - x.e) = x.c - x.e := IntWalk.i64_in _ (by have := hxo.2; omega)
        have HTH := Lib.hid (show d1.thr = d.thr from HTN.out.2)
        clear hv2 hb4 hsk2 hat' hx hrd2 hcg hm2
        go_wp2_with (refine store_refS rfl 50 (.tmp 42) (.tmp 40) rfl w.heap.size 71 v1 d1 HK4.out (.slice (some ⟨g, 0, none⟩) m2 cv) sk2 rfl rfl rfl (by simp [refC, Value.oneCell']) ?_; intro w5 hob hup; have HK5 := Lib.hid hob; have HZ5 := Lib.hid (HZ4.out.of_grown hup (by simp)); have HB5 := Lib.hid (bl_upd HB4.out hup (Nat.le_refl _)); have HV5 := Lib.hid (show RefV w5 w.heap.size (.slice (some ⟨g, 0, none⟩) m2 cv) sk2.l from HV4.out.one hup (fun q e => by cases e; exact HGG.out.1)); have HC5 := Lib.hid (And.intro (keep_upd hup HCT.out.1 HGG.out.1) (keep_upd hup HCT.out.2 HGG.out.1)); clear hob hup)
        refine wp_region_held_drew (S := (fun w' => Obj1 w' w.heap.size (refWC (.slice (some ⟨g, 0, none⟩) m2 cv) { d1 with s := sk2 }) 71 ∧ w'.cell? ⟨g, at' * 10 + 8, none⟩ = some (.int .i64 x.c) ∧ w'.cell? ⟨g, at' * 10 + 9, none⟩ = some (.int .i64 x.e))) (by kernel_rfl) (⟨HK5.out, HC5.out.1, HC5.out.2⟩) (fun hHeld => ?_)
        generalize hW0 : World.drew _ = W0 at hHeld ⊢
        have HZ6 := Lib.hid (show Obj1 W0 (w.heap.size + 2) #[.slice none 0 0, .int .i64 0, .int .i64 0, .int .i64 0, .int .i64 0, .int .i64 0] 71 by rw [← hW0]; exact HZ5.out)
        have HB6 := Lib.hid (show Below w.heap.size w W0 by rw [← hW0]; exact bl_drewN HB5.out 1)
        have HV6 := Lib.hid (show RefV W0 w.heap.size (.slice (some ⟨g, 0, none⟩) m2 cv) sk2.l by rw [← hW0]; exact HV5.out)
        have HX := Lib.hid hHeld
        clear hW0 hHeld
        refine wpAnyH_take (i := 0) (v := .agg (refWC (.slice (some ⟨g, 0, none⟩) m2 cv) { d1 with s := sk2 })) rfl (by kernel_rfl) (by kernel_rfl) (by kernel_rfl) (fun _ _ _ h => h) (Or.inl ⟨by rfl, ?_⟩) HX.out ?_
        · intro w' hSw
          have hld := run_loadVar_row (P := Try.prog) w' (w.heap.size) 71 71 (refWC (.slice (some ⟨g, 0, none⟩) m2 cv) { d1 with s := sk2 }) (0, 0) _ hSw.1 Try.underlying71 rfl rfl
          simp [execOp, Act.eval, Instr.loadAt, Instr.sureAddr, Sem.run_bind, hld, Result.andThen]
        go_simp
        refine wpAnyH_take (i := 1) (v := ?_) rfl (by kernel_rfl) (by kernel_rfl) (by kernel_rfl) (fun _ _ _ h => h) (Or.inl ⟨by rfl, ?_⟩) HX.out ?_
        rotate_left
        · intro w' hSw; have hc0 : w'.cell? ⟨w.heap.size, 0, none⟩ = some (.slice (some ⟨g, 0, none⟩) m2 cv) := hSw.1.cell 0; have hc4 : w'.cell? ⟨w.heap.size, 4, none⟩ = some (.int .i64 d1.thr) := hSw.1.cell 4; have hSw2 := hSw.2.1; have hSw3 := hSw.2.2; go_simp
          try with_reducible rfl
        go_simp
        refine wpAnyH_take (i := 2) (v := ?_) rfl (by kernel_rfl) (by kernel_rfl) (by kernel_rfl) (fun _ _ _ h => h) (Or.inl ⟨by rfl, ?_⟩) HX.out ?_
        rotate_left
        · intro w' hSw; have hc0 : w'.cell? ⟨w.heap.size, 0, none⟩ = some (.slice (some ⟨g, 0, none⟩) m2 cv) := hSw.1.cell 0; have hc4 : w'.cell? ⟨w.heap.size, 4, none⟩ = some (.int .i64 d1.thr) := hSw.1.cell 4; have hSw2 := hSw.2.1; have hSw3 := hSw.2.2; go_simp
          try with_reducible rfl
        go_simp
        refine wpAnyH_take (i := 3) (v := ?_) rfl (by kernel_rfl) (by kernel_rfl) (by kernel_rfl) (fun _ _ _ h => h) (Or.inl ⟨by rfl, ?_⟩) HX.out ?_
        rotate_left
        · intro w' hSw; have hc0 : w'.cell? ⟨w.heap.size, 0, none⟩ = some (.slice (some ⟨g, 0, none⟩) m2 cv) := hSw.1.cell 0; have hc4 : w'.cell? ⟨w.heap.size, 4, none⟩ = some (.int .i64 d1.thr) := hSw.1.cell 4; have hSw2 := hSw.2.1; have hSw3 := hSw.2.2; go_simp
          try with_reducible rfl
        go_simp
        refine wpAnyH_take (i := 4) (v := ?_) rfl (by kernel_rfl) (by kernel_rfl) (by kernel_rfl) (fun _ _ _ h => h) (Or.inl ⟨by rfl, ?_⟩) HX.out ?_
        rotate_left
        · intro w' hSw; have hc0 : w'.cell? ⟨w.heap.size, 0, none⟩ = some (.slice (some ⟨g, 0, none⟩) m2 cv) := hSw.1.cell 0; have hc4 : w'.cell? ⟨w.heap.size, 4, none⟩ = some (.int .i64 d1.thr) := hSw.1.cell 4; have hSw2 := hSw.2.1; have hSw3 := hSw.2.2; go_simp
          try with_reducible rfl
        go_simp
        refine wpAnyH_take (i := 5) (v := ?_) rfl (by kernel_rfl) (by kernel_rfl) (by kernel_rfl) (fun _ _ _ h => h) (Or.inl ⟨by rfl, ?_⟩) HX.out ?_
        rotate_left
        · intro w' hSw; have hc0 : w'.cell? ⟨w.heap.size, 0, none⟩ = some (.slice (some ⟨g, 0, none⟩) m2 cv) := hSw.1.cell 0; have hc4 : w'.cell? ⟨w.heap.size, 4, none⟩ = some (.int .i64 d1.thr) := hSw.1.cell 4; have hSw2 := hSw.2.1; have hSw3 := hSw.2.2; go_simp
          try with_reducible rfl
        go_simp
        refine wpAnyH_take (i := 6) (v := ?_) rfl (by kernel_rfl) (by kernel_rfl) (by kernel_rfl) (fun _ _ _ h => h) (Or.inl ⟨by rfl, ?_⟩) HX.out ?_
        rotate_left
        · intro w' hSw; have hc0 : w'.cell? ⟨w.heap.size, 0, none⟩ = some (.slice (some ⟨g, 0, none⟩) m2 cv) := hSw.1.cell 0; have hc4 : w'.cell? ⟨w.heap.size, 4, none⟩ = some (.int .i64 d1.thr) := hSw.1.cell 4; have hSw2 := hSw.2.1; have hSw3 := hSw.2.2; go_simp
          try with_reducible rfl
        go_simp
        refine wpAnyH_take (i := 7) (v := ?_) rfl (by kernel_rfl) (by kernel_rfl) (by kernel_rfl) (fun _ _ _ h => h) (Or.inl ⟨by rfl, ?_⟩) HX.out ?_
        rotate_left
        · intro w' hSw; have hc0 : w'.cell? ⟨w.heap.size, 0, none⟩ = some (.slice (some ⟨g, 0, none⟩) m2 cv) := hSw.1.cell 0; have hc4 : w'.cell? ⟨w.heap.size, 4, none⟩ = some (.int .i64 d1.thr) := hSw.1.cell 4; have hSw2 := hSw.2.1; have hSw3 := hSw.2.2; go_simp
          try with_reducible rfl
        go_simp
        refine wpAnyH_take (i := 8) (v := ?_) rfl (by kernel_rfl) (by kernel_rfl) (by kernel_rfl) (fun _ _ _ h => h) (Or.inl ⟨by rfl, ?_⟩) HX.out ?_
        rotate_left
        · intro w' hSw; have hc0 : w'.cell? ⟨w.heap.size, 0, none⟩ = some (.slice (some ⟨g, 0, none⟩) m2 cv) := hSw.1.cell 0; have hc4 : w'.cell? ⟨w.heap.size, 4, none⟩ = some (.int .i64 d1.thr) := hSw.1.cell 4; have hSw2 := hSw.2.1; have hSw3 := hSw.2.2; go_simp
          try with_reducible rfl
        go_simp
        refine wpAnyH_take (i := 9) (v := ?_) rfl (by kernel_rfl) (by kernel_rfl) (by kernel_rfl) (fun _ _ _ h => h) (Or.inl ⟨by rfl, ?_⟩) HX.out ?_
        rotate_left
        · intro w' hSw; have hc0 : w'.cell? ⟨w.heap.size, 0, none⟩ = some (.slice (some ⟨g, 0, none⟩) m2 cv) := hSw.1.cell 0; have hc4 : w'.cell? ⟨w.heap.size, 4, none⟩ = some (.int .i64 d1.thr) := hSw.1.cell 4; have hSw2 := hSw.2.1; have hSw3 := hSw.2.2; go_simp
          try with_reducible rfl
        go_simp
        refine wpAnyH_take (i := 10) (v := ?_) rfl (by kernel_rfl) (by kernel_rfl) (by kernel_rfl) (fun _ _ _ h => h) (Or.inl ⟨by rfl, ?_⟩) HX.out ?_
        rotate_left
        · intro w' hSw; have hc0 : w'.cell? ⟨w.heap.size, 0, none⟩ = some (.slice (some ⟨g, 0, none⟩) m2 cv) := hSw.1.cell 0; have hc4 : w'.cell? ⟨w.heap.size, 4, none⟩ = some (.int .i64 d1.thr) := hSw.1.cell 4; have hSw2 := hSw.2.1; have hSw3 := hSw.2.2; go_simp
          try with_reducible rfl
        go_simp
        refine wpAnyH_take (i := 11) (v := ?_) rfl (by kernel_rfl) (by kernel_rfl) (by kernel_rfl) (fun _ _ _ h => h) (Or.inl ⟨by rfl, ?_⟩) HX.out ?_
        rotate_left
        · intro w' hSw; have hc0 : w'.cell? ⟨w.heap.size, 0, none⟩ = some (.slice (some ⟨g, 0, none⟩) m2 cv) := hSw.1.cell 0; have hc4 : w'.cell? ⟨w.heap.size, 4, none⟩ = some (.int .i64 d1.thr) := hSw.1.cell 4; have hSw2 := hSw.2.1; have hSw3 := hSw.2.2; go_simp
          try with_reducible rfl
        go_simp
        refine wpAnyH_take (i := 12) (v := ?_) rfl (by kernel_rfl) (by kernel_rfl) (by kernel_rfl) (fun _ _ _ h => h) (Or.inl ⟨by rfl, ?_⟩) HX.out ?_
        rotate_left
        · intro w' hSw; have hc0 : w'.cell? ⟨w.heap.size, 0, none⟩ = some (.slice (some ⟨g, 0, none⟩) m2 cv) := hSw.1.cell 0; have hc4 : w'.cell? ⟨w.heap.size, 4, none⟩ = some (.int .i64 d1.thr) := hSw.1.cell 4; have hSw2 := hSw.2.1; have hSw3 := hSw.2.2; go_simp
          try with_reducible rfl
        go_simp
        refine wpAnyH_take (i := 13) (v := ?_) rfl (by kernel_rfl) (by kernel_rfl) (by kernel_rfl) (fun _ _ _ h => h) (Or.inl ⟨by rfl, ?_⟩) HX.out ?_
        rotate_left
        · intro w' hSw; have hc0 : w'.cell? ⟨w.heap.size, 0, none⟩ = some (.slice (some ⟨g, 0, none⟩) m2 cv) := hSw.1.cell 0; have hc4 : w'.cell? ⟨w.heap.size, 4, none⟩ = some (.int .i64 d1.thr) := hSw.1.cell 4; have hSw2 := hSw.2.1; have hSw3 := hSw.2.2; go_simp
          try with_reducible rfl
        go_simp
        refine wpAnyH_take (i := 14) (v := ?_) rfl (by kernel_rfl) (by kernel_rfl) (by kernel_rfl) (fun _ _ _ h => h) (Or.inl ⟨by rfl, ?_⟩) HX.out ?_
        rotate_left
        · intro w' hSw; have hc0 : w'.cell? ⟨w.heap.size, 0, none⟩ = some (.slice (some ⟨g, 0, none⟩) m2 cv) := hSw.1.cell 0; have hc4 : w'.cell? ⟨w.heap.size, 4, none⟩ = some (.int .i64 d1.thr) := hSw.1.cell 4; have hSw2 := hSw.2.1; have hSw3 := hSw.2.2; go_simp
          try with_reducible rfl
        go_simp
        refine wpAnyH_take (i := 15) (v := ?_) rfl (by kernel_rfl) (by kernel_rfl) (by kernel_rfl) (fun _ _ _ h => h) (Or.inl ⟨by rfl, ?_⟩) HX.out ?_
        rotate_left
        · intro w' hSw; have hc0 : w'.cell? ⟨w.heap.size, 0, none⟩ = some (.slice (some ⟨g, 0, none⟩) m2 cv) := hSw.1.cell 0; have hc4 : w'.cell? ⟨w.heap.size, 4, none⟩ = some (.int .i64 d1.thr) := hSw.1.cell 4; have hSw2 := hSw.2.1; have hSw3 := hSw.2.2; go_simp
          try with_reducible rfl
        go_simp
        refine wpAnyH_take (i := 16) (v := ?_) rfl (by kernel_rfl) (by kernel_rfl) (by kernel_rfl) (fun _ _ _ h => h) (Or.inl ⟨by rfl, ?_⟩) HX.out ?_
        rotate_left
        · intro w' hSw; have hc0 : w'.cell? ⟨w.heap.size, 0, none⟩ = some (.slice (some ⟨g, 0, none⟩) m2 cv) := hSw.1.cell 0; have hc4 : w'.cell? ⟨w.heap.size, 4, none⟩ = some (.int .i64 d1.thr) := hSw.1.cell 4; have hSw2 := hSw.2.1; have hSw3 := hSw.2.2; go_simp
          try with_reducible rfl
        go_simp
        refine wpAnyH_take (i := 17) (v := ?_) rfl (by kernel_rfl) (by kernel_rfl) (by kernel_rfl) (fun _ _ _ h => h) (Or.inl ⟨by rfl, ?_⟩) HX.out ?_
        rotate_left
        · intro w' hSw; have hc0 : w'.cell? ⟨w.heap.size, 0, none⟩ = some (.slice (some ⟨g, 0, none⟩) m2 cv) := hSw.1.cell 0; have hc4 : w'.cell? ⟨w.heap.size, 4, none⟩ = some (.int .i64 d1.thr) := hSw.1.cell 4; have hSw2 := hSw.2.1; have hSw3 := hSw.2.2; go_simp
          try with_reducible rfl
        go_simp
        refine wpAnyH_take (i := 18) (v := ?_) rfl (by kernel_rfl) (by kernel_rfl) (by kernel_rfl) (fun _ _ _ h => h) (Or.inl ⟨by rfl, ?_⟩) HX.out ?_
        rotate_left
        · intro w' hSw; have hc0 : w'.cell? ⟨w.heap.size, 0, none⟩ = some (.slice (some ⟨g, 0, none⟩) m2 cv) := hSw.1.cell 0; have hc4 : w'.cell? ⟨w.heap.size, 4, none⟩ = some (.int .i64 d1.thr) := hSw.1.cell 4; have hSw2 := hSw.2.1; have hSw3 := hSw.2.2; go_simp
          try with_reducible rfl
        go_simp
        refine wpAnyH_ready (rs := [19]) (by kernel_rfl) (by simp) ?_
        refine AllReadyH.cons rfl (fun K hK => ?_) AllReadyH.nil
        refine gwanted rfl ?_
        refine wp_store_objR 71 (.tmp 8) (.tmp 43) rfl (w.heap.size + 2) 71 #[.slice none 0 0, .int .i64 0, .int .i64 0, .int .i64 0, .int .i64 0, .int .i64 0] (refWC (.slice (some ⟨g, 0, none⟩) m2 cv) { d1 with s := sk2 }) rfl rfl HZ6.out rfl rfl refWC_one ?_
        intro w7 hob hup
        have HZ7 := Lib.hid hob
        have HB7 := Lib.hid (bl_upd HB6.out hup (by omega))
        have HV7 := Lib.hid (HV6.out.one hup (fun q e => by cases e; exact HGG.out.2))
        have hs7 : Obj1 w7 w.heap.size (refWC (.slice (some ⟨g, 0, none⟩) m2 cv) { d1 with s := sk2 }) 71 ∧ w7.cell? ⟨g, at' * 10 + 8, none⟩ = some (.int .i64 x.c) ∧ w7.cell? ⟨g, at' * 10 + 9, none⟩ = some (.int .i64 x.e) := ⟨HX.out.1.of_grown hup (by simp), keep_upd hup HX.out.2.1 HGG.out.2, keep_upd hup HX.out.2.2 HGG.out.2⟩
        clear hob hup
        refine hK.out _ _ hs7 (fun hHeld => ?_)
        clear hK K
        have HX := Lib.hid hHeld
        clear hHeld hs7
        refine wpAnyH_take (i := 20) (v := ?_) rfl (by kernel_rfl) (by kernel_rfl) (by kernel_rfl) (fun _ _ _ h => h) (Or.inl ⟨by rfl, ?_⟩) HX.out ?_
        rotate_left
        · intro w' hSw; go_simp
          try with_reducible rfl
        go_simp
        refine wpAnyH_done (by kernel_rfl) ?_ _
        go_wp2_with fail
        refine bodyPost_ret (v := .tuple #[.agg (refWC (.slice (some ⟨g, 0, none⟩) m2 cv) { d1 with s := sk2 }), .bool (decide (d1.thr ≤ x.c - x.e))]) ?_ rfl ?_
        · rw [results_cell_tmp (p := 8) (u := 9) (ty := 71) rfl]
          show (Result.andThen (.ok (⟨w.heap.size + 2, 0, none⟩ : Addr) w7) _) = _
          simp only [Result.andThen_ok]
          rw [run_loadVar_row (P := Try.prog) w7 (w.heap.size + 2) 71 71 (refWC (.slice (some ⟨g, 0, none⟩) m2 cv) { d1 with s := sk2 }) (0, 0) _ HZ7.out Try.underlying71 rfl rfl]
          rfl
        · refine ⟨.slice (some ⟨g, 0, none⟩) m2 cv, x, ?_, HXX.out, ?_, HB7.out⟩
          · rw [HADD.out, HTH.out]
          · rw [HADD.out]
            exact HV7.out
    · have hnu0 := HQ0.out hpos
      have p1 : decide (0 < n1) = false := decide_eq_false hpos
      have HTU := Lib.hid (show d1 = d by rw [← HD1.out]; unfold wdTurn; rw [HNU.out, if_neg (by omega)])
      clear a0 HAT
      have hnu1 := Lib.hid hnu0
      clear hnu0
      go_quiet (fail)
      go_upto_region 6 with (fail)
      obtain ⟨w3, hw3⟩ : ∃ w3, w3 = wq.drewN nq := ⟨_, rfl⟩
      obtain ⟨v1, hv1⟩ : ∃ v1, v1 = v := ⟨_, rfl⟩
      have HKK := Lib.hid (show Obj1 w3 w.heap.size (refWC v1 d1) 71 by rw [HTU.out, hv1, hw3]; exact HK1.out)
      have HVV := Lib.hid (show RefV w3 B0 v1 d1.s.l by rw [HTU.out, hv1, hw3]; exact HV1.out)
      have HPP := Lib.hid (show Obj1 w3 (w.heap.size + 1) (pxC p).toArray 30 by rw [hw3]; exact HP1.out)
      have HZZ := Lib.hid (show Obj1 w3 (w.heap.size + 2) #[.slice none 0 0, .int .i64 0, .int .i64 0, .int .i64 0, .int .i64 0, .int .i64 0] 71 by rw [hw3]; exact HZ1.out)
      have HBB := Lib.hid (show Below w.heap.size w w3 by rw [hw3]; exact bl_drewN HB1.out _)
      rw [← hw3]
      clear hw3 hv1 c1 c3 c5 f5
      have HCS := Lib.hid (show ∀ (j : Nat) (u : Value), [v1, .int .i64 d1.s.room, .int .i64 d1.s.total][j]? = some u → w3.cell? ((⟨w.heap.size, 0, none⟩ : Addr).add j) = some u from three_cells (HKK.out.cell 0) (HKK.out.cell 1) (HKK.out.cell 2))
      go_wp2_with (first
        | (refine load_cells rfl 50 (.tmp 35) rfl ⟨w.heap.size, 0, none⟩ [v1, .int .i64 d1.s.room, .int .i64 d1.s.total] _ rfl HCS.out Try.underlying50 rfl rfl ?_)
        | (refine load_obj rfl 30 (.tmp 6) rfl (w.heap.size + 1) 30 (pxC p).toArray _ rfl HPP.out Try.underlying30 rfl HPA.out ?_))
      refine (refAdd_w B0 v1 d1.s HOK1.out.1 p hp n _ HVV.out).mono ?_
      rintro e w4 ⟨v2, rfl, hv2, hb4⟩
      have HOK2 := Lib.hid (skAdd_ok HOK1.out.1 hp n)
      obtain ⟨sk2, hsk2⟩ : ∃ sk2, skAdd d1.s p n = sk2 := ⟨_, rfl⟩
      obtain ⟨at', hat'⟩ : ∃ at', skAt d1.s p = at' := ⟨_, rfl⟩
      obtain ⟨x, hx⟩ : ∃ x, sk2.l[at']? = some x := by rw [← hsk2, ← hat']; exact skAdd_some p n HOK1.out.1
      rw [hsk2] at hv2 HOK2 HADD ⊢
      rw [hat']
      have hw3w : w.heap.size ≤ w3.heap.size := HBB.out.size
      have HV4 := Lib.hid (hv2.mono hw3w)
      have HK4 := Lib.hid (HKK.out.below hb4)
      have HZ4 := Lib.hid (HZZ.out.below hb4)
      have HB4 := Lib.hid (bl_next HBB.out hb4)
      have HG3 := Lib.hid (show ∀ g, w3.heap.size ≤ g → g ≠ w.heap.size ∧ g ≠ w.heap.size + 2 from fun g hg => ⟨by have := HKK.out.lt; omega, by have := HZZ.out.lt; omega⟩)
      obtain ⟨A2, cv, rfl, hcv, _, hrd2⟩ := hv2.slice HOK2.out.px
      obtain ⟨g, hg3, rfl, hcg⟩ := hrd2 at' x hx
      obtain ⟨m2, hm2⟩ : ∃ m2, sk2.l.length = m2 := ⟨_, rfl⟩
      have hatm : at' < m2 := by rw [← hm2]; exact (List.getElem?_eq_some_iff.1 hx).1
      rw [hm2] at HV4 ⊢
      have hxo : okSlo x := HOK2.out.2.2.1 x (List.mem_of_getElem? hx)
      have HXX := Lib.hid (show (wdAdd d now p n).s.l[skAt (wdTurn d now).s p]? = some x by rw [HADD.out, HD1.out, hat']; exact hx)
      have HCT := Lib.hid (show w4.cell? ⟨g, at' * 10 + 8, none⟩ = some (.int .i64 x.c) ∧ w4.cell? ⟨g, at' * 10 + 9, none⟩ = some (.int .i64 x.e) from ⟨by have := hcg 8 _ (sloC_tail hxo.1).1; rwa [add_flat] at this, by have := hcg 9 _ (sloC_tail hxo.1).2; rwa [add_flat] at this⟩)
      have HGG := Lib.hid (HG3.out g hg3)
      have k0 : (0 : Int) ≤ (at' : Int) := Int.natCast_nonneg at'
      have k1 : (at' : Int) < (m2 : Int) := by omega
      have a5 : IntKind.i64.wrap (x.c - x.e) = x.c - x.e := IntWalk.i64_in _ (by have := hxo.2; omega)
      have HTH := Lib.hid (show d1.thr = d.thr from HTN.out.2)
      clear hv2 hb4 hsk2 hat' hx hrd2 hcg hm2
      go_wp2_with (refine store_refS rfl 50 (.tmp 42) (.tmp 40) rfl w.heap.size 71 v1 d1 HK4.out (.slice (some ⟨g, 0, none⟩) m2 cv) sk2 rfl rfl rfl (by simp [refC, Value.oneCell']) ?_; intro w5 hob hup; have HK5 := Lib.hid hob; have HZ5 := Lib.hid (HZ4.out.of_grown hup (by simp)); have HB5 := Lib.hid (bl_upd HB4.out hup (Nat.le_refl _)); have HV5 := Lib.hid (show RefV w5 w.heap.size (.slice (some ⟨g, 0, none⟩) m2 cv) sk2.l from HV4.out.one hup (fun q e => by cases e; exact HGG.out.1)); have HC5 := Lib.hid (And.intro (keep_upd hup HCT.out.1 HGG.out.1) (keep_upd hup HCT.out.2 HGG.out.1)); clear hob hup)
      refine wp_region_held_drew (S := (fun w' => Obj1 w' w.heap.size (refWC (.slice (some ⟨g, 0, none⟩) m2 cv) { d1 with s := sk2 }) 71 ∧ w'.cell? ⟨g, at' * 10 + 8, none⟩ = some (.int .i64 x.c) ∧ w'.cell? ⟨g, at' * 10 + 9, none⟩ = some (.int .i64 x.e))) (by kernel_rfl) (⟨HK5.out, HC5.out.1, HC5.out.2⟩) (fun hHeld => ?_)
      generalize hW0 : World.drew _ = W0 at hHeld ⊢
      have HZ6 := Lib.hid (show Obj1 W0 (w.heap.size + 2) #[.slice none 0 0, .int .i64 0, .int .i64 0, .int .i64 0, .int .i64 0, .int .i64 0] 71 by rw [← hW0]; exact HZ5.out)
      have HB6 := Lib.hid (show Below w.heap.size w W0 by rw [← hW0]; exact bl_drewN HB5.out 1)
      have HV6 := Lib.hid (show RefV W0 w.heap.size (.slice (some ⟨g, 0, none⟩) m2 cv) sk2.l by rw [← hW0]; exact HV5.out)
      have HX := Lib.hid hHeld
      clear hW0 hHeld
      refine wpAnyH_take (i := 0) (v := .agg (refWC (.slice (some ⟨g, 0, none⟩) m2 cv) { d1 with s := sk2 })) rfl (by kernel_rfl) (by kernel_rfl) (by kernel_rfl) (fun _ _ _ h => h) (Or.inl ⟨by rfl, ?_⟩) HX.out ?_
      · intro w' hSw
        have hld := run_loadVar_row (P := Try.prog) w' (w.heap.size) 71 71 (refWC (.slice (some ⟨g, 0, none⟩) m2 cv) { d1 with s := sk2 }) (0, 0) _ hSw.1 Try.underlying71 rfl rfl
        simp [execOp, Act.eval, Instr.loadAt, Instr.sureAddr, Sem.run_bind, hld, Result.andThen]
      go_simp
      refine wpAnyH_take (i := 1) (v := ?_) rfl (by kernel_rfl) (by kernel_rfl) (by kernel_rfl) (fun _ _ _ h => h) (Or.inl ⟨by rfl, ?_⟩) HX.out ?_
      rotate_left
      · intro w' hSw; have hc0 : w'.cell? ⟨w.heap.size, 0, none⟩ = some (.slice (some ⟨g, 0, none⟩) m2 cv) := hSw.1.cell 0; have hc4 : w'.cell? ⟨w.heap.size, 4, none⟩ = some (.int .i64 d1.thr) := hSw.1.cell 4; have hSw2 := hSw.2.1; have hSw3 := hSw.2.2; go_simp
        try with_reducible rfl
      go_simp
      refine wpAnyH_take (i := 2) (v := ?_) rfl (by kernel_rfl) (by kernel_rfl) (by kernel_rfl) (fun _ _ _ h => h) (Or.inl ⟨by rfl, ?_⟩) HX.out ?_
      rotate_left
      · intro w' hSw; have hc0 : w'.cell? ⟨w.heap.size, 0, none⟩ = some (.slice (some ⟨g, 0, none⟩) m2 cv) := hSw.1.cell 0; have hc4 : w'.cell? ⟨w.heap.size, 4, none⟩ = some (.int .i64 d1.thr) := hSw.1.cell 4; have hSw2 := hSw.2.1; have hSw3 := hSw.2.2; go_simp
        try with_reducible rfl
      go_simp
      refine wpAnyH_take (i := 3) (v := ?_) rfl (by kernel_rfl) (by kernel_rfl) (by kernel_rfl) (fun _ _ _ h => h) (Or.inl ⟨by rfl, ?_⟩) HX.out ?_
      rotate_left
      · intro w' hSw; have hc0 : w'.cell? ⟨w.heap.size, 0, none⟩ = some (.slice (some ⟨g, 0, none⟩) m2 cv) := hSw.1.cell 0; have hc4 : w'.cell? ⟨w.heap.size, 4, none⟩ = some (.int .i64 d1.thr) := hSw.1.cell 4; have hSw2 := hSw.2.1; have hSw3 := hSw.2.2; go_simp
        try with_reducible rfl
      go_simp
      refine wpAnyH_take (i := 4) (v := ?_) rfl (by kernel_rfl) (by kernel_rfl) (by kernel_rfl) (fun _ _ _ h => h) (Or.inl ⟨by rfl, ?_⟩) HX.out ?_
      rotate_left
      · intro w' hSw; have hc0 : w'.cell? ⟨w.heap.size, 0, none⟩ = some (.slice (some ⟨g, 0, none⟩) m2 cv) := hSw.1.cell 0; have hc4 : w'.cell? ⟨w.heap.size, 4, none⟩ = some (.int .i64 d1.thr) := hSw.1.cell 4; have hSw2 := hSw.2.1; have hSw3 := hSw.2.2; go_simp
        try with_reducible rfl
      go_simp
      refine wpAnyH_take (i := 5) (v := ?_) rfl (by kernel_rfl) (by kernel_rfl) (by kernel_rfl) (fun _ _ _ h => h) (Or.inl ⟨by rfl, ?_⟩) HX.out ?_
      rotate_left
      · intro w' hSw; have hc0 : w'.cell? ⟨w.heap.size, 0, none⟩ = some (.slice (some ⟨g, 0, none⟩) m2 cv) := hSw.1.cell 0; have hc4 : w'.cell? ⟨w.heap.size, 4, none⟩ = some (.int .i64 d1.thr) := hSw.1.cell 4; have hSw2 := hSw.2.1; have hSw3 := hSw.2.2; go_simp
        try with_reducible rfl
      go_simp
      refine wpAnyH_take (i := 6) (v := ?_) rfl (by kernel_rfl) (by kernel_rfl) (by kernel_rfl) (fun _ _ _ h => h) (Or.inl ⟨by rfl, ?_⟩) HX.out ?_
      rotate_left
      · intro w' hSw; have hc0 : w'.cell? ⟨w.heap.size, 0, none⟩ = some (.slice (some ⟨g, 0, none⟩) m2 cv) := hSw.1.cell 0; have hc4 : w'.cell? ⟨w.heap.size, 4, none⟩ = some (.int .i64 d1.thr) := hSw.1.cell 4; have hSw2 := hSw.2.1; have hSw3 := hSw.2.2; go_simp
        try with_reducible rfl
      go_simp
      refine wpAnyH_take (i := 7) (v := ?_) rfl (by kernel_rfl) (by kernel_rfl) (by kernel_rfl) (fun _ _ _ h => h) (Or.inl ⟨by rfl, ?_⟩) HX.out ?_
      rotate_left
      · intro w' hSw; have hc0 : w'.cell? ⟨w.heap.size, 0, none⟩ = some (.slice (some ⟨g, 0, none⟩) m2 cv) := hSw.1.cell 0; have hc4 : w'.cell? ⟨w.heap.size, 4, none⟩ = some (.int .i64 d1.thr) := hSw.1.cell 4; have hSw2 := hSw.2.1; have hSw3 := hSw.2.2; go_simp
        try with_reducible rfl
      go_simp
      refine wpAnyH_take (i := 8) (v := ?_) rfl (by kernel_rfl) (by kernel_rfl) (by kernel_rfl) (fun _ _ _ h => h) (Or.inl ⟨by rfl, ?_⟩) HX.out ?_
      rotate_left
      · intro w' hSw; have hc0 : w'.cell? ⟨w.heap.size, 0, none⟩ = some (.slice (some ⟨g, 0, none⟩) m2 cv) := hSw.1.cell 0; have hc4 : w'.cell? ⟨w.heap.size, 4, none⟩ = some (.int .i64 d1.thr) := hSw.1.cell 4; have hSw2 := hSw.2.1; have hSw3 := hSw.2.2; go_simp
        try with_reducible rfl
      go_simp
      refine wpAnyH_take (i := 9) (v := ?_) rfl (by kernel_rfl) (by kernel_rfl) (by kernel_rfl) (fun _ _ _ h => h) (Or.inl ⟨by rfl, ?_⟩) HX.out ?_
      rotate_left
      · intro w' hSw; have hc0 : w'.cell? ⟨w.heap.size, 0, none⟩ = some (.slice (some ⟨g, 0, none⟩) m2 cv) := hSw.1.cell 0; have hc4 : w'.cell? ⟨w.heap.size, 4, none⟩ = some (.int .i64 d1.thr) := hSw.1.cell 4; have hSw2 := hSw.2.1; have hSw3 := hSw.2.2; go_simp
        try with_reducible rfl
      go_simp
      refine wpAnyH_take (i := 10) (v := ?_) rfl (by kernel_rfl) (by kernel_rfl) (by kernel_rfl) (fun _ _ _ h => h) (Or.inl ⟨by rfl, ?_⟩) HX.out ?_
      rotate_left
      · intro w' hSw; have hc0 : w'.cell? ⟨w.heap.size, 0, none⟩ = some (.slice (some ⟨g, 0, none⟩) m2 cv) := hSw.1.cell 0; have hc4 : w'.cell? ⟨w.heap.size, 4, none⟩ = some (.int .i64 d1.thr) := hSw.1.cell 4; have hSw2 := hSw.2.1; have hSw3 := hSw.2.2; go_simp
        try with_reducible rfl
      go_simp
      refine wpAnyH_take (i := 11) (v := ?_) rfl (by kernel_rfl) (by kernel_rfl) (by kernel_rfl) (fun _ _ _ h => h) (Or.inl ⟨by rfl, ?_⟩) HX.out ?_
      rotate_left
      · intro w' hSw; have hc0 : w'.cell? ⟨w.heap.size, 0, none⟩ = some (.slice (some ⟨g, 0, none⟩) m2 cv) := hSw.1.cell 0; have hc4 : w'.cell? ⟨w.heap.size, 4, none⟩ = some (.int .i64 d1.thr) := hSw.1.cell 4; have hSw2 := hSw.2.1; have hSw3 := hSw.2.2; go_simp
        try with_reducible rfl
      go_simp
      refine wpAnyH_take (i := 12) (v := ?_) rfl (by kernel_rfl) (by kernel_rfl) (by kernel_rfl) (fun _ _ _ h => h) (Or.inl ⟨by rfl, ?_⟩) HX.out ?_
      rotate_left
      · intro w' hSw; have hc0 : w'.cell? ⟨w.heap.size, 0, none⟩ = some (.slice (some ⟨g, 0, none⟩) m2 cv) := hSw.1.cell 0; have hc4 : w'.cell? ⟨w.heap.size, 4, none⟩ = some (.int .i64 d1.thr) := hSw.1.cell 4; have hSw2 := hSw.2.1; have hSw3 := hSw.2.2; go_simp
        try with_reducible rfl
      go_simp
      refine wpAnyH_take (i := 13) (v := ?_) rfl (by kernel_rfl) (by kernel_rfl) (by kernel_rfl) (fun _ _ _ h => h) (Or.inl ⟨by rfl, ?_⟩) HX.out ?_
      rotate_left
      · intro w' hSw; have hc0 : w'.cell? ⟨w.heap.size, 0, none⟩ = some (.slice (some ⟨g, 0, none⟩) m2 cv) := hSw.1.cell 0; have hc4 : w'.cell? ⟨w.heap.size, 4, none⟩ = some (.int .i64 d1.thr) := hSw.1.cell 4; have hSw2 := hSw.2.1; have hSw3 := hSw.2.2; go_simp
        try with_reducible rfl
      go_simp
      refine wpAnyH_take (i := 14) (v := ?_) rfl (by kernel_rfl) (by kernel_rfl) (by kernel_rfl) (fun _ _ _ h => h) (Or.inl ⟨by rfl, ?_⟩) HX.out ?_
      rotate_left
      · intro w' hSw; have hc0 : w'.cell? ⟨w.heap.size, 0, none⟩ = some (.slice (some ⟨g, 0, none⟩) m2 cv) := hSw.1.cell 0; have hc4 : w'.cell? ⟨w.heap.size, 4, none⟩ = some (.int .i64 d1.thr) := hSw.1.cell 4; have hSw2 := hSw.2.1; have hSw3 := hSw.2.2; go_simp
        try with_reducible rfl
      go_simp
      refine wpAnyH_take (i := 15) (v := ?_) rfl (by kernel_rfl) (by kernel_rfl) (by kernel_rfl) (fun _ _ _ h => h) (Or.inl ⟨by rfl, ?_⟩) HX.out ?_
      rotate_left
      · intro w' hSw; have hc0 : w'.cell? ⟨w.heap.size, 0, none⟩ = some (.slice (some ⟨g, 0, none⟩) m2 cv) := hSw.1.cell 0; have hc4 : w'.cell? ⟨w.heap.size, 4, none⟩ = some (.int .i64 d1.thr) := hSw.1.cell 4; have hSw2 := hSw.2.1; have hSw3 := hSw.2.2; go_simp
        try with_reducible rfl
      go_simp
      refine wpAnyH_take (i := 16) (v := ?_) rfl (by kernel_rfl) (by kernel_rfl) (by kernel_rfl) (fun _ _ _ h => h) (Or.inl ⟨by rfl, ?_⟩) HX.out ?_
      rotate_left
      · intro w' hSw; have hc0 : w'.cell? ⟨w.heap.size, 0, none⟩ = some (.slice (some ⟨g, 0, none⟩) m2 cv) := hSw.1.cell 0; have hc4 : w'.cell? ⟨w.heap.size, 4, none⟩ = some (.int .i64 d1.thr) := hSw.1.cell 4; have hSw2 := hSw.2.1; have hSw3 := hSw.2.2; go_simp
        try with_reducible rfl
      go_simp
      refine wpAnyH_take (i := 17) (v := ?_) rfl (by kernel_rfl) (by kernel_rfl) (by kernel_rfl) (fun _ _ _ h => h) (Or.inl ⟨by rfl, ?_⟩) HX.out ?_
      rotate_left
      · intro w' hSw; have hc0 : w'.cell? ⟨w.heap.size, 0, none⟩ = some (.slice (some ⟨g, 0, none⟩) m2 cv) := hSw.1.cell 0; have hc4 : w'.cell? ⟨w.heap.size, 4, none⟩ = some (.int .i64 d1.thr) := hSw.1.cell 4; have hSw2 := hSw.2.1; have hSw3 := hSw.2.2; go_simp
        try with_reducible rfl
      go_simp
      refine wpAnyH_take (i := 18) (v := ?_) rfl (by kernel_rfl) (by kernel_rfl) (by kernel_rfl) (fun _ _ _ h => h) (Or.inl ⟨by rfl, ?_⟩) HX.out ?_
      rotate_left
      · intro w' hSw; have hc0 : w'.cell? ⟨w.heap.size, 0, none⟩ = some (.slice (some ⟨g, 0, none⟩) m2 cv) := hSw.1.cell 0; have hc4 : w'.cell? ⟨w.heap.size, 4, none⟩ = some (.int .i64 d1.thr) := hSw.1.cell 4; have hSw2 := hSw.2.1; have hSw3 := hSw.2.2; go_simp
        try with_reducible rfl
      go_simp
      refine wpAnyH_ready (rs := [19]) (by kernel_rfl) (by simp) ?_
      refine AllReadyH.cons rfl (fun K hK => ?_) AllReadyH.nil
      refine gwanted rfl ?_
      refine wp_store_objR 71 (.tmp 8) (.tmp 43) rfl (w.heap.size + 2) 71 #[.slice none 0 0, .int .i64 0, .int .i64 0, .int .i64 0, .int .i64 0, .int .i64 0] (refWC (.slice (some ⟨g, 0, none⟩) m2 cv) { d1 with s := sk2 }) rfl rfl HZ6.out rfl rfl refWC_one ?_
      intro w7 hob hup
      have HZ7 := Lib.hid hob
      have HB7 := Lib.hid (bl_upd HB6.out hup (by omega))
      have HV7 := Lib.hid (HV6.out.one hup (fun q e => by cases e; exact HGG.out.2))
      have hs7 : Obj1 w7 w.heap.size (refWC (.slice (some ⟨g, 0, none⟩) m2 cv) { d1 with s := sk2 }) 71 ∧ w7.cell? ⟨g, at' * 10 + 8, none⟩ = some (.int .i64 x.c) ∧ w7.cell? ⟨g, at' * 10 + 9, none⟩ = some (.int .i64 x.e) := ⟨HX.out.1.of_grown hup (by simp), keep_upd hup HX.out.2.1 HGG.out.2, keep_upd hup HX.out.2.2 HGG.out.2⟩
      clear hob hup
      refine hK.out _ _ hs7 (fun hHeld => ?_)
      clear hK K
      have HX := Lib.hid hHeld
      clear hHeld hs7
      refine wpAnyH_take (i := 20) (v := ?_) rfl (by kernel_rfl) (by kernel_rfl) (by kernel_rfl) (fun _ _ _ h => h) (Or.inl ⟨by rfl, ?_⟩) HX.out ?_
      rotate_left
      · intro w' hSw; go_simp
        try with_reducible rfl
      go_simp
      refine wpAnyH_done (by kernel_rfl) ?_ _
      go_wp2_with fail
      refine bodyPost_ret (v := .tuple #[.agg (refWC (.slice (some ⟨g, 0, none⟩) m2 cv) { d1 with s := sk2 }), .bool (decide (d1.thr ≤ x.c - x.e))]) ?_ rfl ?_
      · rw [results_cell_tmp (p := 8) (u := 9) (ty := 71) rfl]
        show (Result.andThen (.ok (⟨w.heap.size + 2, 0, none⟩ : Addr) w7) _) = _
        simp only [Result.andThen_ok]
        rw [run_loadVar_row (P := Try.prog) w7 (w.heap.size + 2) 71 71 (refWC (.slice (some ⟨g, 0, none⟩) m2 cv) { d1 with s := sk2 }) (0, 0) _ HZ7.out Try.underlying71 rfl rfl]
        rfl
      · refine ⟨.slice (some ⟨g, 0, none⟩) m2 cv, x, ?_, HXX.out, ?_, HB7.out⟩
        · rw [HADD.out, HTH.out]
        · rw [HADD.out]
          exact HV7.out
end Go.Proofs.Ytdmfmanmhlnleaa
