/- The walk of SketchPlays: it answers true. -/
import Derived.Test.YtdmfmanmhlnleaaSkS
import Derived.Test.YtdmfmanmhlnleaaSkF
namespace Go.Proofs.Ytdmfmanmhlnleaa
open Go.RowKit
set_option linter.unusedVariables false
set_option linter.unusedSimpArgs false

section
variable {P : Program} {ops : Array Oper} {rest : List Oper} {o : Oper} {a : Act} {Q : Exit → Act → World → Prop} {w : World}
theorem load_obj_gR (hgd : Region.wanted o (yielded ops a.tmps) = true) (ty : TypeId) (x : Operand) (ho : o.op = .load ty x) (p : Nat) (t : TypeId) (cs : Array Value) (d : TypeDesc) (hx : a.eval x = .pointer (some ⟨p, 0, none⟩)) (HO : Obj1 w p cs t)
    (hu : P.underlying ty = some d) (hd : (match d with | .struct _ | .array _ _ => true | _ => false) = true) (hi : (P.info? ty).map (·.size) = some cs.size)
    (h : wpList P ops Q rest (a.put o.dst (.agg cs)) w) : wpList P ops Q (o :: rest) a w :=
  wpList_step fun K hK => by
    rw [if_pos hgd]
    exact wp_load_row ty x ho p hx t cs (0, 0) d HO hu hd hi (hK _ _ h)
theorem eq_list_g (hgd : Region.wanted o (yielded ops a.tmps) = true) (T tr : TypeId) (x y : Operand) (ho : o.op = .binOp .eql T x y tr) (xs ys : Array Value) (hx : a.eval x = .agg xs) (hy : a.eval y = .agg ys) (b : Bool)
    (hm : P.eqGuardType P.depth T = false) (he : (Op.equal T (.agg xs) (.agg ys)).run P w = .ok b w) (h : wpList P ops Q rest (a.put o.dst (.bool b)) w) : wpList P ops Q (o :: rest) a w :=
  wpList_step fun K hK => by
    rw [if_pos hgd]
    exact wp_eqA .eql false (.inl ⟨rfl, rfl⟩) T tr x y ho xs ys hx hy b hm he (hK _ _ (by simpa using h))
end
theorem RefV.keep {w w' : World} {B0 : Nat} {v : Value} {l : List Slo} (h : RefV w B0 v l) (hk : ∀ g, B0 ≤ g → g < w.heap.size → w'.heap[g]? = w.heap[g]?) : RefV w' B0 v l := by
  obtain ⟨A, c, h1, h2, h3, h4⟩ := h
  refine ⟨A, c, h1, h2, h3, fun j u hj => ?_⟩
  rcases h3 with rfl | ⟨g, hg, rfl⟩
  · simp [slosC_nil] at hj
  · obtain ⟨ad, e, hc⟩ := h4 j u hj
    cases e
    rw [add_flat] at hc
    refine ⟨_, rfl, ?_⟩
    rw [add_flat]
    exact (World.cell?_of_block (w := w) (hk g hg (cell_lt hc))).trans hc
theorem fnd_before {l : List Slo} {p : Px} {j : Nat} {s' : Slo} (hj : j < fnd l p) (h : l[j]? = some s') : s'.p ≠ p := by
  obtain ⟨hlt, rfl⟩ := List.getElem?_eq_some_iff.1 h
  have := List.not_of_lt_findIdx (p := fun s : Slo => decide (s.p = p)) (xs := l) (i := j) hj
  simpa using this
theorem skAdd_fnd {s : Sk} {p : Px} (n : Int) (hok : okSk s) : fnd (skAdd s p n).l p = skAt s p := by
  by_cases h1 : fnd s.l p < s.l.length
  · obtain ⟨y, hy, hp⟩ := fnd_at h1
    have e1 : skBase s p = s.l := by unfold skBase; rw [if_pos h1]
    have e2 : skAt s p = fnd s.l p := by unfold skAt; rw [if_pos h1]
    rw [skAdd_eq e1 e2 hy, e2]
    refine fnd_yes (List.getElem?_set_self h1) hp (fun j s' hj hs' => ?_)
    rw [List.getElem?_set_ne (by omega)] at hs'
    exact fnd_before hj hs'
  · have hm : p ∉ pxs s.l := fun h => h1 (fnd_mem.2 h)
    have hno : ∀ (j : Nat) (s' : Slo), s.l[j]? = some s' → s'.p ≠ p := fun j s' hs' e => hm (List.mem_map.2 ⟨s', List.mem_of_getElem? hs', e⟩)
    by_cases hr : s.l.length < s.room
    · have e1 : skBase s p = s.l ++ [⟨p, 0, 0⟩] := by unfold skBase; rw [if_neg h1, if_pos hr]
      have e2 : skAt s p = s.l.length := by unfold skAt; rw [if_neg h1, if_pos hr]
      rw [skAdd_eq e1 e2 (x := ⟨p, 0, 0⟩) (by simp), e2]
      refine fnd_yes (List.getElem?_set_self (by simp)) rfl (fun j s' hj hs' => ?_)
      rw [List.getElem?_set_ne (by omega), List.getElem?_append_left hj] at hs'
      exact hno j s' hs'
    · have hlen : 0 < s.l.length := by have := hok.1.1; omega
      have hkl : lst s.l s.l.length < s.l.length := by rcases lst_lt s.l s.l.length with h | h <;> omega
      have e1 : skBase s p = s.l.set (lst s.l s.l.length) ⟨p, cntAt s.l (lst s.l s.l.length), cntAt s.l (lst s.l s.l.length)⟩ := by unfold skBase; rw [if_neg h1, if_neg hr]
      have e2 : skAt s p = lst s.l s.l.length := by unfold skAt; rw [if_neg h1, if_neg hr]
      rw [skAdd_eq e1 e2 (x := ⟨p, cntAt s.l (lst s.l s.l.length), cntAt s.l (lst s.l s.l.length)⟩) (by rw [List.getElem?_set_self hkl]), e2]
      refine fnd_yes (List.getElem?_set_self (by simpa using hkl)) rfl (fun j s' hj hs' => ?_)
      rw [List.getElem?_set_ne (by omega), List.getElem?_set_ne (by omega)] at hs'
      exact hno j s' hs'
theorem skTotalNil_w (w : World) : Calls Try.prog 17 #[.pointer none] w fun e w' => e = .returned (.int .i64 0) ∧ w = w' := by
  go_enter Try.func17, Try.ntmps17
  go_wp2
  go_ret
  exact ⟨rfl, rfl⟩
theorem skSlotsNil_w (w : World) : Calls Try.prog 15 #[.pointer none] w fun e w' => e = .returned (.slice none 0 0) ∧ w = w' := by
  go_enter Try.func15, Try.ntmps15
  go_wp2
  go_ret
  exact ⟨rfl, rfl⟩
theorem skAddNil_w (cs : Array Value) (n0 : Int) (w : World) : Calls Try.prog 14 #[.pointer none, .agg cs, .int .i64 n0] w fun e w' => e = .returned (.agg #[.bool false, .int .u8 0, .int .u8 0, .int .u8 0, .int .u8 0, .int .u8 0, .int .u8 0, .int .u8 0, .int .i64 0, .int .i64 0]) ∧ Below w.heap.size w w' := by
  have hb1 := bl_alloc (Below.refl w.heap.size w) (.cells cs 30)
  have hb2 := bl_next hb1 (bl_alloc (Below.refl _ _) (.cells #[.bool false, .int .u8 0, .int .u8 0, .int .u8 0, .int .u8 0, .int .u8 0, .int .u8 0, .int .u8 0, .int .i64 0, .int .i64 0] 32))
  have HB0 := Lib.hid hb2
  have HR0 := Lib.hid (show Obj1 ((w.alloc (.cells cs 30)).alloc (.cells #[.bool false, .int .u8 0, .int .u8 0, .int .u8 0, .int .u8 0, .int .u8 0, .int .u8 0, .int .u8 0, .int .i64 0, .int .i64 0] 32)) (w.heap.size + 1) #[.bool false, .int .u8 0, .int .u8 0, .int .u8 0, .int .u8 0, .int .u8 0, .int .u8 0, .int .u8 0, .int .i64 0, .int .i64 0] 32 by
    have := Obj1.new (w.alloc (.cells cs 30)) #[.bool false, .int .u8 0, .int .u8 0, .int .u8 0, .int .u8 0, .int .u8 0, .int .u8 0, .int .u8 0, .int .i64 0, .int .i64 0] 32
    rwa [World.size_alloc] at this)
  clear hb1 hb2
  go_enter Try.func14, Try.ntmps14
  go_wp2_with (refine store_obj rfl 32 (.tmp 6) (.tmp 10) rfl (w.heap.size + 1) 32 _ #[.bool false, .int .u8 0, .int .u8 0, .int .u8 0, .int .u8 0, .int .u8 0, .int .u8 0, .int .u8 0, .int .i64 0, .int .i64 0] rfl rfl HR0.out rfl rfl (all_oneCell_toArray (sloC_one ⟨⟨false, [0, 0, 0, 0, 0, 0, 0]⟩, 0, 0⟩)) ?_; intro w9 hob9 hup9; have HOB9 := Lib.hid hob9; have HUP9 := Lib.hid hup9; clear hob9 hup9)
  refine bodyPost_ret (results_cell_row rfl _ _ (w.heap.size + 1) 32 #[.bool false, .int .u8 0, .int .u8 0, .int .u8 0, .int .u8 0, .int .u8 0, .int .u8 0, .int .u8 0, .int .i64 0, .int .i64 0] (0, 0) _ rfl HOB9.out Try.underlying32 rfl rfl) rfl ?_
  exact ⟨rfl, bl_upd HB0.out HUP9.out (by omega)⟩
theorem eq_zero (w : World) : (Op.equal 32 (.agg #[.bool false, .int .u8 0, .int .u8 0, .int .u8 0, .int .u8 0, .int .u8 0, .int .u8 0, .int .u8 0, .int .i64 0, .int .i64 0]) (.agg #[.bool false, .int .u8 0, .int .u8 0, .int .u8 0, .int .u8 0, .int .u8 0, .int .u8 0, .int .u8 0, .int .i64 0, .int .i64 0])).run Try.prog w = .ok true w := by
  have h := eq_slo w (x := ⟨⟨false, [0, 0, 0, 0, 0, 0, 0]⟩, 0, 0⟩) (y := ⟨⟨false, [0, 0, 0, 0, 0, 0, 0]⟩, 0, 0⟩) ⟨ok00.1, by decide, by decide⟩ ⟨ok00.1, by decide, by decide⟩
  exact h.trans (by rw [decide_eq_true rfl])

set_option maxRecDepth 100000 in
set_option maxHeartbeats 8000000 in
theorem SketchPlays_x (slots : Int) (hsl : -9223372036854775808 ≤ slots ∧ slots ≤ 9223372036854775807) (p : Px) (hp : okPx p) (A : Option Addr) (n c : Nat) (L : List Sn) (hLn : L.length = n) (hn63 : n ≤ 9223372036854775807) (hok : ∀ s ∈ L, okSn s) (w0 : World) (hrd : SnRd w0 A L) :
    Calls Try.prog 7 #[.int .i64 slots, .slice A n c, .agg (pxC p).toArray] w0 fun e w' => e = .returned (.bool true) ∧ Below w0.heap.size w0 w' := by
  have HLN := Lib.hid hLn
  have HOK := Lib.hid hok
  have HPA := Lib.hid (px_sizeA hp)
  have hbw := bl_alloc (Below.refl w0.heap.size w0) (.cells (pxC p).toArray 30)
  have hpb := Obj1.new w0 (pxC p).toArray 30
  have hrd' : SnRd (w0.alloc (.cells (pxC p).toArray 30)) A L := fun k s hk => let ⟨b, off, e, h⟩ := hrd k s hk; ⟨b, off, e, fun q v hq => bl_keeps hbw (h q v hq)⟩
  obtain ⟨w, hw⟩ : ∃ w, w = w0.alloc (.cells (pxC p).toArray 30) := ⟨_, rfl⟩
  rw [← hw] at hbw hpb hrd'
  have HBW := Lib.hid hbw
  have HPB := Lib.hid hpb
  have HRD := Lib.hid hrd'
  have HW := Lib.hid hw
  clear hbw hpb hrd' hw hLn hok hrd
  go_enter Try.func7, Try.ntmps7
  go_wp2_with fail
  rw [← HW.out]
  refine (awake18_w _).mono ?_
  rintro e w1 ⟨rfl, hb1⟩
  have HB1 := Lib.hid hb1
  have HP1 := Lib.hid (HPB.out.below hb1)
  clear hb1
  by_cases hlim : 120 < n
  · have hlim' : (120 : Int) < (n : Int) := by omega
    go_wp2_with fail
    refine (awake18_w _).mono ?_
    rintro e w2 ⟨rfl, hb2⟩
    have HB2 := Lib.hid (bl_next HB1.out hb2)
    clear hb2
    go_wp2
    go_ret
    exact ⟨rfl, bl_next HBW.out HB2.out⟩
  · have hlim' : ¬ (120 : Int) < (n : Int) := by omega
    by_cases hgood : 1 ≤ slots ∧ slots ≤ 64
    · obtain ⟨R, rfl⟩ := Int.eq_ofNat_of_zero_le (show 0 ≤ slots by omega)
      have hRb : 1 ≤ R ∧ R ≤ 64 := by omega
      have g1 : ¬ (R : Int) < 1 := by omega
      have g1d : decide ((R : Int) < 1) = false := decide_eq_false g1
      have g2 : ¬ (64 : Int) < (R : Int) := by omega
      clear hgood
      go_wp2_with fail
      refine (skNew_w R hRb _).mono ?_
      rintro e w2 ⟨S, Lb, rfl, hwL0, hLS, hS2, hb2⟩
      have HON := Lib.hid (skNew_ok (n := R) hRb)
      have hwL : w.heap.size ≤ Lb := Nat.le_trans HB1.out.size hwL0
      have hwS : w.heap.size ≤ S := by omega
      have HS2 := Lib.hid hS2
      have HB2 := Lib.hid (bl_next HB1.out hb2)
      clear hS2 hb2
      go_wp2_with (refine store_obj rfl 50 (.tmp 9) (.tmp 62) rfl w2.heap.size 50 _ (refC (.slice none 0 0) (skNew R)) rfl rfl (Obj1.new _ _ _) rfl rfl (by simp [refC, Value.oneCell']) ?_; intro w3 hob hup; have hbb := bl_upd (bl_alloc (Below.refl w2.heap.size w2) _) hup (Nat.le_refl _); have HX3 := Lib.hid hob; have HS3 := Lib.hid (HS2.out.below hbb); have HB3 := Lib.hid (bl_next HB2.out hbb); clear hob hup hbb)
      have HXN := Lib.hid (show w.heap.size ≤ w2.heap.size ∧ S ≠ w2.heap.size ∧ Lb ≠ w2.heap.size ∧ w2.heap.size < w3.heap.size from ⟨HB2.out.size, Nat.ne_of_lt HS2.out.2.1.lt, Nat.ne_of_lt HS2.out.2.2.lt, HX3.out.lt⟩)
      have HXN0 := Lib.hid (show S < w3.heap.size ∧ Lb < w3.heap.size from ⟨HS3.out.2.1.lt, HS3.out.2.2.lt⟩)
      generalize hXX : w2.heap.size = X at HX3 HXN ⊢
      obtain ⟨B0, hB0⟩ : ∃ B0, B0 = w3.heap.size := ⟨_, rfl⟩
      have HNX := Lib.hid (show w.heap.size ≤ X ∧ S ≠ X ∧ Lb ≠ X ∧ X < B0 by rw [hB0]; exact HXN.out)
      have HNX0 := Lib.hid (show S < B0 ∧ Lb < B0 by rw [hB0]; exact HXN0.out)
      have HB03 := Lib.hid (show B0 ≤ w3.heap.size by rw [hB0]; exact Nat.le_refl _)
      clear hXX hB0
      go_wp2_with fail
      go_loopw [65] (fun i wr => ∃ (k m : Nat) (v : Value), k ≤ n ∧ i = .int .i64 k ∧ SkO wr S Lb m (skRun (skNew R) (L.take k)) ∧ Obj1 wr X (refC v (skRun (skNew R) (L.take k))) 50 ∧ RefV wr B0 v (skRun (skNew R) (L.take k)).l ∧ Below w.heap.size w wr ∧ B0 ≤ wr.heap.size) (fun i _ => n - (intOf i).toNat)
      case atStart => exact ⟨0, 0, .slice none 0 0, Nat.zero_le _, rfl, HS3.out, HX3.out, RefV.nil _ _, HB3.out, HB03.out⟩
      case round =>
        obtain ⟨k, m, v, hk, rfl, hsk, hxb, hrv, hbel, hbo⟩ := hrel
        have HSK := Lib.hid hsk
        have HXB := Lib.hid hxb
        have HRV := Lib.hid hrv
        have HBL := Lib.hid hbel
        have HBO := Lib.hid hbo
        clear hsk hxb hrv hbel hbo
        by_cases hlt : k < n
        · have hk0 : (0 : Int) ≤ (k : Int) := Int.natCast_nonneg k
          have hk1 : (k : Int) < (n : Int) := by omega
          obtain ⟨x, hx⟩ : ∃ x, L[k]? = some x := ⟨_, List.getElem?_eq_getElem (by have := HLN.out; omega)⟩
          obtain ⟨b, off, rfl, hc⟩ := HRD.out k x hx
          have hxs : okSn x := HOK.out x (List.mem_of_getElem? hx)
          have hxp : okPx x.p := hxs.1
          have HCW := Lib.hid (show CellsAt w b (off + k * 9) (pxC x.p) ∧ w.cell? ⟨b, off + k * 9 + 8, none⟩ = some (.int .i64 x.n) from ⟨fun q v hq => hc q v (sn_px hq), by have := hc 8 _ (sn_n hxp); rwa [add_flat] at this⟩)
          have HXL := Lib.hid hx
          have HPS := Lib.hid (px_size hxp)
          clear hx hc
          have HSTEP := Lib.hid (skRun_step (skNew R) HXL.out)
          obtain ⟨sk, hsk⟩ : ∃ sk, skRun (skNew R) (L.take k) = sk := ⟨_, rfl⟩
          have HOKK := Lib.hid (show okSk sk by rw [← hsk]; exact skRun_ok HON.out (fun s hs => (HOK.out s (List.mem_of_mem_take hs)).1))
          rw [hsk] at HSTEP HSK HXB HRV
          have HOK2 := Lib.hid (skAdd_ok HOKK.out hxp x.n)
          have HFND := Lib.hid (skAdd_fnd (p := x.p) x.n HOKK.out)
          obtain ⟨sk2, hsk2⟩ : ∃ sk2, skAdd sk x.p x.n = sk2 := ⟨_, rfl⟩
          obtain ⟨at', hat'⟩ : ∃ at', skAt sk x.p = at' := ⟨_, rfl⟩
          rw [hsk2] at HOK2 HFND
          have HSK2 := Lib.hid hsk2
          have HATE := Lib.hid hat'
          clear hsk hsk2 hat'
          go_wp2_with fail
          refine wp_region_held_drew (S := (fun w' => CellsAt w' b (off + k * 9) (pxC x.p) ∧ w'.cell? ⟨b, off + k * 9 + 8, none⟩ = some (.int .i64 x.n))) (by kernel_rfl) (⟨HCW.out.1.below (bl_drewN HBL.out 1), bl_keeps HBL.out HCW.out.2⟩) (fun hHeld => ?_)
          generalize hW0 : World.drew _ = W0 at hHeld ⊢
          have HS0 := Lib.hid (show SkO W0 S Lb m sk by rw [← hW0]; exact HSK.out)
          have HX0 := Lib.hid (show Obj1 W0 X (refC v sk) 50 by rw [← hW0]; exact HXB.out)
          have HV0 := Lib.hid (show RefV W0 B0 v sk.l by rw [← hW0]; exact HRV.out)
          have HB0 := Lib.hid (show Below w.heap.size w W0 by rw [← hW0]; exact bl_drewN HBL.out 1)
          have HBO0 := Lib.hid (show B0 ≤ W0.heap.size by rw [← hW0]; exact HBO.out)
          have HX := Lib.hid hHeld
          clear hW0 hHeld
          refine wpAnyH_take (i := 0) (v := ?_) rfl (by kernel_rfl) (by kernel_rfl) (by kernel_rfl) (fun _ _ _ h => h) (Or.inl ⟨by rfl, ?_⟩) HX.out ?_
          rotate_left
          · intro w hSw; have hSw2 := hSw.2; go_simp
            try with_reducible rfl
          go_simp
          refine wpAnyH_take (i := 1) (v := ?_) rfl (by kernel_rfl) (by kernel_rfl) (by kernel_rfl) (fun _ _ _ h => h) (Or.inl ⟨by rfl, ?_⟩) HX.out ?_
          rotate_left
          · intro w hSw; have hSw2 := hSw.2; go_simp
            try with_reducible rfl
          go_simp
          refine wpAnyH_take (i := 2) (v := ?_) rfl (by kernel_rfl) (by kernel_rfl) (by kernel_rfl) (fun _ _ _ h => h) (Or.inl ⟨by rfl, ?_⟩) HX.out ?_
          rotate_left
          · intro w hSw; have hSw2 := hSw.2; go_simp
            try with_reducible rfl
          go_simp
          refine wpAnyH_take (i := 3) (v := ?_) rfl (by kernel_rfl) (by kernel_rfl) (by kernel_rfl) (fun _ _ _ h => h) (Or.inl ⟨by rfl, ?_⟩) HX.out ?_
          rotate_left
          · intro w hSw; have hSw2 := hSw.2; go_simp
            try with_reducible rfl
          go_simp
          refine wpAnyH_take (i := 4) (v := ?_) rfl (by kernel_rfl) (by kernel_rfl) (by kernel_rfl) (fun _ _ _ h => h) (Or.inl ⟨by rfl, ?_⟩) HX.out ?_
          rotate_left
          · intro w hSw; have hSw2 := hSw.2; go_simp
            try with_reducible rfl
          go_simp
          refine wpAnyH_take (i := 5) (v := .agg (pxC x.p).toArray) rfl (by kernel_rfl) (by kernel_rfl) (by kernel_rfl) (fun _ _ _ h => h) (Or.inl ⟨by rfl, ?_⟩) HX.out ?_
          · intro w' hSw
            have hld := run_loadVar_cells (P := Try.prog) w' ⟨b, off + k * 9, none⟩ 30 (pxC x.p) _ hSw.1 Try.underlying30 rfl HPS.out
            simp [execOp, Act.eval, Instr.loadAt, Instr.sureAddr, Sem.run_bind, hld, Result.andThen]
          go_simp
          refine wpAnyH_take (i := 6) (v := ?_) rfl (by kernel_rfl) (by kernel_rfl) (by kernel_rfl) (fun _ _ _ h => h) (Or.inl ⟨by rfl, ?_⟩) HX.out ?_
          rotate_left
          · intro w hSw; have hSw2 := hSw.2; go_simp
            try with_reducible rfl
          go_simp
          refine wpAnyH_take (i := 7) (v := ?_) rfl (by kernel_rfl) (by kernel_rfl) (by kernel_rfl) (fun _ _ _ h => h) (Or.inl ⟨by rfl, ?_⟩) HX.out ?_
          rotate_left
          · intro w hSw; have hSw2 := hSw.2; go_simp
            try with_reducible rfl
          go_simp
          refine wpAnyH_take (i := 8) (v := ?_) rfl (by kernel_rfl) (by kernel_rfl) (by kernel_rfl) (fun _ _ _ h => h) (Or.inl ⟨by rfl, ?_⟩) HX.out ?_
          rotate_left
          · intro w hSw; have hSw2 := hSw.2; go_simp
            try with_reducible rfl
          go_simp
          refine wpAnyH_take (i := 9) (v := ?_) rfl (by kernel_rfl) (by kernel_rfl) (by kernel_rfl) (fun _ _ _ h => h) (Or.inl ⟨by rfl, ?_⟩) HX.out ?_
          rotate_left
          · intro w hSw; have hSw2 := hSw.2; go_simp
            try with_reducible rfl
          go_simp
          refine wpAnyH_take (i := 10) (v := ?_) rfl (by kernel_rfl) (by kernel_rfl) (by kernel_rfl) (fun _ _ _ h => h) (Or.inl ⟨by rfl, ?_⟩) HX.out ?_
          rotate_left
          · intro w hSw; have hSw2 := hSw.2; go_simp
            try with_reducible rfl
          go_simp
          refine wpAnyH_ready (rs := [11, 12]) (by kernel_rfl) (by simp) ?_
          refine AllReadyH.cons rfl (fun K hK => ?_) ?_
          · go_simp

            refine (skAdd_w S Lb m sk HOKK.out x.p hxp x.n _ HS0.out).mono ?_
            rintro e w5 ⟨y, m5, hy, rfl, hS5, hu5⟩
            rw [HSK2.out] at hy hS5
            dsimp only
            have HAT := Lib.hid (show sk2.l[at']? = some y by rw [← HATE.out]; exact hy)
            have HLM5 := Lib.hid hS5.1
            have hm64 : m5 ≤ 64 := by have h1 := HOK2.out.2.1; have h2 := HOK2.out.1.2; have h3 := HLM5.out; omega
            have HFY := Lib.hid (show sk2.l[fnd sk2.l x.p]? = some y by rw [HFND.out, HATE.out]; exact HAT.out)
            have HOY := Lib.hid (HOK2.out.2.2.1 y (List.mem_of_getElem? hy))
            have HYA := Lib.hid (slo_sizeA HOY.out.1)
            have HYR := Lib.hid (slo_sizeR HOY.out.1)
            have HS5a := Lib.hid hS5
            have HX5a := Lib.hid (HX0.out.upd2 hu5 (by have := HNX.out; omega) (by have := HNX.out; omega))
            have HV5a := Lib.hid (HV0.out.upd2 hu5 HNX0.out.1 HNX0.out.2)
            have HB5a := Lib.hid (bl_upd2 HB0.out hu5 hwS hwL)
            have HBO5a := Lib.hid (Nat.le_trans HBO0.out hu5.2.2.2.1)
            clear hS5 hu5 hy
            refine hK.out _ _ ⟨HCW.out.1.below HB5a.out, bl_keeps HB5a.out HCW.out.2⟩ (fun hHeld => ?_)
            clear hK K
            refine wpAnyH_ready (rs := [12]) (by kernel_rfl) (by simp) ?_
            refine AllReadyH.cons rfl (fun K hK => ?_) AllReadyH.nil
            go_simp
            have HS5 := Lib.hid (HS5a.out.below (bl_alloc (Below.refl _ _) (.cells #[.bool false, .int .u8 0, .int .u8 0, .int .u8 0, .int .u8 0, .int .u8 0, .int .u8 0, .int .u8 0, .int .i64 0, .int .i64 0] 32)))
            have HX5 := Lib.hid (HX5a.out.alloc (.cells #[.bool false, .int .u8 0, .int .u8 0, .int .u8 0, .int .u8 0, .int .u8 0, .int .u8 0, .int .u8 0, .int .i64 0, .int .i64 0] 32))
            have HB5 := Lib.hid (bl_next HB5a.out (bl_alloc (Below.refl _ _) (.cells #[.bool false, .int .u8 0, .int .u8 0, .int .u8 0, .int .u8 0, .int .u8 0, .int .u8 0, .int .u8 0, .int .i64 0, .int .i64 0] 32)))
            have HBO5 := Lib.hid (Nat.le_trans HBO5a.out (bl_alloc (Below.refl w5.heap.size w5) (.cells #[.bool false, .int .u8 0, .int .u8 0, .int .u8 0, .int .u8 0, .int .u8 0, .int .u8 0, .int .u8 0, .int .i64 0, .int .i64 0] 32)).size)
            have HYZ := Lib.hid (Obj1.new w5 #[.bool false, .int .u8 0, .int .u8 0, .int .u8 0, .int .u8 0, .int .u8 0, .int .u8 0, .int .u8 0, .int .i64 0, .int .i64 0] 32)
            have HVK := Lib.hid (show ∀ w6, Upd w5.heap.size (w5.alloc (.cells #[.bool false, .int .u8 0, .int .u8 0, .int .u8 0, .int .u8 0, .int .u8 0, .int .u8 0, .int .u8 0, .int .i64 0, .int .i64 0] 32)) w6 → RefV w6 B0 v sk.l from fun w6 hup => HV5a.out.below (bl_upd (bl_alloc (Below.refl _ _) _) hup (Nat.le_refl _)))
            have HNY := Lib.hid (show w5.heap.size ≠ S ∧ w5.heap.size ≠ Lb ∧ w5.heap.size ≠ X from ⟨fun e => Nat.lt_irrefl _ (e ▸ HS5a.out.2.1.lt), fun e => Nat.lt_irrefl _ (e ▸ HS5a.out.2.2.lt), fun e => Nat.lt_irrefl _ (e ▸ HX5a.out.lt)⟩)
            have HYB := Lib.hid (show w.heap.size ≤ w5.heap.size from HB5a.out.size)
            refine hK.out _ _ ⟨HCW.out.1.below HB5.out, bl_keeps HB5.out HCW.out.2⟩ (fun hHeld => ?_)
            clear hK K hHeld
            generalize hY : w5.heap.size = Y at HYZ HVK HNY HYB ⊢
            clear hY
            refine wpAnyH_ready (rs := [13]) (by kernel_rfl) (by simp) ?_
            refine AllReadyH.cons rfl (fun K hK => ?_) AllReadyH.nil
            refine gwanted rfl ?_
            have hlenY := sloC_length HOY.out.1
            refine wp_store_objR 32 (.tmp 11) (.tmp 79) rfl Y 32 #[.bool false, .int .u8 0, .int .u8 0, .int .u8 0, .int .u8 0, .int .u8 0, .int .u8 0, .int .u8 0, .int .i64 0, .int .i64 0] (sloC y).toArray rfl rfl HYZ.out (by simp [hlenY]) HYA.out (all_oneCell_toArray (sloC_one y)) ?_
            intro w6 hob hup
            have HY6 := Lib.hid hob
            have HS6 := Lib.hid (HS5.out.grown hup (by have := HNY.out.1; simp; omega) (by have := HNY.out.2.1; simp; omega))
            have HX6 := Lib.hid (HX5.out.of_grown hup (by have := HNY.out.2.2; simp; omega))
            have HV6 := Lib.hid (HVK.out w6 hup)
            have HB6 := Lib.hid (bl_upd HB5.out hup HYB.out)
            have HBO6 := Lib.hid (Nat.le_trans HBO5.out hup.size)
            clear hob hup
            refine hK.out _ _ ⟨HCW.out.1.below HB6.out, bl_keeps HB6.out HCW.out.2⟩ (fun hHeld => ?_)
            clear hK K hHeld
            refine wpAnyH_done (by kernel_rfl) ?_ _

            go_wp2_with fail
            refine wp_region_held_drew (S := (fun w' => CellsAt w' b (off + k * 9) (pxC x.p) ∧ w'.cell? ⟨b, off + k * 9 + 8, none⟩ = some (.int .i64 x.n))) (by kernel_rfl) (⟨HCW.out.1.below (bl_drewN HB6.out 1), bl_keeps HB6.out HCW.out.2⟩) (fun hHeld => ?_)
            generalize hW0 : World.drew _ = W0 at hHeld ⊢
            have HS7 := Lib.hid (show SkO W0 S Lb m5 sk2 by rw [← hW0]; exact HS6.out)
            have HX7 := Lib.hid (show Obj1 W0 X (refC v sk) 50 by rw [← hW0]; exact HX6.out)
            have HV7 := Lib.hid (show RefV W0 B0 v sk.l by rw [← hW0]; exact HV6.out)
            have HY7 := Lib.hid (show Obj1 W0 Y (sloC y).toArray 32 by rw [← hW0]; exact HY6.out)
            have HB7 := Lib.hid (show Below w.heap.size w W0 by rw [← hW0]; exact bl_drewN HB6.out 1)
            have HBO7 := Lib.hid (show B0 ≤ W0.heap.size by rw [← hW0]; exact HBO6.out)
            have HX := Lib.hid hHeld
            clear hW0 hHeld
            refine wpAnyH_take (i := 1) (v := ?_) rfl (by kernel_rfl) (by kernel_rfl) (by kernel_rfl) (fun _ _ _ h => h) (Or.inl ⟨by rfl, ?_⟩) HX.out ?_
            rotate_left
            · intro w hSw; have hSw2 := hSw.2; go_simp
              try with_reducible rfl
            go_simp
            refine wpAnyH_take (i := 2) (v := ?_) rfl (by kernel_rfl) (by kernel_rfl) (by kernel_rfl) (fun _ _ _ h => h) (Or.inl ⟨by rfl, ?_⟩) HX.out ?_
            rotate_left
            · intro w hSw; have hSw2 := hSw.2; go_simp
              try with_reducible rfl
            go_simp
            refine wpAnyH_take (i := 3) (v := ?_) rfl (by kernel_rfl) (by kernel_rfl) (by kernel_rfl) (fun _ _ _ h => h) (Or.inl ⟨by rfl, ?_⟩) HX.out ?_
            rotate_left
            · intro w hSw; have hSw2 := hSw.2; go_simp
              try with_reducible rfl
            go_simp
            refine wpAnyH_take (i := 4) (v := ?_) rfl (by kernel_rfl) (by kernel_rfl) (by kernel_rfl) (fun _ _ _ h => h) (Or.inl ⟨by rfl, ?_⟩) HX.out ?_
            rotate_left
            · intro w hSw; have hSw2 := hSw.2; go_simp
              try with_reducible rfl
            go_simp
            refine wpAnyH_take (i := 5) (v := .agg (pxC x.p).toArray) rfl (by kernel_rfl) (by kernel_rfl) (by kernel_rfl) (fun _ _ _ h => h) (Or.inl ⟨by rfl, ?_⟩) HX.out ?_
            · intro w' hSw
              have hld := run_loadVar_cells (P := Try.prog) w' ⟨b, off + k * 9, none⟩ 30 (pxC x.p) _ hSw.1 Try.underlying30 rfl HPS.out
              simp [execOp, Act.eval, Instr.loadAt, Instr.sureAddr, Sem.run_bind, hld, Result.andThen]
            go_simp
            refine wpAnyH_take (i := 6) (v := ?_) rfl (by kernel_rfl) (by kernel_rfl) (by kernel_rfl) (fun _ _ _ h => h) (Or.inl ⟨by rfl, ?_⟩) HX.out ?_
            rotate_left
            · intro w hSw; have hSw2 := hSw.2; go_simp
              try with_reducible rfl
            go_simp
            refine wpAnyH_take (i := 7) (v := ?_) rfl (by kernel_rfl) (by kernel_rfl) (by kernel_rfl) (fun _ _ _ h => h) (Or.inl ⟨by rfl, ?_⟩) HX.out ?_
            rotate_left
            · intro w hSw; have hSw2 := hSw.2; go_simp
              try with_reducible rfl
            go_simp
            refine wpAnyH_take (i := 8) (v := ?_) rfl (by kernel_rfl) (by kernel_rfl) (by kernel_rfl) (fun _ _ _ h => h) (Or.inl ⟨by rfl, ?_⟩) HX.out ?_
            rotate_left
            · intro w hSw; have hSw2 := hSw.2; go_simp
              try with_reducible rfl
            go_simp
            refine wpAnyH_take (i := 9) (v := ?_) rfl (by kernel_rfl) (by kernel_rfl) (by kernel_rfl) (fun _ _ _ h => h) (Or.inl ⟨by rfl, ?_⟩) HX.out ?_
            rotate_left
            · intro w hSw; have hSw2 := hSw.2; go_simp
              try with_reducible rfl
            go_simp
            refine wpAnyH_take (i := 10) (v := ?_) rfl (by kernel_rfl) (by kernel_rfl) (by kernel_rfl) (fun _ _ _ h => h) (Or.inl ⟨by rfl, ?_⟩) HX.out ?_
            rotate_left
            · intro w hSw; have hSw2 := hSw.2; go_simp
              try with_reducible rfl
            go_simp
            refine wpAnyH_ready (rs := [0]) (by kernel_rfl) (by simp) ?_
            refine AllReadyH.cons rfl (fun K hK => ?_) AllReadyH.nil
            refine gwanted rfl ?_
            refine wp_load_row 50 (.tmp 9) rfl X rfl 50 (refC v sk) (0, 0) _ HX7.out Try.underlying50 rfl rfl ?_
            refine hK.out _ _ HX.out (fun hHeld => ?_)
            clear hK K hHeld
            refine wpAnyH_ready (rs := [11]) (by kernel_rfl) (by simp) ?_
            refine AllReadyH.cons rfl (fun K hK => ?_) AllReadyH.nil
            go_simp
            refine (refAdd_w B0 v sk HOKK.out x.p hxp x.n _ HV7.out).mono ?_
            rintro e w8 ⟨v2, rfl, hv8, hb8⟩
            rw [HSK2.out] at hv8 ⊢
            rw [HATE.out]
            dsimp only
            have HV8 := Lib.hid (hv8.mono HBO7.out)
            have HS8 := Lib.hid (HS7.out.below hb8)
            have HX8 := Lib.hid (HX7.out.below hb8)
            have HY8 := Lib.hid (HY7.out.below hb8)
            have HB8 := Lib.hid (bl_next HB7.out hb8)
            have HBO8 := Lib.hid (Nat.le_trans HBO7.out hb8.size)
            clear hv8 hb8
            refine hK.out _ _ ⟨HCW.out.1.below HB8.out, bl_keeps HB8.out HCW.out.2⟩ (fun hHeld => ?_)
            clear hK K
            have HX := Lib.hid hHeld
            clear hHeld
            go_simp
            refine wpAnyH_take (i := 12) (v := ?_) rfl (by kernel_rfl) (by kernel_rfl) (by kernel_rfl) (fun _ _ _ h => h) (Or.inl ⟨by rfl, ?_⟩) HX.out ?_
            rotate_left
            · intro w hSw; have hSw2 := hSw.2; go_simp
              try with_reducible rfl
            go_simp
            refine wpAnyH_take (i := 13) (v := ?_) rfl (by kernel_rfl) (by kernel_rfl) (by kernel_rfl) (fun _ _ _ h => h) (Or.inl ⟨by rfl, ?_⟩) HX.out ?_
            rotate_left
            · intro w hSw; have hSw2 := hSw.2; go_simp
              try with_reducible rfl
            go_simp
            refine wpAnyH_take (i := 14) (v := ?_) rfl (by kernel_rfl) (by kernel_rfl) (by kernel_rfl) (fun _ _ _ h => h) (Or.inl ⟨by rfl, ?_⟩) HX.out ?_
            rotate_left
            · intro w hSw; have hSw2 := hSw.2; go_simp
              try with_reducible rfl
            go_simp
            refine wpAnyH_ready (rs := [15]) (by kernel_rfl) (by simp) ?_
            refine AllReadyH.cons rfl (fun K hK => ?_) AllReadyH.nil
            refine gwanted rfl ?_
            obtain ⟨A2, cv, rfl, hcv, _, hrd2⟩ := HV8.out.slice HOK2.out.px
            obtain ⟨g, hgB, rfl, _⟩ := hrd2 at' y HAT.out
            rw [HLM5.out] at HV8 ⊢
            refine wp_store_objR 50 (.tmp 9) (.tmp 93) rfl X 50 (refC v sk) (refC (.slice (some ⟨g, 0, none⟩) m5 cv) sk2) rfl rfl HX8.out rfl rfl (by simp [refC, Value.oneCell']) ?_
            intro w9 hob hup
            have HX9 := Lib.hid hob
            have HS9 := Lib.hid (HS8.out.grown hup (by have := HNX.out; simp; omega) (by have := HNX.out; simp; omega))
            have HV9 := Lib.hid (HV8.out.upd hup HNX.out.2.2.2)
            have HY9 := Lib.hid (HY8.out.of_grown hup (by have := HNY.out.2.2; simpa using this))
            have HB9 := Lib.hid (bl_upd HB8.out hup HNX.out.1)
            have HBO9 := Lib.hid (Nat.le_trans HBO8.out hup.size)
            clear hob hup hrd2
            refine hK.out _ _ ⟨HCW.out.1.below HB9.out, bl_keeps HB9.out HCW.out.2⟩ (fun hHeld => ?_)
            clear hK K
            have HX := Lib.hid hHeld
            clear hHeld
            refine wpAnyH_take (i := 16) (v := ?_) rfl (by kernel_rfl) (by kernel_rfl) (by kernel_rfl) (fun _ _ _ h => h) (Or.inl ⟨by rfl, ?_⟩) HX.out ?_
            rotate_left
            · intro w hSw; have hSw2 := hSw.2; go_simp
              try with_reducible rfl
            go_simp
            refine wpAnyH_done (by kernel_rfl) ?_ _
            clear HX
            have HPW := Lib.hid (HCW.out.1.below HB9.out)
            go_wp2_with (refine load_cells rfl 30 (.tmp 100) rfl ⟨b, off + k * 9, none⟩ (pxC x.p) _ rfl HPW.out Try.underlying30 rfl HPS.out ?_)
            refine (getYes_w S Lb m5 sk2 HOK2.out x.p hxp y _ HS9.out HFY.out).mono ?_
            rintro e wa ⟨rfl, hba⟩
            have HSa := Lib.hid (HS9.out.below hba)
            have HXa := Lib.hid (HX9.out.below hba)
            have HVa := Lib.hid (HV9.out.below hba)
            have HYa := Lib.hid (HY9.out.below hba)
            have HBa := Lib.hid (bl_next HB9.out hba)
            have HBOa := Lib.hid (Nat.le_trans HBO9.out hba.size)
            clear hba
            have hlenY := sloC_length HOY.out.1
            go_wp2_with (refine store_obj rfl 32 (.tmp 13) (.tmp 103) rfl wa.heap.size 32 _ (sloC y).toArray rfl rfl (Obj1.new _ _ _) (by simp [hlenY]) HYA.out (all_oneCell_toArray (sloC_one y)) ?_; intro wb hob hup; have hbb := bl_upd (bl_alloc (Below.refl wa.heap.size wa) _) hup (Nat.le_refl _); have HZb := Lib.hid hob; have HSb := Lib.hid (HSa.out.below hbb); have HXb := Lib.hid (HXa.out.below hbb); have HVb := Lib.hid (HVa.out.below hbb); have HYb := Lib.hid (HYa.out.below hbb); have HBb := Lib.hid (bl_next HBa.out hbb); have HBOb := Lib.hid (Nat.le_trans HBOa.out hbb.size); clear hob hup hbb)
            generalize hZ : wa.heap.size = Zb at HZb ⊢
            clear hZ
            have hatc := HVb.out.slice HOK2.out.px
            have HCG := Lib.hid (show CellsAt wb g (at' * 10) (sloC y) by
              obtain ⟨A3, c3, e3, _, _, h3⟩ := hatc
              obtain ⟨g3, _, e4, h4⟩ := h3 at' y HAT.out
              simp only [Value.slice.injEq] at e3
              rw [← e3.1] at e4
              cases e4
              exact h4)
            clear hatc
            have ka0 : (0 : Int) ≤ (at' : Int) := Int.natCast_nonneg at'
            have ka1 : (at' : Int) < (m5 : Int) := by have := HAT.out; have h2 := (List.getElem?_eq_some_iff.1 this).1; rw [HLM5.out] at h2; omega
            refine wp_region_held_drew (S := (fun w' => Obj1 w' Y (sloC y).toArray 32 ∧ Obj1 w' Zb (sloC y).toArray 32 ∧ Obj1 w' X (refC (.slice (some ⟨g, 0, none⟩) m5 cv) sk2) 50 ∧ CellsAt w' g (at' * 10) (sloC y))) (by kernel_rfl) (⟨HYb.out, HZb.out, HXb.out, fun q u hq => HCG.out q u hq⟩) (fun hHeld => ?_)
            generalize hW0 : World.drew _ = W0 at hHeld ⊢
            have HSc := Lib.hid (show SkO W0 S Lb m5 sk2 by rw [← hW0]; exact HSb.out)
            have HVc := Lib.hid (show RefV W0 B0 (.slice (some ⟨g, 0, none⟩) m5 cv) sk2.l by rw [← hW0]; exact HVb.out)
            have HBc := Lib.hid (show Below w.heap.size w W0 by rw [← hW0]; exact bl_drewN HBb.out 1)
            have HBOc := Lib.hid (show B0 ≤ W0.heap.size by rw [← hW0]; exact HBOb.out)
            have HX := Lib.hid hHeld
            clear hW0 hHeld HSb HVb HBb HBOb HXb HYb HZb HCG HSa HXa HVa HYa HBa HBOa HS9 HX9 HV9 HY9 HB9 HBO9
            refine wpAnyH_take (i := 0) (v := .agg (sloC y).toArray) rfl (by kernel_rfl) (by kernel_rfl) (by kernel_rfl) (fun _ _ _ h => h) (Or.inl ⟨by rfl, ?_⟩) HX.out ?_
            · intro w' hSw
              have hld := run_loadVar_row (P := Try.prog) w' (Y) 32 32 (sloC y).toArray (0, 0) _ hSw.1 Try.underlying32 rfl HYA.out
              simp [execOp, Act.eval, Instr.loadAt, Instr.sureAddr, Sem.run_bind, hld, Result.andThen]
            go_simp
            refine wpAnyH_take (i := 1) (v := ?_) rfl (by kernel_rfl) (by kernel_rfl) (by kernel_rfl) (fun _ _ _ h => h) (Or.inl ⟨by rfl, ?_⟩) HX.out ?_
            rotate_left
            · intro w' hSw; have hc0 : w'.cell? ⟨X, 0, none⟩ = some (.slice (some ⟨g, 0, none⟩) m5 cv) := hSw.2.2.1.cell 0; have hc2 : w'.cell? ⟨X, 2, none⟩ = some (.int .i64 sk2.total) := hSw.2.2.1.cell 2; go_simp
              try with_reducible rfl
            go_simp
            refine wpAnyH_take (i := 2) (v := ?_) rfl (by kernel_rfl) (by kernel_rfl) (by kernel_rfl) (fun _ _ _ h => h) (Or.inl ⟨by rfl, ?_⟩) HX.out ?_
            rotate_left
            · intro w' hSw; have hc0 : w'.cell? ⟨X, 0, none⟩ = some (.slice (some ⟨g, 0, none⟩) m5 cv) := hSw.2.2.1.cell 0; have hc2 : w'.cell? ⟨X, 2, none⟩ = some (.int .i64 sk2.total) := hSw.2.2.1.cell 2; go_simp
              try with_reducible rfl
            go_simp
            refine wpAnyH_take (i := 3) (v := ?_) rfl (by kernel_rfl) (by kernel_rfl) (by kernel_rfl) (fun _ _ _ h => h) (Or.inl ⟨by rfl, ?_⟩) HX.out ?_
            rotate_left
            · intro w' hSw; have hc0 : w'.cell? ⟨X, 0, none⟩ = some (.slice (some ⟨g, 0, none⟩) m5 cv) := hSw.2.2.1.cell 0; have hc2 : w'.cell? ⟨X, 2, none⟩ = some (.int .i64 sk2.total) := hSw.2.2.1.cell 2; go_simp
              try with_reducible rfl
            go_simp
            refine wpAnyH_take (i := 4) (v := ?_) rfl (by kernel_rfl) (by kernel_rfl) (by kernel_rfl) (fun _ _ _ h => h) (Or.inl ⟨by rfl, ?_⟩) HX.out ?_
            rotate_left
            · intro w' hSw; have hc0 : w'.cell? ⟨X, 0, none⟩ = some (.slice (some ⟨g, 0, none⟩) m5 cv) := hSw.2.2.1.cell 0; have hc2 : w'.cell? ⟨X, 2, none⟩ = some (.int .i64 sk2.total) := hSw.2.2.1.cell 2; go_simp
              try with_reducible rfl
            go_simp
            refine wpAnyH_take (i := 5) (v := .agg (sloC y).toArray) rfl (by kernel_rfl) (by kernel_rfl) (by kernel_rfl) (fun _ _ _ h => h) (Or.inl ⟨by rfl, ?_⟩) HX.out ?_
            · intro w' hSw
              have hld := run_loadVar_cells (P := Try.prog) w' ⟨g, at' * 10, none⟩ 53 (sloC y) _ hSw.2.2.2 Try.underlying53 rfl HYR.out
              simp [execOp, Act.eval, Instr.loadAt, Instr.sureAddr, Sem.run_bind, hld, Result.andThen]
            go_simp
            refine wpAnyH_take (i := 6) (v := .bool false) rfl (by kernel_rfl) (by kernel_rfl) (by kernel_rfl) (fun _ _ _ h => h) (Or.inl ⟨by rfl, ?_⟩) HX.out ?_
            · intro w' hSw
              exact exec_neq 53 53 (.tmp 105) (.tmp 110) rfl _ _ rfl rfl true (by kernel_rfl) (by rw [eq_sloR w' HOY.out HOY.out]; simp)
            go_simp
            refine wpAnyH_take (i := 7) (v := ?_) rfl (by kernel_rfl) (by kernel_rfl) (by kernel_rfl) (fun _ _ _ h => h) (Or.inl ⟨by rfl, ?_⟩) HX.out ?_
            rotate_left
            · intro w' hSw; have hc0 : w'.cell? ⟨X, 0, none⟩ = some (.slice (some ⟨g, 0, none⟩) m5 cv) := hSw.2.2.1.cell 0; have hc2 : w'.cell? ⟨X, 2, none⟩ = some (.int .i64 sk2.total) := hSw.2.2.1.cell 2; go_simp
              try with_reducible rfl
            go_simp
            refine wpAnyH_take (i := 8) (v := .agg (sloC y).toArray) rfl (by kernel_rfl) (by kernel_rfl) (by kernel_rfl) (fun _ _ _ h => h) (Or.inl ⟨by rfl, ?_⟩) HX.out ?_
            · intro w' hSw
              have hld := run_loadVar_row (P := Try.prog) w' (Y) 32 32 (sloC y).toArray (0, 0) _ hSw.1 Try.underlying32 rfl HYA.out
              simp [execOp, Act.eval, Instr.loadAt, Instr.sureAddr, Sem.run_bind, hld, Result.andThen]
            go_simp
            refine wpAnyH_take (i := 9) (v := .agg (sloC y).toArray) rfl (by kernel_rfl) (by kernel_rfl) (by kernel_rfl) (fun _ _ _ h => h) (Or.inl ⟨by rfl, ?_⟩) HX.out ?_
            · intro w' hSw
              have hld := run_loadVar_row (P := Try.prog) w' (Zb) 32 32 (sloC y).toArray (0, 0) _ hSw.2.1 Try.underlying32 rfl HYA.out
              simp [execOp, Act.eval, Instr.loadAt, Instr.sureAddr, Sem.run_bind, hld, Result.andThen]
            go_simp
            refine wpAnyH_take (i := 10) (v := .bool false) rfl (by kernel_rfl) (by kernel_rfl) (by kernel_rfl) (fun _ _ _ h => h) (Or.inl ⟨by rfl, ?_⟩) HX.out ?_
            · intro w' hSw
              exact exec_neq 32 32 (.tmp 113) (.tmp 114) rfl _ _ rfl rfl true (by kernel_rfl) (by rw [eq_slo w' HOY.out HOY.out]; simp)
            go_simp
            refine wpAnyH_take (i := 11) (v := ?_) rfl (by kernel_rfl) (by kernel_rfl) (by kernel_rfl) (fun _ _ _ h => h) (Or.inl ⟨by rfl, ?_⟩) HX.out ?_
            rotate_left
            · intro w' hSw; have hc0 : w'.cell? ⟨X, 0, none⟩ = some (.slice (some ⟨g, 0, none⟩) m5 cv) := hSw.2.2.1.cell 0; have hc2 : w'.cell? ⟨X, 2, none⟩ = some (.int .i64 sk2.total) := hSw.2.2.1.cell 2; go_simp
              try with_reducible rfl
            go_simp
            refine wpAnyH_take (i := 12) (v := ?_) rfl (by kernel_rfl) (by kernel_rfl) (by kernel_rfl) (fun _ _ _ h => h) (Or.inl ⟨by rfl, ?_⟩) HX.out ?_
            rotate_left
            · intro w' hSw; have hc0 : w'.cell? ⟨X, 0, none⟩ = some (.slice (some ⟨g, 0, none⟩) m5 cv) := hSw.2.2.1.cell 0; have hc2 : w'.cell? ⟨X, 2, none⟩ = some (.int .i64 sk2.total) := hSw.2.2.1.cell 2; go_simp
              try with_reducible rfl
            go_simp
            refine wpAnyH_take (i := 13) (v := ?_) rfl (by kernel_rfl) (by kernel_rfl) (by kernel_rfl) (fun _ _ _ h => h) (Or.inl ⟨by rfl, ?_⟩) HX.out ?_
            rotate_left
            · intro w' hSw; have hc0 : w'.cell? ⟨X, 0, none⟩ = some (.slice (some ⟨g, 0, none⟩) m5 cv) := hSw.2.2.1.cell 0; have hc2 : w'.cell? ⟨X, 2, none⟩ = some (.int .i64 sk2.total) := hSw.2.2.1.cell 2; go_simp
              try with_reducible rfl
            go_simp
            refine wpAnyH_take (i := 14) (v := ?_) rfl (by kernel_rfl) (by kernel_rfl) (by kernel_rfl) (fun _ _ _ h => h) (Or.inl ⟨by rfl, ?_⟩) HX.out ?_
            rotate_left
            · intro w' hSw; have hc0 : w'.cell? ⟨X, 0, none⟩ = some (.slice (some ⟨g, 0, none⟩) m5 cv) := hSw.2.2.1.cell 0; have hc2 : w'.cell? ⟨X, 2, none⟩ = some (.int .i64 sk2.total) := hSw.2.2.1.cell 2; go_simp
              try with_reducible rfl
            go_simp
            refine wpAnyH_take (i := 15) (v := ?_) rfl (by kernel_rfl) (by kernel_rfl) (by kernel_rfl) (fun _ _ _ h => h) (Or.inl ⟨by rfl, ?_⟩) HX.out ?_
            rotate_left
            · intro w' hSw; have hc0 : w'.cell? ⟨X, 0, none⟩ = some (.slice (some ⟨g, 0, none⟩) m5 cv) := hSw.2.2.1.cell 0; have hc2 : w'.cell? ⟨X, 2, none⟩ = some (.int .i64 sk2.total) := hSw.2.2.1.cell 2; go_simp
              try with_reducible rfl
            go_simp
            refine wpAnyH_take (i := 16) (v := ?_) rfl (by kernel_rfl) (by kernel_rfl) (by kernel_rfl) (fun _ _ _ h => h) (Or.inl ⟨by rfl, ?_⟩) HX.out ?_
            rotate_left
            · intro w' hSw; have hc0 : w'.cell? ⟨X, 0, none⟩ = some (.slice (some ⟨g, 0, none⟩) m5 cv) := hSw.2.2.1.cell 0; have hc2 : w'.cell? ⟨X, 2, none⟩ = some (.int .i64 sk2.total) := hSw.2.2.1.cell 2; go_simp
              try with_reducible rfl
            go_simp
            refine wpAnyH_take (i := 17) (v := ?_) rfl (by kernel_rfl) (by kernel_rfl) (by kernel_rfl) (fun _ _ _ h => h) (Or.inl ⟨by rfl, ?_⟩) HX.out ?_
            rotate_left
            · intro w' hSw; have hc0 : w'.cell? ⟨X, 0, none⟩ = some (.slice (some ⟨g, 0, none⟩) m5 cv) := hSw.2.2.1.cell 0; have hc2 : w'.cell? ⟨X, 2, none⟩ = some (.int .i64 sk2.total) := hSw.2.2.1.cell 2; go_simp
              try with_reducible rfl
            go_simp
            refine wpAnyH_take (i := 19) (v := ?_) rfl (by kernel_rfl) (by kernel_rfl) (by kernel_rfl) (fun _ _ _ h => h) (Or.inl ⟨by rfl, ?_⟩) HX.out ?_
            rotate_left
            · intro w' hSw; have hc0 : w'.cell? ⟨X, 0, none⟩ = some (.slice (some ⟨g, 0, none⟩) m5 cv) := hSw.2.2.1.cell 0; have hc2 : w'.cell? ⟨X, 2, none⟩ = some (.int .i64 sk2.total) := hSw.2.2.1.cell 2; go_simp
              try with_reducible rfl
            go_simp
            refine wpAnyH_take (i := 20) (v := ?_) rfl (by kernel_rfl) (by kernel_rfl) (by kernel_rfl) (fun _ _ _ h => h) (Or.inl ⟨by rfl, ?_⟩) HX.out ?_
            rotate_left
            · intro w' hSw; have hc0 : w'.cell? ⟨X, 0, none⟩ = some (.slice (some ⟨g, 0, none⟩) m5 cv) := hSw.2.2.1.cell 0; have hc2 : w'.cell? ⟨X, 2, none⟩ = some (.int .i64 sk2.total) := hSw.2.2.1.cell 2; go_simp
              try with_reducible rfl
            go_simp
            refine wpAnyH_ready (rs := [18]) (by kernel_rfl) (by simp) ?_
            refine AllReadyH.cons rfl (fun K hK => ?_) AllReadyH.nil
            go_simp
            refine (skSlots_w S Lb m5 sk2 HOK2.out _ HSc.out).mono ?_
            rintro e wd ⟨v4, rfl, ho4, hb4⟩
            obtain ⟨A4, c4, rfl, hmc4, _, hrd4⟩ := own_read ho4 HOK2.out.px
            dsimp only
            have HRD4 := Lib.hid (show ∀ k x, sk2.l[k]? = some x → ∃ g, A4 = some ⟨g, 0, none⟩ ∧ CellsAt wd g (k * 10) (sloC x) from fun k x hk => let ⟨g, _, e, h⟩ := hrd4 k x hk; ⟨g, e, h⟩)
            have HSd := Lib.hid (HSc.out.below hb4)
            have HVd := Lib.hid (HVc.out.below hb4)
            have HBd := Lib.hid (bl_next HBc.out hb4)
            have HBOd := Lib.hid (Nat.le_trans HBOc.out hb4.size)
            have HXd := Lib.hid (And.intro (HX.out.1.below hb4) (And.intro (HX.out.2.1.below hb4) (And.intro (HX.out.2.2.1.below hb4) (HX.out.2.2.2.below hb4))))
            clear ho4 hb4 hrd4
            refine hK.out _ _ HXd.out (fun hHeld => ?_)
            clear hK K
            have HX := Lib.hid hHeld
            clear hHeld HXd
            go_simp
            refine wpAnyH_ready (rs := [21]) (by kernel_rfl) (by simp) ?_
            refine AllReadyH.cons rfl (fun K hK => ?_) AllReadyH.nil
            go_simp
            refine (same18_w B0 _ sk2.l HOK2.out.2.2.1 (by rw [HLM5.out]; exact hm64 ) A4 m5 c4 HLM5.out _ HVd.out HRD4.out).mono ?_
            rintro e wf ⟨rfl, qq, rfl⟩
            dsimp only
            have HSg := Lib.hid (show SkO (wd.drewN qq) S Lb m5 sk2 from HSd.out)
            have HVg := Lib.hid (show RefV (wd.drewN qq) B0 (.slice (some ⟨g, 0, none⟩) m5 cv) sk2.l from HVd.out)
            have HBg := Lib.hid (bl_drewN HBd.out qq)
            have HBOg := Lib.hid (show B0 ≤ (wd.drewN qq).heap.size from HBOd.out)
            have hs4 : Obj1 (wd.drewN qq) Y (sloC y).toArray 32 ∧ Obj1 (wd.drewN qq) Zb (sloC y).toArray 32 ∧ Obj1 (wd.drewN qq) X (refC (.slice (some ⟨g, 0, none⟩) m5 cv) sk2) 50 ∧ CellsAt (wd.drewN qq) g (at' * 10) (sloC y) := ⟨HX.out.1, HX.out.2.1, HX.out.2.2.1, HX.out.2.2.2⟩
            refine hK.out _ _ hs4 (fun hHeld => ?_)
            clear hK K
            have HX := Lib.hid hHeld
            clear hHeld hs4
            go_simp
            refine wpAnyH_take (i := 22) (v := ?_) rfl (by kernel_rfl) (by kernel_rfl) (by kernel_rfl) (fun _ _ _ h => h) (Or.inl ⟨by rfl, ?_⟩) HX.out ?_
            rotate_left
            · intro w' hSw; have hc0 : w'.cell? ⟨X, 0, none⟩ = some (.slice (some ⟨g, 0, none⟩) m5 cv) := hSw.2.2.1.cell 0; have hc2 : w'.cell? ⟨X, 2, none⟩ = some (.int .i64 sk2.total) := hSw.2.2.1.cell 2; go_simp
              try with_reducible rfl
            go_simp
            refine wpAnyH_take (i := 23) (v := ?_) rfl (by kernel_rfl) (by kernel_rfl) (by kernel_rfl) (fun _ _ _ h => h) (Or.inl ⟨by rfl, ?_⟩) HX.out ?_
            rotate_left
            · intro w' hSw; have hc0 : w'.cell? ⟨X, 0, none⟩ = some (.slice (some ⟨g, 0, none⟩) m5 cv) := hSw.2.2.1.cell 0; have hc2 : w'.cell? ⟨X, 2, none⟩ = some (.int .i64 sk2.total) := hSw.2.2.1.cell 2; go_simp
              try with_reducible rfl
            go_simp
            refine wpAnyH_take (i := 24) (v := ?_) rfl (by kernel_rfl) (by kernel_rfl) (by kernel_rfl) (fun _ _ _ h => h) (Or.inl ⟨by rfl, ?_⟩) HX.out ?_
            rotate_left
            · intro w' hSw; have hc0 : w'.cell? ⟨X, 0, none⟩ = some (.slice (some ⟨g, 0, none⟩) m5 cv) := hSw.2.2.1.cell 0; have hc2 : w'.cell? ⟨X, 2, none⟩ = some (.int .i64 sk2.total) := hSw.2.2.1.cell 2; go_simp
              try with_reducible rfl
            go_simp
            refine wpAnyH_take (i := 25) (v := ?_) rfl (by kernel_rfl) (by kernel_rfl) (by kernel_rfl) (fun _ _ _ h => h) (Or.inl ⟨by rfl, ?_⟩) HX.out ?_
            rotate_left
            · intro w' hSw; have hc0 : w'.cell? ⟨X, 0, none⟩ = some (.slice (some ⟨g, 0, none⟩) m5 cv) := hSw.2.2.1.cell 0; have hc2 : w'.cell? ⟨X, 2, none⟩ = some (.int .i64 sk2.total) := hSw.2.2.1.cell 2; go_simp
              try with_reducible rfl
            go_simp
            refine wpAnyH_take (i := 27) (v := ?_) rfl (by kernel_rfl) (by kernel_rfl) (by kernel_rfl) (fun _ _ _ h => h) (Or.inl ⟨by rfl, ?_⟩) HX.out ?_
            rotate_left
            · intro w' hSw; have hc0 : w'.cell? ⟨X, 0, none⟩ = some (.slice (some ⟨g, 0, none⟩) m5 cv) := hSw.2.2.1.cell 0; have hc2 : w'.cell? ⟨X, 2, none⟩ = some (.int .i64 sk2.total) := hSw.2.2.1.cell 2; go_simp
              try with_reducible rfl
            go_simp
            refine wpAnyH_take (i := 28) (v := ?_) rfl (by kernel_rfl) (by kernel_rfl) (by kernel_rfl) (fun _ _ _ h => h) (Or.inl ⟨by rfl, ?_⟩) HX.out ?_
            rotate_left
            · intro w' hSw; have hc0 : w'.cell? ⟨X, 0, none⟩ = some (.slice (some ⟨g, 0, none⟩) m5 cv) := hSw.2.2.1.cell 0; have hc2 : w'.cell? ⟨X, 2, none⟩ = some (.int .i64 sk2.total) := hSw.2.2.1.cell 2; go_simp
              try with_reducible rfl
            go_simp
            refine wpAnyH_ready (rs := [26]) (by kernel_rfl) (by simp) ?_
            refine AllReadyH.cons rfl (fun K hK => ?_) AllReadyH.nil
            go_simp
            refine (skTotal_w S Lb m5 sk2 _ HSg.out).mono ?_
            rintro e w' ⟨rfl, rfl⟩
            dsimp only
            refine hK.out _ _ HX.out (fun hHeld => ?_)
            clear hK K hHeld
            go_simp
            refine wpAnyH_take (i := 29) (v := ?_) rfl (by kernel_rfl) (by kernel_rfl) (by kernel_rfl) (fun _ _ _ h => h) (Or.inl ⟨by rfl, ?_⟩) HX.out ?_
            rotate_left
            · intro w' hSw; have hc0 : w'.cell? ⟨X, 0, none⟩ = some (.slice (some ⟨g, 0, none⟩) m5 cv) := hSw.2.2.1.cell 0; have hc2 : w'.cell? ⟨X, 2, none⟩ = some (.int .i64 sk2.total) := hSw.2.2.1.cell 2; go_simp
              try with_reducible rfl
            go_simp
            refine wpAnyH_take (i := 30) (v := ?_) rfl (by kernel_rfl) (by kernel_rfl) (by kernel_rfl) (fun _ _ _ h => h) (Or.inl ⟨by rfl, ?_⟩) HX.out ?_
            rotate_left
            · intro w' hSw; have hc0 : w'.cell? ⟨X, 0, none⟩ = some (.slice (some ⟨g, 0, none⟩) m5 cv) := hSw.2.2.1.cell 0; have hc2 : w'.cell? ⟨X, 2, none⟩ = some (.int .i64 sk2.total) := hSw.2.2.1.cell 2; go_simp
              try with_reducible rfl
            go_simp
            refine wpAnyH_done (by kernel_rfl) ?_ _
            go_wp2_with fail
            go_roundw
            case rel => exact ⟨k + 1, m5, .slice (some ⟨g, 0, none⟩) m5 cv, by omega, by go_num, by rw [HSTEP.out, HSK2.out]; exact HSg.out, by rw [HSTEP.out, HSK2.out]; exact HX.out.2.2.1, by rw [HSTEP.out, HSK2.out]; exact HVg.out, HBg.out, HBOg.out⟩
            case measure => simp [intOf]; omega
          · refine AllReadyH.cons rfl (fun K hK => ?_) AllReadyH.nil
            go_simp
            have HS5a := Lib.hid (HS0.out.below (bl_alloc (Below.refl _ _) (.cells #[.bool false, .int .u8 0, .int .u8 0, .int .u8 0, .int .u8 0, .int .u8 0, .int .u8 0, .int .u8 0, .int .i64 0, .int .i64 0] 32)))
            have HX5a := Lib.hid (HX0.out.alloc (.cells #[.bool false, .int .u8 0, .int .u8 0, .int .u8 0, .int .u8 0, .int .u8 0, .int .u8 0, .int .u8 0, .int .i64 0, .int .i64 0] 32))
            have HB5a := Lib.hid (bl_next HB0.out (bl_alloc (Below.refl _ _) (.cells #[.bool false, .int .u8 0, .int .u8 0, .int .u8 0, .int .u8 0, .int .u8 0, .int .u8 0, .int .u8 0, .int .i64 0, .int .i64 0] 32)))
            have HBO5a := Lib.hid (Nat.le_trans HBO0.out (bl_alloc (Below.refl W0.heap.size W0) (.cells #[.bool false, .int .u8 0, .int .u8 0, .int .u8 0, .int .u8 0, .int .u8 0, .int .u8 0, .int .u8 0, .int .i64 0, .int .i64 0] 32)).size)
            have HYa := Lib.hid (Obj1.new W0 #[.bool false, .int .u8 0, .int .u8 0, .int .u8 0, .int .u8 0, .int .u8 0, .int .u8 0, .int .u8 0, .int .i64 0, .int .i64 0] 32)
            have HNY := Lib.hid (show W0.heap.size ≠ S ∧ W0.heap.size ≠ Lb ∧ W0.heap.size ≠ X from ⟨fun e => Nat.lt_irrefl _ (e ▸ HS0.out.2.1.lt), fun e => Nat.lt_irrefl _ (e ▸ HS0.out.2.2.lt), fun e => Nat.lt_irrefl _ (e ▸ HX0.out.lt)⟩)
            have HYB := Lib.hid (show w.heap.size ≤ W0.heap.size from HB0.out.size)
            refine hK.out _ _ ⟨HCW.out.1.below HB5a.out, bl_keeps HB5a.out HCW.out.2⟩ (fun hHeld => ?_)
            clear hK K
            refine wpAnyH_ready (rs := [11]) (by kernel_rfl) (by simp) ?_
            refine AllReadyH.cons rfl (fun K hK => ?_) AllReadyH.nil
            go_simp

            refine (skAdd_w S Lb m sk HOKK.out x.p hxp x.n _ HS5a.out).mono ?_
            rintro e w5 ⟨y, m5, hy, rfl, hS5, hu5⟩
            rw [HSK2.out] at hy hS5
            dsimp only
            have HAT := Lib.hid (show sk2.l[at']? = some y by rw [← HATE.out]; exact hy)
            have HLM5 := Lib.hid hS5.1
            have hm64 : m5 ≤ 64 := by have h1 := HOK2.out.2.1; have h2 := HOK2.out.1.2; have h3 := HLM5.out; omega
            have HFY := Lib.hid (show sk2.l[fnd sk2.l x.p]? = some y by rw [HFND.out, HATE.out]; exact HAT.out)
            have HOY := Lib.hid (HOK2.out.2.2.1 y (List.mem_of_getElem? hy))
            have HYA := Lib.hid (slo_sizeA HOY.out.1)
            have HYR := Lib.hid (slo_sizeR HOY.out.1)
            have HS5 := Lib.hid hS5
            have HX5 := Lib.hid (HX5a.out.upd2 hu5 (by have := HNX.out; omega) (by have := HNX.out; omega))
            have HB5 := Lib.hid (bl_upd2 HB5a.out hu5 hwS hwL)
            have HBO5 := Lib.hid (Nat.le_trans HBO5a.out hu5.2.2.2.1)
            have HYZ := Lib.hid (HYa.out.upd2 hu5 HNY.out.1 HNY.out.2.1)
            have HVK := Lib.hid (show ∀ w6, Upd W0.heap.size w5 w6 → RefV w6 B0 v sk.l from fun w6 hup => HV0.out.keep (fun q hq hlt => by
              have h1 := (bl_alloc (Below.refl W0.heap.size W0) (.cells #[.bool false, .int .u8 0, .int .u8 0, .int .u8 0, .int .u8 0, .int .u8 0, .int .u8 0, .int .u8 0, .int .i64 0, .int .i64 0] 32)).block q hlt
              have hn0 := HNX0.out
              have hlt2 : q < (W0.alloc (.cells #[.bool false, .int .u8 0, .int .u8 0, .int .u8 0, .int .u8 0, .int .u8 0, .int .u8 0, .int .u8 0, .int .i64 0, .int .i64 0] 32)).heap.size := Nat.lt_of_lt_of_le hlt (bl_alloc (Below.refl W0.heap.size W0) (.cells #[.bool false, .int .u8 0, .int .u8 0, .int .u8 0, .int .u8 0, .int .u8 0, .int .u8 0, .int .u8 0, .int .i64 0, .int .i64 0] 32)).size
              have h2 := hu5.2.2.2.2 q hlt2 (by omega) (by omega)
              have h3 := hup.block q (Nat.lt_of_lt_of_le hlt2 hu5.2.2.2.1) (by simp; omega)
              exact h3.trans (h2.trans h1)))
            clear hS5 hu5 hy HYa HS5a HX5a HB5a HBO5a
            refine hK.out _ _ ⟨HCW.out.1.below HB5.out, bl_keeps HB5.out HCW.out.2⟩ (fun hHeld => ?_)
            clear hK K hHeld
            generalize hY : W0.heap.size = Y at HYZ HVK HNY HYB ⊢
            clear hY
            refine wpAnyH_ready (rs := [13]) (by kernel_rfl) (by simp) ?_
            refine AllReadyH.cons rfl (fun K hK => ?_) AllReadyH.nil
            refine gwanted rfl ?_
            have hlenY := sloC_length HOY.out.1
            refine wp_store_objR 32 (.tmp 11) (.tmp 79) rfl Y 32 #[.bool false, .int .u8 0, .int .u8 0, .int .u8 0, .int .u8 0, .int .u8 0, .int .u8 0, .int .u8 0, .int .i64 0, .int .i64 0] (sloC y).toArray rfl rfl HYZ.out (by simp [hlenY]) HYA.out (all_oneCell_toArray (sloC_one y)) ?_
            intro w6 hob hup
            have HY6 := Lib.hid hob
            have HS6 := Lib.hid (HS5.out.grown hup (by have := HNY.out.1; simp; omega) (by have := HNY.out.2.1; simp; omega))
            have HX6 := Lib.hid (HX5.out.of_grown hup (by have := HNY.out.2.2; simp; omega))
            have HV6 := Lib.hid (HVK.out w6 hup)
            have HB6 := Lib.hid (bl_upd HB5.out hup HYB.out)
            have HBO6 := Lib.hid (Nat.le_trans HBO5.out hup.size)
            clear hob hup
            refine hK.out _ _ ⟨HCW.out.1.below HB6.out, bl_keeps HB6.out HCW.out.2⟩ (fun hHeld => ?_)
            clear hK K hHeld
            refine wpAnyH_done (by kernel_rfl) ?_ _

            go_wp2_with fail
            refine wp_region_held_drew (S := (fun w' => CellsAt w' b (off + k * 9) (pxC x.p) ∧ w'.cell? ⟨b, off + k * 9 + 8, none⟩ = some (.int .i64 x.n))) (by kernel_rfl) (⟨HCW.out.1.below (bl_drewN HB6.out 1), bl_keeps HB6.out HCW.out.2⟩) (fun hHeld => ?_)
            generalize hW0 : World.drew _ = W0 at hHeld ⊢
            have HS7 := Lib.hid (show SkO W0 S Lb m5 sk2 by rw [← hW0]; exact HS6.out)
            have HX7 := Lib.hid (show Obj1 W0 X (refC v sk) 50 by rw [← hW0]; exact HX6.out)
            have HV7 := Lib.hid (show RefV W0 B0 v sk.l by rw [← hW0]; exact HV6.out)
            have HY7 := Lib.hid (show Obj1 W0 Y (sloC y).toArray 32 by rw [← hW0]; exact HY6.out)
            have HB7 := Lib.hid (show Below w.heap.size w W0 by rw [← hW0]; exact bl_drewN HB6.out 1)
            have HBO7 := Lib.hid (show B0 ≤ W0.heap.size by rw [← hW0]; exact HBO6.out)
            have HX := Lib.hid hHeld
            clear hW0 hHeld
            refine wpAnyH_take (i := 1) (v := ?_) rfl (by kernel_rfl) (by kernel_rfl) (by kernel_rfl) (fun _ _ _ h => h) (Or.inl ⟨by rfl, ?_⟩) HX.out ?_
            rotate_left
            · intro w hSw; have hSw2 := hSw.2; go_simp
              try with_reducible rfl
            go_simp
            refine wpAnyH_take (i := 2) (v := ?_) rfl (by kernel_rfl) (by kernel_rfl) (by kernel_rfl) (fun _ _ _ h => h) (Or.inl ⟨by rfl, ?_⟩) HX.out ?_
            rotate_left
            · intro w hSw; have hSw2 := hSw.2; go_simp
              try with_reducible rfl
            go_simp
            refine wpAnyH_take (i := 3) (v := ?_) rfl (by kernel_rfl) (by kernel_rfl) (by kernel_rfl) (fun _ _ _ h => h) (Or.inl ⟨by rfl, ?_⟩) HX.out ?_
            rotate_left
            · intro w hSw; have hSw2 := hSw.2; go_simp
              try with_reducible rfl
            go_simp
            refine wpAnyH_take (i := 4) (v := ?_) rfl (by kernel_rfl) (by kernel_rfl) (by kernel_rfl) (fun _ _ _ h => h) (Or.inl ⟨by rfl, ?_⟩) HX.out ?_
            rotate_left
            · intro w hSw; have hSw2 := hSw.2; go_simp
              try with_reducible rfl
            go_simp
            refine wpAnyH_take (i := 5) (v := .agg (pxC x.p).toArray) rfl (by kernel_rfl) (by kernel_rfl) (by kernel_rfl) (fun _ _ _ h => h) (Or.inl ⟨by rfl, ?_⟩) HX.out ?_
            · intro w' hSw
              have hld := run_loadVar_cells (P := Try.prog) w' ⟨b, off + k * 9, none⟩ 30 (pxC x.p) _ hSw.1 Try.underlying30 rfl HPS.out
              simp [execOp, Act.eval, Instr.loadAt, Instr.sureAddr, Sem.run_bind, hld, Result.andThen]
            go_simp
            refine wpAnyH_take (i := 6) (v := ?_) rfl (by kernel_rfl) (by kernel_rfl) (by kernel_rfl) (fun _ _ _ h => h) (Or.inl ⟨by rfl, ?_⟩) HX.out ?_
            rotate_left
            · intro w hSw; have hSw2 := hSw.2; go_simp
              try with_reducible rfl
            go_simp
            refine wpAnyH_take (i := 7) (v := ?_) rfl (by kernel_rfl) (by kernel_rfl) (by kernel_rfl) (fun _ _ _ h => h) (Or.inl ⟨by rfl, ?_⟩) HX.out ?_
            rotate_left
            · intro w hSw; have hSw2 := hSw.2; go_simp
              try with_reducible rfl
            go_simp
            refine wpAnyH_take (i := 8) (v := ?_) rfl (by kernel_rfl) (by kernel_rfl) (by kernel_rfl) (fun _ _ _ h => h) (Or.inl ⟨by rfl, ?_⟩) HX.out ?_
            rotate_left
            · intro w hSw; have hSw2 := hSw.2; go_simp
              try with_reducible rfl
            go_simp
            refine wpAnyH_take (i := 9) (v := ?_) rfl (by kernel_rfl) (by kernel_rfl) (by kernel_rfl) (fun _ _ _ h => h) (Or.inl ⟨by rfl, ?_⟩) HX.out ?_
            rotate_left
            · intro w hSw; have hSw2 := hSw.2; go_simp
              try with_reducible rfl
            go_simp
            refine wpAnyH_take (i := 10) (v := ?_) rfl (by kernel_rfl) (by kernel_rfl) (by kernel_rfl) (fun _ _ _ h => h) (Or.inl ⟨by rfl, ?_⟩) HX.out ?_
            rotate_left
            · intro w hSw; have hSw2 := hSw.2; go_simp
              try with_reducible rfl
            go_simp
            refine wpAnyH_ready (rs := [0]) (by kernel_rfl) (by simp) ?_
            refine AllReadyH.cons rfl (fun K hK => ?_) AllReadyH.nil
            refine gwanted rfl ?_
            refine wp_load_row 50 (.tmp 9) rfl X rfl 50 (refC v sk) (0, 0) _ HX7.out Try.underlying50 rfl rfl ?_
            refine hK.out _ _ HX.out (fun hHeld => ?_)
            clear hK K hHeld
            refine wpAnyH_ready (rs := [11]) (by kernel_rfl) (by simp) ?_
            refine AllReadyH.cons rfl (fun K hK => ?_) AllReadyH.nil
            go_simp
            refine (refAdd_w B0 v sk HOKK.out x.p hxp x.n _ HV7.out).mono ?_
            rintro e w8 ⟨v2, rfl, hv8, hb8⟩
            rw [HSK2.out] at hv8 ⊢
            rw [HATE.out]
            dsimp only
            have HV8 := Lib.hid (hv8.mono HBO7.out)
            have HS8 := Lib.hid (HS7.out.below hb8)
            have HX8 := Lib.hid (HX7.out.below hb8)
            have HY8 := Lib.hid (HY7.out.below hb8)
            have HB8 := Lib.hid (bl_next HB7.out hb8)
            have HBO8 := Lib.hid (Nat.le_trans HBO7.out hb8.size)
            clear hv8 hb8
            refine hK.out _ _ ⟨HCW.out.1.below HB8.out, bl_keeps HB8.out HCW.out.2⟩ (fun hHeld => ?_)
            clear hK K
            have HX := Lib.hid hHeld
            clear hHeld
            go_simp
            refine wpAnyH_take (i := 12) (v := ?_) rfl (by kernel_rfl) (by kernel_rfl) (by kernel_rfl) (fun _ _ _ h => h) (Or.inl ⟨by rfl, ?_⟩) HX.out ?_
            rotate_left
            · intro w hSw; have hSw2 := hSw.2; go_simp
              try with_reducible rfl
            go_simp
            refine wpAnyH_take (i := 13) (v := ?_) rfl (by kernel_rfl) (by kernel_rfl) (by kernel_rfl) (fun _ _ _ h => h) (Or.inl ⟨by rfl, ?_⟩) HX.out ?_
            rotate_left
            · intro w hSw; have hSw2 := hSw.2; go_simp
              try with_reducible rfl
            go_simp
            refine wpAnyH_take (i := 14) (v := ?_) rfl (by kernel_rfl) (by kernel_rfl) (by kernel_rfl) (fun _ _ _ h => h) (Or.inl ⟨by rfl, ?_⟩) HX.out ?_
            rotate_left
            · intro w hSw; have hSw2 := hSw.2; go_simp
              try with_reducible rfl
            go_simp
            refine wpAnyH_ready (rs := [15]) (by kernel_rfl) (by simp) ?_
            refine AllReadyH.cons rfl (fun K hK => ?_) AllReadyH.nil
            refine gwanted rfl ?_
            obtain ⟨A2, cv, rfl, hcv, _, hrd2⟩ := HV8.out.slice HOK2.out.px
            obtain ⟨g, hgB, rfl, _⟩ := hrd2 at' y HAT.out
            rw [HLM5.out] at HV8 ⊢
            refine wp_store_objR 50 (.tmp 9) (.tmp 93) rfl X 50 (refC v sk) (refC (.slice (some ⟨g, 0, none⟩) m5 cv) sk2) rfl rfl HX8.out rfl rfl (by simp [refC, Value.oneCell']) ?_
            intro w9 hob hup
            have HX9 := Lib.hid hob
            have HS9 := Lib.hid (HS8.out.grown hup (by have := HNX.out; simp; omega) (by have := HNX.out; simp; omega))
            have HV9 := Lib.hid (HV8.out.upd hup HNX.out.2.2.2)
            have HY9 := Lib.hid (HY8.out.of_grown hup (by have := HNY.out.2.2; simpa using this))
            have HB9 := Lib.hid (bl_upd HB8.out hup HNX.out.1)
            have HBO9 := Lib.hid (Nat.le_trans HBO8.out hup.size)
            clear hob hup hrd2
            refine hK.out _ _ ⟨HCW.out.1.below HB9.out, bl_keeps HB9.out HCW.out.2⟩ (fun hHeld => ?_)
            clear hK K
            have HX := Lib.hid hHeld
            clear hHeld
            refine wpAnyH_take (i := 16) (v := ?_) rfl (by kernel_rfl) (by kernel_rfl) (by kernel_rfl) (fun _ _ _ h => h) (Or.inl ⟨by rfl, ?_⟩) HX.out ?_
            rotate_left
            · intro w hSw; have hSw2 := hSw.2; go_simp
              try with_reducible rfl
            go_simp
            refine wpAnyH_done (by kernel_rfl) ?_ _
            clear HX
            have HPW := Lib.hid (HCW.out.1.below HB9.out)
            go_wp2_with (refine load_cells rfl 30 (.tmp 100) rfl ⟨b, off + k * 9, none⟩ (pxC x.p) _ rfl HPW.out Try.underlying30 rfl HPS.out ?_)
            refine (getYes_w S Lb m5 sk2 HOK2.out x.p hxp y _ HS9.out HFY.out).mono ?_
            rintro e wa ⟨rfl, hba⟩
            have HSa := Lib.hid (HS9.out.below hba)
            have HXa := Lib.hid (HX9.out.below hba)
            have HVa := Lib.hid (HV9.out.below hba)
            have HYa := Lib.hid (HY9.out.below hba)
            have HBa := Lib.hid (bl_next HB9.out hba)
            have HBOa := Lib.hid (Nat.le_trans HBO9.out hba.size)
            clear hba
            have hlenY := sloC_length HOY.out.1
            go_wp2_with (refine store_obj rfl 32 (.tmp 13) (.tmp 103) rfl wa.heap.size 32 _ (sloC y).toArray rfl rfl (Obj1.new _ _ _) (by simp [hlenY]) HYA.out (all_oneCell_toArray (sloC_one y)) ?_; intro wb hob hup; have hbb := bl_upd (bl_alloc (Below.refl wa.heap.size wa) _) hup (Nat.le_refl _); have HZb := Lib.hid hob; have HSb := Lib.hid (HSa.out.below hbb); have HXb := Lib.hid (HXa.out.below hbb); have HVb := Lib.hid (HVa.out.below hbb); have HYb := Lib.hid (HYa.out.below hbb); have HBb := Lib.hid (bl_next HBa.out hbb); have HBOb := Lib.hid (Nat.le_trans HBOa.out hbb.size); clear hob hup hbb)
            generalize hZ : wa.heap.size = Zb at HZb ⊢
            clear hZ
            have hatc := HVb.out.slice HOK2.out.px
            have HCG := Lib.hid (show CellsAt wb g (at' * 10) (sloC y) by
              obtain ⟨A3, c3, e3, _, _, h3⟩ := hatc
              obtain ⟨g3, _, e4, h4⟩ := h3 at' y HAT.out
              simp only [Value.slice.injEq] at e3
              rw [← e3.1] at e4
              cases e4
              exact h4)
            clear hatc
            have ka0 : (0 : Int) ≤ (at' : Int) := Int.natCast_nonneg at'
            have ka1 : (at' : Int) < (m5 : Int) := by have := HAT.out; have h2 := (List.getElem?_eq_some_iff.1 this).1; rw [HLM5.out] at h2; omega
            refine wp_region_held_drew (S := (fun w' => Obj1 w' Y (sloC y).toArray 32 ∧ Obj1 w' Zb (sloC y).toArray 32 ∧ Obj1 w' X (refC (.slice (some ⟨g, 0, none⟩) m5 cv) sk2) 50 ∧ CellsAt w' g (at' * 10) (sloC y))) (by kernel_rfl) (⟨HYb.out, HZb.out, HXb.out, fun q u hq => HCG.out q u hq⟩) (fun hHeld => ?_)
            generalize hW0 : World.drew _ = W0 at hHeld ⊢
            have HSc := Lib.hid (show SkO W0 S Lb m5 sk2 by rw [← hW0]; exact HSb.out)
            have HVc := Lib.hid (show RefV W0 B0 (.slice (some ⟨g, 0, none⟩) m5 cv) sk2.l by rw [← hW0]; exact HVb.out)
            have HBc := Lib.hid (show Below w.heap.size w W0 by rw [← hW0]; exact bl_drewN HBb.out 1)
            have HBOc := Lib.hid (show B0 ≤ W0.heap.size by rw [← hW0]; exact HBOb.out)
            have HX := Lib.hid hHeld
            clear hW0 hHeld HSb HVb HBb HBOb HXb HYb HZb HCG HSa HXa HVa HYa HBa HBOa HS9 HX9 HV9 HY9 HB9 HBO9
            refine wpAnyH_take (i := 0) (v := .agg (sloC y).toArray) rfl (by kernel_rfl) (by kernel_rfl) (by kernel_rfl) (fun _ _ _ h => h) (Or.inl ⟨by rfl, ?_⟩) HX.out ?_
            · intro w' hSw
              have hld := run_loadVar_row (P := Try.prog) w' (Y) 32 32 (sloC y).toArray (0, 0) _ hSw.1 Try.underlying32 rfl HYA.out
              simp [execOp, Act.eval, Instr.loadAt, Instr.sureAddr, Sem.run_bind, hld, Result.andThen]
            go_simp
            refine wpAnyH_take (i := 1) (v := ?_) rfl (by kernel_rfl) (by kernel_rfl) (by kernel_rfl) (fun _ _ _ h => h) (Or.inl ⟨by rfl, ?_⟩) HX.out ?_
            rotate_left
            · intro w' hSw; have hc0 : w'.cell? ⟨X, 0, none⟩ = some (.slice (some ⟨g, 0, none⟩) m5 cv) := hSw.2.2.1.cell 0; have hc2 : w'.cell? ⟨X, 2, none⟩ = some (.int .i64 sk2.total) := hSw.2.2.1.cell 2; go_simp
              try with_reducible rfl
            go_simp
            refine wpAnyH_take (i := 2) (v := ?_) rfl (by kernel_rfl) (by kernel_rfl) (by kernel_rfl) (fun _ _ _ h => h) (Or.inl ⟨by rfl, ?_⟩) HX.out ?_
            rotate_left
            · intro w' hSw; have hc0 : w'.cell? ⟨X, 0, none⟩ = some (.slice (some ⟨g, 0, none⟩) m5 cv) := hSw.2.2.1.cell 0; have hc2 : w'.cell? ⟨X, 2, none⟩ = some (.int .i64 sk2.total) := hSw.2.2.1.cell 2; go_simp
              try with_reducible rfl
            go_simp
            refine wpAnyH_take (i := 3) (v := ?_) rfl (by kernel_rfl) (by kernel_rfl) (by kernel_rfl) (fun _ _ _ h => h) (Or.inl ⟨by rfl, ?_⟩) HX.out ?_
            rotate_left
            · intro w' hSw; have hc0 : w'.cell? ⟨X, 0, none⟩ = some (.slice (some ⟨g, 0, none⟩) m5 cv) := hSw.2.2.1.cell 0; have hc2 : w'.cell? ⟨X, 2, none⟩ = some (.int .i64 sk2.total) := hSw.2.2.1.cell 2; go_simp
              try with_reducible rfl
            go_simp
            refine wpAnyH_take (i := 4) (v := ?_) rfl (by kernel_rfl) (by kernel_rfl) (by kernel_rfl) (fun _ _ _ h => h) (Or.inl ⟨by rfl, ?_⟩) HX.out ?_
            rotate_left
            · intro w' hSw; have hc0 : w'.cell? ⟨X, 0, none⟩ = some (.slice (some ⟨g, 0, none⟩) m5 cv) := hSw.2.2.1.cell 0; have hc2 : w'.cell? ⟨X, 2, none⟩ = some (.int .i64 sk2.total) := hSw.2.2.1.cell 2; go_simp
              try with_reducible rfl
            go_simp
            refine wpAnyH_take (i := 5) (v := .agg (sloC y).toArray) rfl (by kernel_rfl) (by kernel_rfl) (by kernel_rfl) (fun _ _ _ h => h) (Or.inl ⟨by rfl, ?_⟩) HX.out ?_
            · intro w' hSw
              have hld := run_loadVar_cells (P := Try.prog) w' ⟨g, at' * 10, none⟩ 53 (sloC y) _ hSw.2.2.2 Try.underlying53 rfl HYR.out
              simp [execOp, Act.eval, Instr.loadAt, Instr.sureAddr, Sem.run_bind, hld, Result.andThen]
            go_simp
            refine wpAnyH_take (i := 6) (v := .bool false) rfl (by kernel_rfl) (by kernel_rfl) (by kernel_rfl) (fun _ _ _ h => h) (Or.inl ⟨by rfl, ?_⟩) HX.out ?_
            · intro w' hSw
              exact exec_neq 53 53 (.tmp 105) (.tmp 110) rfl _ _ rfl rfl true (by kernel_rfl) (by rw [eq_sloR w' HOY.out HOY.out]; simp)
            go_simp
            refine wpAnyH_take (i := 7) (v := ?_) rfl (by kernel_rfl) (by kernel_rfl) (by kernel_rfl) (fun _ _ _ h => h) (Or.inl ⟨by rfl, ?_⟩) HX.out ?_
            rotate_left
            · intro w' hSw; have hc0 : w'.cell? ⟨X, 0, none⟩ = some (.slice (some ⟨g, 0, none⟩) m5 cv) := hSw.2.2.1.cell 0; have hc2 : w'.cell? ⟨X, 2, none⟩ = some (.int .i64 sk2.total) := hSw.2.2.1.cell 2; go_simp
              try with_reducible rfl
            go_simp
            refine wpAnyH_take (i := 8) (v := .agg (sloC y).toArray) rfl (by kernel_rfl) (by kernel_rfl) (by kernel_rfl) (fun _ _ _ h => h) (Or.inl ⟨by rfl, ?_⟩) HX.out ?_
            · intro w' hSw
              have hld := run_loadVar_row (P := Try.prog) w' (Y) 32 32 (sloC y).toArray (0, 0) _ hSw.1 Try.underlying32 rfl HYA.out
              simp [execOp, Act.eval, Instr.loadAt, Instr.sureAddr, Sem.run_bind, hld, Result.andThen]
            go_simp
            refine wpAnyH_take (i := 9) (v := .agg (sloC y).toArray) rfl (by kernel_rfl) (by kernel_rfl) (by kernel_rfl) (fun _ _ _ h => h) (Or.inl ⟨by rfl, ?_⟩) HX.out ?_
            · intro w' hSw
              have hld := run_loadVar_row (P := Try.prog) w' (Zb) 32 32 (sloC y).toArray (0, 0) _ hSw.2.1 Try.underlying32 rfl HYA.out
              simp [execOp, Act.eval, Instr.loadAt, Instr.sureAddr, Sem.run_bind, hld, Result.andThen]
            go_simp
            refine wpAnyH_take (i := 10) (v := .bool false) rfl (by kernel_rfl) (by kernel_rfl) (by kernel_rfl) (fun _ _ _ h => h) (Or.inl ⟨by rfl, ?_⟩) HX.out ?_
            · intro w' hSw
              exact exec_neq 32 32 (.tmp 113) (.tmp 114) rfl _ _ rfl rfl true (by kernel_rfl) (by rw [eq_slo w' HOY.out HOY.out]; simp)
            go_simp
            refine wpAnyH_take (i := 11) (v := ?_) rfl (by kernel_rfl) (by kernel_rfl) (by kernel_rfl) (fun _ _ _ h => h) (Or.inl ⟨by rfl, ?_⟩) HX.out ?_
            rotate_left
            · intro w' hSw; have hc0 : w'.cell? ⟨X, 0, none⟩ = some (.slice (some ⟨g, 0, none⟩) m5 cv) := hSw.2.2.1.cell 0; have hc2 : w'.cell? ⟨X, 2, none⟩ = some (.int .i64 sk2.total) := hSw.2.2.1.cell 2; go_simp
              try with_reducible rfl
            go_simp
            refine wpAnyH_take (i := 12) (v := ?_) rfl (by kernel_rfl) (by kernel_rfl) (by kernel_rfl) (fun _ _ _ h => h) (Or.inl ⟨by rfl, ?_⟩) HX.out ?_
            rotate_left
            · intro w' hSw; have hc0 : w'.cell? ⟨X, 0, none⟩ = some (.slice (some ⟨g, 0, none⟩) m5 cv) := hSw.2.2.1.cell 0; have hc2 : w'.cell? ⟨X, 2, none⟩ = some (.int .i64 sk2.total) := hSw.2.2.1.cell 2; go_simp
              try with_reducible rfl
            go_simp
            refine wpAnyH_take (i := 13) (v := ?_) rfl (by kernel_rfl) (by kernel_rfl) (by kernel_rfl) (fun _ _ _ h => h) (Or.inl ⟨by rfl, ?_⟩) HX.out ?_
            rotate_left
            · intro w' hSw; have hc0 : w'.cell? ⟨X, 0, none⟩ = some (.slice (some ⟨g, 0, none⟩) m5 cv) := hSw.2.2.1.cell 0; have hc2 : w'.cell? ⟨X, 2, none⟩ = some (.int .i64 sk2.total) := hSw.2.2.1.cell 2; go_simp
              try with_reducible rfl
            go_simp
            refine wpAnyH_take (i := 14) (v := ?_) rfl (by kernel_rfl) (by kernel_rfl) (by kernel_rfl) (fun _ _ _ h => h) (Or.inl ⟨by rfl, ?_⟩) HX.out ?_
            rotate_left
            · intro w' hSw; have hc0 : w'.cell? ⟨X, 0, none⟩ = some (.slice (some ⟨g, 0, none⟩) m5 cv) := hSw.2.2.1.cell 0; have hc2 : w'.cell? ⟨X, 2, none⟩ = some (.int .i64 sk2.total) := hSw.2.2.1.cell 2; go_simp
              try with_reducible rfl
            go_simp
            refine wpAnyH_take (i := 15) (v := ?_) rfl (by kernel_rfl) (by kernel_rfl) (by kernel_rfl) (fun _ _ _ h => h) (Or.inl ⟨by rfl, ?_⟩) HX.out ?_
            rotate_left
            · intro w' hSw; have hc0 : w'.cell? ⟨X, 0, none⟩ = some (.slice (some ⟨g, 0, none⟩) m5 cv) := hSw.2.2.1.cell 0; have hc2 : w'.cell? ⟨X, 2, none⟩ = some (.int .i64 sk2.total) := hSw.2.2.1.cell 2; go_simp
              try with_reducible rfl
            go_simp
            refine wpAnyH_take (i := 16) (v := ?_) rfl (by kernel_rfl) (by kernel_rfl) (by kernel_rfl) (fun _ _ _ h => h) (Or.inl ⟨by rfl, ?_⟩) HX.out ?_
            rotate_left
            · intro w' hSw; have hc0 : w'.cell? ⟨X, 0, none⟩ = some (.slice (some ⟨g, 0, none⟩) m5 cv) := hSw.2.2.1.cell 0; have hc2 : w'.cell? ⟨X, 2, none⟩ = some (.int .i64 sk2.total) := hSw.2.2.1.cell 2; go_simp
              try with_reducible rfl
            go_simp
            refine wpAnyH_take (i := 17) (v := ?_) rfl (by kernel_rfl) (by kernel_rfl) (by kernel_rfl) (fun _ _ _ h => h) (Or.inl ⟨by rfl, ?_⟩) HX.out ?_
            rotate_left
            · intro w' hSw; have hc0 : w'.cell? ⟨X, 0, none⟩ = some (.slice (some ⟨g, 0, none⟩) m5 cv) := hSw.2.2.1.cell 0; have hc2 : w'.cell? ⟨X, 2, none⟩ = some (.int .i64 sk2.total) := hSw.2.2.1.cell 2; go_simp
              try with_reducible rfl
            go_simp
            refine wpAnyH_take (i := 19) (v := ?_) rfl (by kernel_rfl) (by kernel_rfl) (by kernel_rfl) (fun _ _ _ h => h) (Or.inl ⟨by rfl, ?_⟩) HX.out ?_
            rotate_left
            · intro w' hSw; have hc0 : w'.cell? ⟨X, 0, none⟩ = some (.slice (some ⟨g, 0, none⟩) m5 cv) := hSw.2.2.1.cell 0; have hc2 : w'.cell? ⟨X, 2, none⟩ = some (.int .i64 sk2.total) := hSw.2.2.1.cell 2; go_simp
              try with_reducible rfl
            go_simp
            refine wpAnyH_take (i := 20) (v := ?_) rfl (by kernel_rfl) (by kernel_rfl) (by kernel_rfl) (fun _ _ _ h => h) (Or.inl ⟨by rfl, ?_⟩) HX.out ?_
            rotate_left
            · intro w' hSw; have hc0 : w'.cell? ⟨X, 0, none⟩ = some (.slice (some ⟨g, 0, none⟩) m5 cv) := hSw.2.2.1.cell 0; have hc2 : w'.cell? ⟨X, 2, none⟩ = some (.int .i64 sk2.total) := hSw.2.2.1.cell 2; go_simp
              try with_reducible rfl
            go_simp
            refine wpAnyH_ready (rs := [18]) (by kernel_rfl) (by simp) ?_
            refine AllReadyH.cons rfl (fun K hK => ?_) AllReadyH.nil
            go_simp
            refine (skSlots_w S Lb m5 sk2 HOK2.out _ HSc.out).mono ?_
            rintro e wd ⟨v4, rfl, ho4, hb4⟩
            obtain ⟨A4, c4, rfl, hmc4, _, hrd4⟩ := own_read ho4 HOK2.out.px
            dsimp only
            have HRD4 := Lib.hid (show ∀ k x, sk2.l[k]? = some x → ∃ g, A4 = some ⟨g, 0, none⟩ ∧ CellsAt wd g (k * 10) (sloC x) from fun k x hk => let ⟨g, _, e, h⟩ := hrd4 k x hk; ⟨g, e, h⟩)
            have HSd := Lib.hid (HSc.out.below hb4)
            have HVd := Lib.hid (HVc.out.below hb4)
            have HBd := Lib.hid (bl_next HBc.out hb4)
            have HBOd := Lib.hid (Nat.le_trans HBOc.out hb4.size)
            have HXd := Lib.hid (And.intro (HX.out.1.below hb4) (And.intro (HX.out.2.1.below hb4) (And.intro (HX.out.2.2.1.below hb4) (HX.out.2.2.2.below hb4))))
            clear ho4 hb4 hrd4
            refine hK.out _ _ HXd.out (fun hHeld => ?_)
            clear hK K
            have HX := Lib.hid hHeld
            clear hHeld HXd
            go_simp
            refine wpAnyH_ready (rs := [21]) (by kernel_rfl) (by simp) ?_
            refine AllReadyH.cons rfl (fun K hK => ?_) AllReadyH.nil
            go_simp
            refine (same18_w B0 _ sk2.l HOK2.out.2.2.1 (by rw [HLM5.out]; exact hm64 ) A4 m5 c4 HLM5.out _ HVd.out HRD4.out).mono ?_
            rintro e wf ⟨rfl, qq, rfl⟩
            dsimp only
            have HSg := Lib.hid (show SkO (wd.drewN qq) S Lb m5 sk2 from HSd.out)
            have HVg := Lib.hid (show RefV (wd.drewN qq) B0 (.slice (some ⟨g, 0, none⟩) m5 cv) sk2.l from HVd.out)
            have HBg := Lib.hid (bl_drewN HBd.out qq)
            have HBOg := Lib.hid (show B0 ≤ (wd.drewN qq).heap.size from HBOd.out)
            have hs4 : Obj1 (wd.drewN qq) Y (sloC y).toArray 32 ∧ Obj1 (wd.drewN qq) Zb (sloC y).toArray 32 ∧ Obj1 (wd.drewN qq) X (refC (.slice (some ⟨g, 0, none⟩) m5 cv) sk2) 50 ∧ CellsAt (wd.drewN qq) g (at' * 10) (sloC y) := ⟨HX.out.1, HX.out.2.1, HX.out.2.2.1, HX.out.2.2.2⟩
            refine hK.out _ _ hs4 (fun hHeld => ?_)
            clear hK K
            have HX := Lib.hid hHeld
            clear hHeld hs4
            go_simp
            refine wpAnyH_take (i := 22) (v := ?_) rfl (by kernel_rfl) (by kernel_rfl) (by kernel_rfl) (fun _ _ _ h => h) (Or.inl ⟨by rfl, ?_⟩) HX.out ?_
            rotate_left
            · intro w' hSw; have hc0 : w'.cell? ⟨X, 0, none⟩ = some (.slice (some ⟨g, 0, none⟩) m5 cv) := hSw.2.2.1.cell 0; have hc2 : w'.cell? ⟨X, 2, none⟩ = some (.int .i64 sk2.total) := hSw.2.2.1.cell 2; go_simp
              try with_reducible rfl
            go_simp
            refine wpAnyH_take (i := 23) (v := ?_) rfl (by kernel_rfl) (by kernel_rfl) (by kernel_rfl) (fun _ _ _ h => h) (Or.inl ⟨by rfl, ?_⟩) HX.out ?_
            rotate_left
            · intro w' hSw; have hc0 : w'.cell? ⟨X, 0, none⟩ = some (.slice (some ⟨g, 0, none⟩) m5 cv) := hSw.2.2.1.cell 0; have hc2 : w'.cell? ⟨X, 2, none⟩ = some (.int .i64 sk2.total) := hSw.2.2.1.cell 2; go_simp
              try with_reducible rfl
            go_simp
            refine wpAnyH_take (i := 24) (v := ?_) rfl (by kernel_rfl) (by kernel_rfl) (by kernel_rfl) (fun _ _ _ h => h) (Or.inl ⟨by rfl, ?_⟩) HX.out ?_
            rotate_left
            · intro w' hSw; have hc0 : w'.cell? ⟨X, 0, none⟩ = some (.slice (some ⟨g, 0, none⟩) m5 cv) := hSw.2.2.1.cell 0; have hc2 : w'.cell? ⟨X, 2, none⟩ = some (.int .i64 sk2.total) := hSw.2.2.1.cell 2; go_simp
              try with_reducible rfl
            go_simp
            refine wpAnyH_take (i := 25) (v := ?_) rfl (by kernel_rfl) (by kernel_rfl) (by kernel_rfl) (fun _ _ _ h => h) (Or.inl ⟨by rfl, ?_⟩) HX.out ?_
            rotate_left
            · intro w' hSw; have hc0 : w'.cell? ⟨X, 0, none⟩ = some (.slice (some ⟨g, 0, none⟩) m5 cv) := hSw.2.2.1.cell 0; have hc2 : w'.cell? ⟨X, 2, none⟩ = some (.int .i64 sk2.total) := hSw.2.2.1.cell 2; go_simp
              try with_reducible rfl
            go_simp
            refine wpAnyH_take (i := 27) (v := ?_) rfl (by kernel_rfl) (by kernel_rfl) (by kernel_rfl) (fun _ _ _ h => h) (Or.inl ⟨by rfl, ?_⟩) HX.out ?_
            rotate_left
            · intro w' hSw; have hc0 : w'.cell? ⟨X, 0, none⟩ = some (.slice (some ⟨g, 0, none⟩) m5 cv) := hSw.2.2.1.cell 0; have hc2 : w'.cell? ⟨X, 2, none⟩ = some (.int .i64 sk2.total) := hSw.2.2.1.cell 2; go_simp
              try with_reducible rfl
            go_simp
            refine wpAnyH_take (i := 28) (v := ?_) rfl (by kernel_rfl) (by kernel_rfl) (by kernel_rfl) (fun _ _ _ h => h) (Or.inl ⟨by rfl, ?_⟩) HX.out ?_
            rotate_left
            · intro w' hSw; have hc0 : w'.cell? ⟨X, 0, none⟩ = some (.slice (some ⟨g, 0, none⟩) m5 cv) := hSw.2.2.1.cell 0; have hc2 : w'.cell? ⟨X, 2, none⟩ = some (.int .i64 sk2.total) := hSw.2.2.1.cell 2; go_simp
              try with_reducible rfl
            go_simp
            refine wpAnyH_ready (rs := [26]) (by kernel_rfl) (by simp) ?_
            refine AllReadyH.cons rfl (fun K hK => ?_) AllReadyH.nil
            go_simp
            refine (skTotal_w S Lb m5 sk2 _ HSg.out).mono ?_
            rintro e w' ⟨rfl, rfl⟩
            dsimp only
            refine hK.out _ _ HX.out (fun hHeld => ?_)
            clear hK K hHeld
            go_simp
            refine wpAnyH_take (i := 29) (v := ?_) rfl (by kernel_rfl) (by kernel_rfl) (by kernel_rfl) (fun _ _ _ h => h) (Or.inl ⟨by rfl, ?_⟩) HX.out ?_
            rotate_left
            · intro w' hSw; have hc0 : w'.cell? ⟨X, 0, none⟩ = some (.slice (some ⟨g, 0, none⟩) m5 cv) := hSw.2.2.1.cell 0; have hc2 : w'.cell? ⟨X, 2, none⟩ = some (.int .i64 sk2.total) := hSw.2.2.1.cell 2; go_simp
              try with_reducible rfl
            go_simp
            refine wpAnyH_take (i := 30) (v := ?_) rfl (by kernel_rfl) (by kernel_rfl) (by kernel_rfl) (fun _ _ _ h => h) (Or.inl ⟨by rfl, ?_⟩) HX.out ?_
            rotate_left
            · intro w' hSw; have hc0 : w'.cell? ⟨X, 0, none⟩ = some (.slice (some ⟨g, 0, none⟩) m5 cv) := hSw.2.2.1.cell 0; have hc2 : w'.cell? ⟨X, 2, none⟩ = some (.int .i64 sk2.total) := hSw.2.2.1.cell 2; go_simp
              try with_reducible rfl
            go_simp
            refine wpAnyH_done (by kernel_rfl) ?_ _
            go_wp2_with fail
            go_roundw
            case rel => exact ⟨k + 1, m5, .slice (some ⟨g, 0, none⟩) m5 cv, by omega, by go_num, by rw [HSTEP.out, HSK2.out]; exact HSg.out, by rw [HSTEP.out, HSK2.out]; exact HX.out.2.2.1, by rw [HSTEP.out, HSK2.out]; exact HVg.out, HBg.out, HBOg.out⟩
            case measure => simp [intOf]; omega
        · have hk1 : ¬ (k : Int) < (n : Int) := by omega
          obtain ⟨sF, hsF⟩ : ∃ sF, skRun (skNew R) L = sF := ⟨_, rfl⟩
          have hkn : L.take k = L := List.take_of_length_le (by have := HLN.out; omega)
          rw [hkn, hsF] at HSK HXB HRV
          have HOF := Lib.hid (show okSk sF by rw [← hsF]; exact skRun_ok HON.out (fun s hs => (HOK.out s hs).1))
          have HBX := Lib.hid (HPB.out.below HBL.out)
          have HLM := Lib.hid HSK.out.1
          clear hsF hkn
          go_wp2_with (refine load_obj rfl 30 (.tmp 5) rfl w0.heap.size 30 (pxC p).toArray _ rfl HBX.out Try.underlying30 rfl HPA.out ?_)
          by_cases hmem : fnd sF.l p < sF.l.length
          · obtain ⟨y, hy, hyp⟩ := fnd_at hmem
            have HOY := Lib.hid (HOF.out.2.2.1 y (List.mem_of_getElem? hy))
            have HYA := Lib.hid (slo_sizeA HOY.out.1)
            have HYR := Lib.hid (slo_sizeR HOY.out.1)
            have hlenY := sloC_length HOY.out.1
            have hfv : fndV sF.l p = (fnd sF.l p : Int) := by unfold fndV; rw [if_pos hmem]
            refine (getYes_w S Lb m sF HOF.out p hp y _ HSK.out hy).mono ?_
            rintro e wa ⟨rfl, hba⟩
            obtain ⟨at', hat'⟩ : ∃ at', fnd sF.l p = at' := ⟨_, rfl⟩
            rw [hat'] at hfv hy hmem
            have HFV := Lib.hid hfv
            have HYAT := Lib.hid hy
            have HSa := Lib.hid (HSK.out.below hba)
            have HXa := Lib.hid (HXB.out.below hba)
            have HVa := Lib.hid (HRV.out.below hba)
            have HBa := Lib.hid (bl_next HBL.out hba)
            have HBXa := Lib.hid (HBX.out.below hba)
            clear hba
            go_wp2_with (first
              | (refine store_obj rfl 32 (.tmp 15) (.tmp 141) rfl wa.heap.size 32 _ (sloC y).toArray rfl rfl (Obj1.new _ _ _) (by simp [hlenY]) HYA.out (all_oneCell_toArray (sloC_one y)) ?_; intro wb hob hup; have hbb := bl_upd (bl_alloc (Below.refl wa.heap.size wa) _) hup (Nat.le_refl _); have HZb := Lib.hid hob; have HSb := Lib.hid (HSa.out.below hbb); have HXb := Lib.hid (HXa.out.below hbb); have HVb := Lib.hid (HVa.out.below hbb); have HBXb := Lib.hid (HBXa.out.below hbb); have HBb := Lib.hid (bl_next HBa.out hbb); clear hob hup hbb)
              | (refine load_obj rfl 50 (.tmp 9) rfl X 50 (refC v sF) _ rfl HXb.out Try.underlying50 rfl rfl ?_)
              | (refine load_obj rfl 30 (.tmp 5) rfl w0.heap.size 30 (pxC p).toArray _ rfl HBXb.out Try.underlying30 rfl HPA.out ?_))
            refine (refFind_w B0 v sF p HOF.out.px (by have h1 := HOF.out.2.1; have h2 := HOF.out.1.2; omega) hp _ HVb.out).mono ?_
            rintro e wc ⟨rfl, hbc⟩
            rw [HFV.out]
            have HSc := Lib.hid (HSb.out.below hbc)
            have HXc := Lib.hid (HXb.out.below hbc)
            have HVc := Lib.hid (HVb.out.below hbc)
            have HBc := Lib.hid (bl_next HBb.out hbc)
            have HZc := Lib.hid (HZb.out.below hbc)
            clear hbc
            generalize hZ : wa.heap.size = Zb at HZb HZc ⊢
            clear hZ
            have hatc := HVc.out.slice HOF.out.px
            obtain ⟨A3, cv, rfl, _, _, h3⟩ := hatc
            obtain ⟨g, _, rfl, hcg⟩ := h3 at' y HYAT.out
            rw [HLM.out] at HXc ⊢
            have HCG := Lib.hid (show CellsAt wc g (at' * 10) (sloC y) from hcg)
            have ka0 : (0 : Int) ≤ (at' : Int) := Int.natCast_nonneg at'
            have ka1 : (at' : Int) < (m : Int) := by have := HLM.out; omega
            have ka2 : ¬ (at' : Int) < 0 := by omega
            have ka3 : decide ((0 : Int) ≤ (at' : Int)) = true := decide_eq_true ka0
            clear h3 hcg hy hmem hat' hfv
            go_wp2_with fail
            refine wp_region_held_drew (S := (fun w' => Obj1 w' Zb (sloC y).toArray 32 ∧ Obj1 w' X (refC (.slice (some ⟨g, 0, none⟩) m cv) sF) 50 ∧ CellsAt w' g (at' * 10) (sloC y))) (by kernel_rfl) (⟨HZc.out, HXc.out, fun q u hq => HCG.out q u hq⟩) (fun hHeld => ?_)
            generalize hW0 : World.drew _ = W0 at hHeld ⊢
            have HSd := Lib.hid (show SkO W0 S Lb m sF by rw [← hW0]; exact HSc.out)
            have HBd := Lib.hid (show Below w.heap.size w W0 by rw [← hW0]; exact bl_drewN HBc.out 1)
            have HX := Lib.hid hHeld
            clear hW0 hHeld
            refine wpAnyH_take (i := 0) (v := ?_) rfl (by kernel_rfl) (by kernel_rfl) (by kernel_rfl) (fun _ _ _ h => h) (Or.inl ⟨by rfl, ?_⟩) HX.out ?_
            rotate_left
            · intro w' hSw; have hc0 : w'.cell? ⟨X, 0, none⟩ = some (.slice (some ⟨g, 0, none⟩) m cv) := hSw.2.1.cell 0; go_simp
              try with_reducible rfl
            go_simp
            refine wpAnyH_take (i := 1) (v := ?_) rfl (by kernel_rfl) (by kernel_rfl) (by kernel_rfl) (fun _ _ _ h => h) (Or.inl ⟨by rfl, ?_⟩) HX.out ?_
            rotate_left
            · intro w' hSw; have hc0 : w'.cell? ⟨X, 0, none⟩ = some (.slice (some ⟨g, 0, none⟩) m cv) := hSw.2.1.cell 0; go_simp
              try with_reducible rfl
            go_simp
            refine wpAnyH_take (i := 2) (v := ?_) rfl (by kernel_rfl) (by kernel_rfl) (by kernel_rfl) (fun _ _ _ h => h) (Or.inl ⟨by rfl, ?_⟩) HX.out ?_
            rotate_left
            · intro w' hSw; have hc0 : w'.cell? ⟨X, 0, none⟩ = some (.slice (some ⟨g, 0, none⟩) m cv) := hSw.2.1.cell 0; go_simp
              try with_reducible rfl
            go_simp
            refine wpAnyH_take (i := 3) (v := ?_) rfl (by kernel_rfl) (by kernel_rfl) (by kernel_rfl) (fun _ _ _ h => h) (Or.inl ⟨by rfl, ?_⟩) HX.out ?_
            rotate_left
            · intro w' hSw; have hc0 : w'.cell? ⟨X, 0, none⟩ = some (.slice (some ⟨g, 0, none⟩) m cv) := hSw.2.1.cell 0; go_simp
              try with_reducible rfl
            go_simp
            refine wpAnyH_take (i := 4) (v := ?_) rfl (by kernel_rfl) (by kernel_rfl) (by kernel_rfl) (fun _ _ _ h => h) (Or.inl ⟨by rfl, ?_⟩) HX.out ?_
            rotate_left
            · intro w' hSw; have hc0 : w'.cell? ⟨X, 0, none⟩ = some (.slice (some ⟨g, 0, none⟩) m cv) := hSw.2.1.cell 0; go_simp
              try with_reducible rfl
            go_simp
            refine wpAnyH_take (i := 5) (v := ?_) rfl (by kernel_rfl) (by kernel_rfl) (by kernel_rfl) (fun _ _ _ h => h) (Or.inl ⟨by rfl, ?_⟩) HX.out ?_
            rotate_left
            · intro w' hSw; have hc0 : w'.cell? ⟨X, 0, none⟩ = some (.slice (some ⟨g, 0, none⟩) m cv) := hSw.2.1.cell 0; go_simp
              try with_reducible rfl
            go_simp
            refine wpAnyH_take (i := 6) (v := ?_) rfl (by kernel_rfl) (by kernel_rfl) (by kernel_rfl) (fun _ _ _ h => h) (Or.inl ⟨by rfl, ?_⟩) HX.out ?_
            rotate_left
            · intro w' hSw; have hc0 : w'.cell? ⟨X, 0, none⟩ = some (.slice (some ⟨g, 0, none⟩) m cv) := hSw.2.1.cell 0; go_simp
              try with_reducible rfl
            go_simp
            refine wpAnyH_take (i := 7) (v := .agg (sloC y).toArray) rfl (by kernel_rfl) (by kernel_rfl) (by kernel_rfl) (fun _ _ _ h => h) (Or.inl ⟨by rfl, ?_⟩) HX.out ?_
            · intro w' hSw
              have hld := run_loadVar_row (P := Try.prog) w' (Zb) 32 32 (sloC y).toArray (0, 0) _ hSw.1 Try.underlying32 rfl HYA.out
              simp [execOp, Act.eval, Instr.loadAt, Instr.sureAddr, Sem.run_bind, hld, Result.andThen]
            go_simp
            refine wpAnyH_take (i := 8) (v := ?_) rfl (by kernel_rfl) (by kernel_rfl) (by kernel_rfl) (fun _ _ _ h => h) (Or.inl ⟨by rfl, ?_⟩) HX.out ?_
            rotate_left
            · intro w' hSw; have hc0 : w'.cell? ⟨X, 0, none⟩ = some (.slice (some ⟨g, 0, none⟩) m cv) := hSw.2.1.cell 0; go_simp
              try with_reducible rfl
            go_simp
            refine wpAnyH_take (i := 9) (v := ?_) rfl (by kernel_rfl) (by kernel_rfl) (by kernel_rfl) (fun _ _ _ h => h) (Or.inl ⟨by rfl, ?_⟩) HX.out ?_
            rotate_left
            · intro w' hSw; have hc0 : w'.cell? ⟨X, 0, none⟩ = some (.slice (some ⟨g, 0, none⟩) m cv) := hSw.2.1.cell 0; go_simp
              try with_reducible rfl
            go_simp
            refine wpAnyH_take (i := 10) (v := ?_) rfl (by kernel_rfl) (by kernel_rfl) (by kernel_rfl) (fun _ _ _ h => h) (Or.inl ⟨by rfl, ?_⟩) HX.out ?_
            rotate_left
            · intro w' hSw; have hc0 : w'.cell? ⟨X, 0, none⟩ = some (.slice (some ⟨g, 0, none⟩) m cv) := hSw.2.1.cell 0; go_simp
              try with_reducible rfl
            go_simp
            refine wpAnyH_take (i := 11) (v := ?_) rfl (by kernel_rfl) (by kernel_rfl) (by kernel_rfl) (fun _ _ _ h => h) (Or.inl ⟨by rfl, ?_⟩) HX.out ?_
            rotate_left
            · intro w' hSw; have hc0 : w'.cell? ⟨X, 0, none⟩ = some (.slice (some ⟨g, 0, none⟩) m cv) := hSw.2.1.cell 0; go_simp
              try with_reducible rfl
            go_simp
            refine wpAnyH_take (i := 12) (v := .agg (sloC y).toArray) rfl (by kernel_rfl) (by kernel_rfl) (by kernel_rfl) (fun _ _ _ h => h) (Or.inl ⟨by rfl, ?_⟩) HX.out ?_
            · intro w' hSw
              have hld := run_loadVar_cells (P := Try.prog) w' ⟨g, at' * 10, none⟩ 53 (sloC y) _ hSw.2.2 Try.underlying53 rfl HYR.out
              simp [execOp, Act.eval, Instr.loadAt, Instr.sureAddr, Sem.run_bind, hld, Result.andThen]
            go_simp
            refine wpAnyH_take (i := 13) (v := .bool false) rfl (by kernel_rfl) (by kernel_rfl) (by kernel_rfl) (fun _ _ _ h => h) (Or.inl ⟨by rfl, ?_⟩) HX.out ?_
            · intro w' hSw
              exact exec_neq 53 53 (.tmp 153) (.tmp 158) rfl _ _ rfl rfl true (by kernel_rfl) (by rw [eq_sloR w' HOY.out HOY.out]; simp)
            go_simp
            refine wpAnyH_take (i := 14) (v := ?_) rfl (by kernel_rfl) (by kernel_rfl) (by kernel_rfl) (fun _ _ _ h => h) (Or.inl ⟨by rfl, ?_⟩) HX.out ?_
            rotate_left
            · intro w' hSw; have hc0 : w'.cell? ⟨X, 0, none⟩ = some (.slice (some ⟨g, 0, none⟩) m cv) := hSw.2.1.cell 0; go_simp
              try with_reducible rfl
            go_simp
            refine wpAnyH_take (i := 15) (v := ?_) rfl (by kernel_rfl) (by kernel_rfl) (by kernel_rfl) (fun _ _ _ h => h) (Or.inl ⟨by rfl, ?_⟩) HX.out ?_
            rotate_left
            · intro w' hSw; have hc0 : w'.cell? ⟨X, 0, none⟩ = some (.slice (some ⟨g, 0, none⟩) m cv) := hSw.2.1.cell 0; go_simp
              try with_reducible rfl
            go_simp
            refine wpAnyH_take (i := 16) (v := ?_) rfl (by kernel_rfl) (by kernel_rfl) (by kernel_rfl) (fun _ _ _ h => h) (Or.inl ⟨by rfl, ?_⟩) HX.out ?_
            rotate_left
            · intro w' hSw; have hc0 : w'.cell? ⟨X, 0, none⟩ = some (.slice (some ⟨g, 0, none⟩) m cv) := hSw.2.1.cell 0; go_simp
              try with_reducible rfl
            go_simp
            refine wpAnyH_take (i := 17) (v := ?_) rfl (by kernel_rfl) (by kernel_rfl) (by kernel_rfl) (fun _ _ _ h => h) (Or.inl ⟨by rfl, ?_⟩) HX.out ?_
            rotate_left
            · intro w' hSw; have hc0 : w'.cell? ⟨X, 0, none⟩ = some (.slice (some ⟨g, 0, none⟩) m cv) := hSw.2.1.cell 0; go_simp
              try with_reducible rfl
            go_simp
            refine wpAnyH_take (i := 18) (v := ?_) rfl (by kernel_rfl) (by kernel_rfl) (by kernel_rfl) (fun _ _ _ h => h) (Or.inl ⟨by rfl, ?_⟩) HX.out ?_
            rotate_left
            · intro w' hSw; have hc0 : w'.cell? ⟨X, 0, none⟩ = some (.slice (some ⟨g, 0, none⟩) m cv) := hSw.2.1.cell 0; go_simp
              try with_reducible rfl
            go_simp
            refine wpAnyH_take (i := 19) (v := ?_) rfl (by kernel_rfl) (by kernel_rfl) (by kernel_rfl) (fun _ _ _ h => h) (Or.inl ⟨by rfl, ?_⟩) HX.out ?_
            rotate_left
            · intro w' hSw; have hc0 : w'.cell? ⟨X, 0, none⟩ = some (.slice (some ⟨g, 0, none⟩) m cv) := hSw.2.1.cell 0; go_simp
              try with_reducible rfl
            go_simp
            refine wpAnyH_take (i := 20) (v := undef) rfl (by kernel_rfl) (by kernel_rfl) (by kernel_rfl) (fun _ _ _ h => h) (Or.inr ⟨by rfl, rfl⟩) HX.out ?_
            go_simp
            refine wpAnyH_take (i := 21) (v := undef) rfl (by kernel_rfl) (by kernel_rfl) (by kernel_rfl) (fun _ _ _ h => h) (Or.inr ⟨by rfl, rfl⟩) HX.out ?_
            go_simp
            refine wpAnyH_take (i := 22) (v := undef) rfl (by kernel_rfl) (by kernel_rfl) (by kernel_rfl) (fun _ _ _ h => h) (Or.inr ⟨by rfl, rfl⟩) HX.out ?_
            go_simp
            refine wpAnyH_take (i := 23) (v := ?_) rfl (by kernel_rfl) (by kernel_rfl) (by kernel_rfl) (fun _ _ _ h => h) (Or.inl ⟨by rfl, ?_⟩) HX.out ?_
            rotate_left
            · intro w' hSw; have hc0 : w'.cell? ⟨X, 0, none⟩ = some (.slice (some ⟨g, 0, none⟩) m cv) := hSw.2.1.cell 0; go_simp
              try with_reducible rfl
            go_simp
            refine wpAnyH_take (i := 24) (v := ?_) rfl (by kernel_rfl) (by kernel_rfl) (by kernel_rfl) (fun _ _ _ h => h) (Or.inl ⟨by rfl, ?_⟩) HX.out ?_
            rotate_left
            · intro w' hSw; have hc0 : w'.cell? ⟨X, 0, none⟩ = some (.slice (some ⟨g, 0, none⟩) m cv) := hSw.2.1.cell 0; go_simp
              try with_reducible rfl
            go_simp
            refine wpAnyH_done (by kernel_rfl) ?_ _
            have HOK0 := Lib.hid (show okSk { sF with l := [], total := 0 } from ⟨HOF.out.1, Nat.zero_le _, (fun x hx => by cases hx), Int.le_refl 0, show (0 : Int) ≤ 4611686018427387904 by decide⟩)
            go_wp2_with fail
            refine (skReset_w S Lb m sF _ HSd.out).mono ?_
            rintro e we ⟨rfl, hse, hue⟩
            have HSe := Lib.hid hse
            have HBe := Lib.hid (bl_upd2 HBd.out hue hwS hwL)
            clear hse hue
            go_wp2_with fail
            refine (skSlots_w S Lb 0 _ HOK0.out _ HSe.out).mono ?_
            rintro e wf ⟨v5, rfl, ho5, hb5⟩
            obtain ⟨A5, c5, rfl, hmc5, _, _⟩ := own_read ho5 HOK0.out.px
            have HSf := Lib.hid (HSe.out.below hb5)
            have HBf := Lib.hid (bl_next HBe.out hb5)
            clear ho5 hb5
            go_wp2_with fail
            refine (skTotal_w S Lb 0 _ _ HSf.out).mono ?_
            rintro e w' ⟨rfl, rfl⟩
            go_wp2
            go_ret
            exact ⟨rfl, bl_next HBW.out HBf.out⟩
          · have hfv : fndV sF.l p = -1 := by unfold fndV; rw [if_neg hmem]
            have HFV := Lib.hid hfv
            refine (getNo_w S Lb m sF HOF.out p hp _ HSK.out hmem).mono ?_
            rintro e wa ⟨rfl, hba⟩
            have HSa := Lib.hid (HSK.out.below hba)
            have HXa := Lib.hid (HXB.out.below hba)
            have HVa := Lib.hid (HRV.out.below hba)
            have HBa := Lib.hid (bl_next HBL.out hba)
            have HBXa := Lib.hid (HBX.out.below hba)
            clear hba
            go_wp2_with (first
              | (refine store_obj rfl 32 (.tmp 15) (.tmp 141) rfl wa.heap.size 32 _ #[.bool false, .int .u8 0, .int .u8 0, .int .u8 0, .int .u8 0, .int .u8 0, .int .u8 0, .int .u8 0, .int .i64 0, .int .i64 0] rfl rfl (Obj1.new _ _ _) rfl rfl (all_oneCell_toArray (sloC_one ⟨⟨false, [0, 0, 0, 0, 0, 0, 0]⟩, 0, 0⟩)) ?_; intro wb hob hup; have hbb := bl_upd (bl_alloc (Below.refl wa.heap.size wa) _) hup (Nat.le_refl _); have HZb := Lib.hid hob; have HSb := Lib.hid (HSa.out.below hbb); have HXb := Lib.hid (HXa.out.below hbb); have HVb := Lib.hid (HVa.out.below hbb); have HBXb := Lib.hid (HBXa.out.below hbb); have HBb := Lib.hid (bl_next HBa.out hbb); clear hob hup hbb)
              | (refine load_obj rfl 50 (.tmp 9) rfl X 50 (refC v sF) _ rfl HXb.out Try.underlying50 rfl rfl ?_)
              | (refine load_obj rfl 30 (.tmp 5) rfl w0.heap.size 30 (pxC p).toArray _ rfl HBXb.out Try.underlying30 rfl HPA.out ?_))
            refine (refFind_w B0 v sF p HOF.out.px (by have h1 := HOF.out.2.1; have h2 := HOF.out.1.2; omega) hp _ HVb.out).mono ?_
            rintro e wc ⟨rfl, hbc⟩
            rw [HFV.out]
            have HSc := Lib.hid (HSb.out.below hbc)
            have HXc := Lib.hid (HXb.out.below hbc)
            have HVc := Lib.hid (HVb.out.below hbc)
            have HBc := Lib.hid (bl_next HBb.out hbc)
            have HZc := Lib.hid (HZb.out.below hbc)
            clear hbc
            generalize hZ : wa.heap.size = Zb at HZb HZc ⊢
            clear hZ
            go_wp2_with fail
            refine wp_region_held_drew (S := (fun w' => Obj1 w' Zb #[.bool false, .int .u8 0, .int .u8 0, .int .u8 0, .int .u8 0, .int .u8 0, .int .u8 0, .int .u8 0, .int .i64 0, .int .i64 0] 32 ∧ Obj1 w' X (refC v sF) 50)) (by kernel_rfl) (⟨HZc.out, HXc.out⟩) (fun hHeld => ?_)
            generalize hW0 : World.drew _ = W0 at hHeld ⊢
            have HSd := Lib.hid (show SkO W0 S Lb m sF by rw [← hW0]; exact HSc.out)
            have HBd := Lib.hid (show Below w.heap.size w W0 by rw [← hW0]; exact bl_drewN HBc.out 1)
            have HX := Lib.hid hHeld
            clear hW0 hHeld
            refine wpAnyH_take (i := 0) (v := ?_) rfl (by kernel_rfl) (by kernel_rfl) (by kernel_rfl) (fun _ _ _ h => h) (Or.inl ⟨by rfl, ?_⟩) HX.out ?_
            rotate_left
            · intro w' hSw; go_simp
              try with_reducible rfl
            go_simp
            refine wpAnyH_take (i := 1) (v := ?_) rfl (by kernel_rfl) (by kernel_rfl) (by kernel_rfl) (fun _ _ _ h => h) (Or.inl ⟨by rfl, ?_⟩) HX.out ?_
            rotate_left
            · intro w' hSw; go_simp
              try with_reducible rfl
            go_simp
            refine wpAnyH_take (i := 2) (v := ?_) rfl (by kernel_rfl) (by kernel_rfl) (by kernel_rfl) (fun _ _ _ h => h) (Or.inl ⟨by rfl, ?_⟩) HX.out ?_
            rotate_left
            · intro w' hSw; go_simp
              try with_reducible rfl
            go_simp
            refine wpAnyH_take (i := 3) (v := ?_) rfl (by kernel_rfl) (by kernel_rfl) (by kernel_rfl) (fun _ _ _ h => h) (Or.inl ⟨by rfl, ?_⟩) HX.out ?_
            rotate_left
            · intro w' hSw; go_simp
              try with_reducible rfl
            go_simp
            refine wpAnyH_take (i := 4) (v := ?_) rfl (by kernel_rfl) (by kernel_rfl) (by kernel_rfl) (fun _ _ _ h => h) (Or.inl ⟨by rfl, ?_⟩) HX.out ?_
            rotate_left
            · intro w' hSw; go_simp
              try with_reducible rfl
            go_simp
            refine wpAnyH_take (i := 5) (v := ?_) rfl (by kernel_rfl) (by kernel_rfl) (by kernel_rfl) (fun _ _ _ h => h) (Or.inl ⟨by rfl, ?_⟩) HX.out ?_
            rotate_left
            · intro w' hSw; go_simp
              try with_reducible rfl
            go_simp
            refine wpAnyH_take (i := 6) (v := ?_) rfl (by kernel_rfl) (by kernel_rfl) (by kernel_rfl) (fun _ _ _ h => h) (Or.inl ⟨by rfl, ?_⟩) HX.out ?_
            rotate_left
            · intro w' hSw; go_simp
              try with_reducible rfl
            go_simp
            refine wpAnyH_take (i := 7) (v := undef) rfl (by kernel_rfl) (by kernel_rfl) (by kernel_rfl) (fun _ _ _ h => h) (Or.inr ⟨by rfl, rfl⟩) HX.out ?_
            go_simp
            refine wpAnyH_take (i := 8) (v := undef) rfl (by kernel_rfl) (by kernel_rfl) (by kernel_rfl) (fun _ _ _ h => h) (Or.inr ⟨by rfl, rfl⟩) HX.out ?_
            go_simp
            refine wpAnyH_take (i := 9) (v := undef) rfl (by kernel_rfl) (by kernel_rfl) (by kernel_rfl) (fun _ _ _ h => h) (Or.inr ⟨by rfl, rfl⟩) HX.out ?_
            go_simp
            refine wpAnyH_take (i := 10) (v := undef) rfl (by kernel_rfl) (by kernel_rfl) (by kernel_rfl) (fun _ _ _ h => h) (Or.inr ⟨by rfl, rfl⟩) HX.out ?_
            go_simp
            refine wpAnyH_take (i := 11) (v := undef) rfl (by kernel_rfl) (by kernel_rfl) (by kernel_rfl) (fun _ _ _ h => h) (Or.inr ⟨by rfl, rfl⟩) HX.out ?_
            go_simp
            refine wpAnyH_take (i := 12) (v := undef) rfl (by kernel_rfl) (by kernel_rfl) (by kernel_rfl) (fun _ _ _ h => h) (Or.inr ⟨by rfl, rfl⟩) HX.out ?_
            go_simp
            refine wpAnyH_take (i := 13) (v := undef) rfl (by kernel_rfl) (by kernel_rfl) (by kernel_rfl) (fun _ _ _ h => h) (Or.inr ⟨by rfl, rfl⟩) HX.out ?_
            go_simp
            refine wpAnyH_take (i := 14) (v := ?_) rfl (by kernel_rfl) (by kernel_rfl) (by kernel_rfl) (fun _ _ _ h => h) (Or.inl ⟨by rfl, ?_⟩) HX.out ?_
            rotate_left
            · intro w' hSw; go_simp
              try with_reducible rfl
            go_simp
            refine wpAnyH_take (i := 15) (v := ?_) rfl (by kernel_rfl) (by kernel_rfl) (by kernel_rfl) (fun _ _ _ h => h) (Or.inl ⟨by rfl, ?_⟩) HX.out ?_
            rotate_left
            · intro w' hSw; go_simp
              try with_reducible rfl
            go_simp
            refine wpAnyH_take (i := 16) (v := ?_) rfl (by kernel_rfl) (by kernel_rfl) (by kernel_rfl) (fun _ _ _ h => h) (Or.inl ⟨by rfl, ?_⟩) HX.out ?_
            rotate_left
            · intro w' hSw; go_simp
              try with_reducible rfl
            go_simp
            refine wpAnyH_take (i := 17) (v := ?_) rfl (by kernel_rfl) (by kernel_rfl) (by kernel_rfl) (fun _ _ _ h => h) (Or.inl ⟨by rfl, ?_⟩) HX.out ?_
            rotate_left
            · intro w' hSw; go_simp
              try with_reducible rfl
            go_simp
            refine wpAnyH_take (i := 18) (v := ?_) rfl (by kernel_rfl) (by kernel_rfl) (by kernel_rfl) (fun _ _ _ h => h) (Or.inl ⟨by rfl, ?_⟩) HX.out ?_
            rotate_left
            · intro w' hSw; go_simp
              try with_reducible rfl
            go_simp
            refine wpAnyH_take (i := 19) (v := ?_) rfl (by kernel_rfl) (by kernel_rfl) (by kernel_rfl) (fun _ _ _ h => h) (Or.inl ⟨by rfl, ?_⟩) HX.out ?_
            rotate_left
            · intro w' hSw; go_simp
              try with_reducible rfl
            go_simp
            refine wpAnyH_take (i := 20) (v := .agg #[.bool false, .int .u8 0, .int .u8 0, .int .u8 0, .int .u8 0, .int .u8 0, .int .u8 0, .int .u8 0, .int .i64 0, .int .i64 0]) rfl (by kernel_rfl) (by kernel_rfl) (by kernel_rfl) (fun _ _ _ h => h) (Or.inl ⟨by rfl, ?_⟩) HX.out ?_
            · intro w' hSw
              have hld := run_loadVar_row (P := Try.prog) w' (Zb) 32 32 #[.bool false, .int .u8 0, .int .u8 0, .int .u8 0, .int .u8 0, .int .u8 0, .int .u8 0, .int .u8 0, .int .i64 0, .int .i64 0] (0, 0) _ hSw.1 Try.underlying32 rfl rfl
              simp [execOp, Act.eval, Instr.loadAt, Instr.sureAddr, Sem.run_bind, hld, Result.andThen]
            go_simp
            refine wpAnyH_take (i := 21) (v := ?_) rfl (by kernel_rfl) (by kernel_rfl) (by kernel_rfl) (fun _ _ _ h => h) (Or.inl ⟨by rfl, ?_⟩) HX.out ?_
            rotate_left
            · intro w' hSw; go_simp
              try with_reducible rfl
            go_simp
            refine wpAnyH_take (i := 22) (v := .bool false) rfl (by kernel_rfl) (by kernel_rfl) (by kernel_rfl) (fun _ _ _ h => h) (Or.inl ⟨by rfl, ?_⟩) HX.out ?_
            · intro w' hSw
              exact exec_neq 32 32 (.tmp 166) (.tmp 167) rfl _ _ rfl rfl true (by kernel_rfl) (eq_zero w')
            go_simp
            refine wpAnyH_take (i := 23) (v := ?_) rfl (by kernel_rfl) (by kernel_rfl) (by kernel_rfl) (fun _ _ _ h => h) (Or.inl ⟨by rfl, ?_⟩) HX.out ?_
            rotate_left
            · intro w' hSw; go_simp
              try with_reducible rfl
            go_simp
            refine wpAnyH_take (i := 24) (v := ?_) rfl (by kernel_rfl) (by kernel_rfl) (by kernel_rfl) (fun _ _ _ h => h) (Or.inl ⟨by rfl, ?_⟩) HX.out ?_
            rotate_left
            · intro w' hSw; go_simp
              try with_reducible rfl
            go_simp
            refine wpAnyH_done (by kernel_rfl) ?_ _
            have HOK0 := Lib.hid (show okSk { sF with l := [], total := 0 } from ⟨HOF.out.1, Nat.zero_le _, (fun x hx => by cases hx), Int.le_refl 0, show (0 : Int) ≤ 4611686018427387904 by decide⟩)
            go_wp2_with fail
            refine (skReset_w S Lb m sF _ HSd.out).mono ?_
            rintro e we ⟨rfl, hse, hue⟩
            have HSe := Lib.hid hse
            have HBe := Lib.hid (bl_upd2 HBd.out hue hwS hwL)
            clear hse hue
            go_wp2_with fail
            refine (skSlots_w S Lb 0 _ HOK0.out _ HSe.out).mono ?_
            rintro e wf ⟨v5, rfl, ho5, hb5⟩
            obtain ⟨A5, c5, rfl, hmc5, _, _⟩ := own_read ho5 HOK0.out.px
            have HSf := Lib.hid (HSe.out.below hb5)
            have HBf := Lib.hid (bl_next HBe.out hb5)
            clear ho5 hb5
            go_wp2_with fail
            refine (skTotal_w S Lb 0 _ _ HSf.out).mono ?_
            rintro e w' ⟨rfl, rfl⟩
            go_wp2
            go_ret
            exact ⟨rfl, bl_next HBW.out HBf.out⟩
    · have hbad : slots < 1 ∨ 64 < slots := by omega
      go_wp2_with fail
      refine (skNewBad_w slots hbad _).mono ?_
      rintro e w2 ⟨rfl, hb2⟩
      have HB2 := Lib.hid (bl_next HB1.out hb2)
      have HP2 := Lib.hid (HP1.out.below hb2)
      clear hb2
      by_cases hs1 : slots < 1
      · have d1 : decide (slots < 1) = true := decide_eq_true hs1
        go_wp2_with (refine load_obj_gR (by rfl) 30 (.tmp 5) rfl w0.heap.size 30 (pxC p).toArray _ rfl HP2.out Try.underlying30 rfl HPA.out ?_)
        refine (skAddNil_w (pxC p).toArray 1 _).mono ?_
        rintro e w3 ⟨rfl, hb3⟩
        have HB3 := Lib.hid (bl_next HB2.out hb3)
        clear hb3
        go_wp2_with (refine eq_list_g (by rfl) 32 32 (.tmp 46) (.tmp 47) rfl #[.bool false, .int .u8 0, .int .u8 0, .int .u8 0, .int .u8 0, .int .u8 0, .int .u8 0, .int .u8 0, .int .i64 0, .int .i64 0] #[.bool false, .int .u8 0, .int .u8 0, .int .u8 0, .int .u8 0, .int .u8 0, .int .u8 0, .int .u8 0, .int .i64 0, .int .i64 0] rfl rfl true (by kernel_rfl) (eq_zero _) ?_)
        refine (skSlotsNil_w _).mono ?_
        rintro e w' ⟨rfl, rfl⟩
        go_wp2_with fail
        refine (skTotalNil_w _).mono ?_
        rintro e w' ⟨rfl, rfl⟩
        go_wp2
        go_ret
        exact ⟨rfl, bl_next HBW.out HB3.out⟩
      · have d1 : decide (slots < 1) = false := decide_eq_false hs1
        have d2 : (64 : Int) < slots := by omega
        go_wp2_with (refine load_obj_gR (by rfl) 30 (.tmp 5) rfl w0.heap.size 30 (pxC p).toArray _ rfl HP2.out Try.underlying30 rfl HPA.out ?_)
        refine (skAddNil_w (pxC p).toArray 1 _).mono ?_
        rintro e w3 ⟨rfl, hb3⟩
        have HB3 := Lib.hid (bl_next HB2.out hb3)
        clear hb3
        go_wp2_with (refine eq_list_g (by rfl) 32 32 (.tmp 46) (.tmp 47) rfl #[.bool false, .int .u8 0, .int .u8 0, .int .u8 0, .int .u8 0, .int .u8 0, .int .u8 0, .int .u8 0, .int .i64 0, .int .i64 0] #[.bool false, .int .u8 0, .int .u8 0, .int .u8 0, .int .u8 0, .int .u8 0, .int .u8 0, .int .u8 0, .int .i64 0, .int .i64 0] rfl rfl true (by kernel_rfl) (eq_zero _) ?_)
        refine (skSlotsNil_w _).mono ?_
        rintro e w' ⟨rfl, rfl⟩
        go_wp2_with fail
        refine (skTotalNil_w _).mono ?_
        rintro e w' ⟨rfl, rfl⟩
        go_wp2
        go_ret
        exact ⟨rfl, bl_next HBW.out HB3.out⟩
theorem SketchPlays_w (slots : Int) (A : Option Addr) (n c : Nat) (rows : List (List Value)) (cs : Array Value) (w : World) (hs : (Lit.int .i64 slots).wf = true) (h : SlP snKs w A n c rows) (hcs : okCells pxKs cs.toList) :
    Calls Try.prog 7 #[.int .i64 slots, .slice A n c, .agg cs] w fun e w' => e = .returned (.bool true) ∧ Below w.heap.size w w' := by
  obtain ⟨L, h1, h2, h3, h4⟩ := h.seen
  obtain ⟨p, hp, rfl⟩ := pxA_of hcs
  exact SketchPlays_x slots (i64_range hs) p hp A n c L h1 h2 h3 w h4
end Go.Proofs.Ytdmfmanmhlnleaa
