/- The walk of WindowBegins: it answers true. -/
import Derived.Test.YtdmfmanmhlnleaaWindowBackW
namespace Go.Proofs.Ytdmfmanmhlnleaa
open Go.RowKit
set_option linter.unusedVariables false
set_option linter.unusedSimpArgs false

/-- All is counted. -/
def wdRun (d : Wd) (L : List Sw) : Wd := L.foldl (fun d x => wdAdd d (x.now.tmod 1125899906842624) x.p x.n) d
theorem wdRun_step (d : Wd) {L : List Sw} {k : Nat} {x : Sw} (h : L[k]? = some x) : wdRun d (L.take (k + 1)) = wdAdd (wdRun d (L.take k)) (x.now.tmod 1125899906842624) x.p x.n := by
  rw [take_snoc h]
  unfold wdRun
  rw [List.foldl_append]
  rfl
theorem wdRun_ok {d : Wd} (h : okWd d) {L : List Sw} (hL : ∀ x ∈ L, okPx x.p) : okWd (wdRun d L) := by
  induction L generalizing d with
  | nil => exact h
  | cons x L ih => exact ih (wdAdd_ok h _ (hL x (by simp)) x.n) (fun y hy => hL y (by simp [hy]))
theorem tmod_le (a : Int) : a.tmod 1125899906842624 ≤ 1125899906842623 := by
  rcases Int.le_total 0 a with h | h
  · rw [Int.tmod_eq_emod_of_nonneg h]; omega
  · have : 0 ≤ -a := by omega
    have e : a.tmod 1125899906842624 = -((-a).tmod 1125899906842624) := by rw [Int.neg_tmod]; omega
    rw [e, Int.tmod_eq_emod_of_nonneg this]
    omega
theorem wdRun_num {d : Wd} (h : okWd d) (hn : d.num * d.ns ≤ 1125899906842623) {L : List Sw} (hL : ∀ x ∈ L, okPx x.p) : (wdRun d L).num * d.ns ≤ 1125899906842623 ∧ (wdRun d L).ns = d.ns ∧ (wdRun d L).thr = d.thr := by
  induction L generalizing d with
  | nil => exact ⟨hn, rfl, rfl⟩
  | cons x L ih =>
    have ht := wdTurn_ns d (x.now.tmod 1125899906842624)
    have h1 := ih (d := wdAdd d (x.now.tmod 1125899906842624) x.p x.n) (wdAdd_ok h _ (hL x (by simp)) x.n) (by
      show (wdTurn d (x.now.tmod 1125899906842624)).num * (wdTurn d (x.now.tmod 1125899906842624)).ns ≤ _
      rw [ht.1]
      unfold wdTurn
      split
      · show wdAt d _ * d.ns ≤ _
        unfold wdAt
        have hm := tmod_le x.now
        generalize hq : max 0 (min (x.now.tmod 1125899906842624) 4611686018427387903) = q
        have := Int.ediv_mul_le q (show d.ns ≠ 0 by have := h.2.1; omega)
        omega
      · exact hn) (fun y hy => hL y (by simp [hy]))
    have e1 : (wdAdd d (x.now.tmod 1125899906842624) x.p x.n).ns = d.ns := ht.1
    have e2 : (wdAdd d (x.now.tmod 1125899906842624) x.p x.n).thr = d.thr := ht.2
    rw [e1, e2] at h1
    exact h1
theorem sk_oneA {s : Sk} (hR : 1 ≤ s.room) (p : Px) (n : Int) (hl : s.l = []) (h : 0 ≤ n ∧ n ≤ 4611686018427387904) : (skAdd s p n).l = [⟨p, n, 0⟩] := by
  rw [skAdd_new n (by simp [hl, pxs]) (by simp [hl]; omega), plus_in (by omega) h.1 (by omega), Int.zero_add, hl]
  rfl
/-- The first one in a window is alone there. -/
theorem begins_law {d : Wd} (hd : okWd d) (hn : d.num * d.ns ≤ 1125899906842623) (ht : d.ns ≤ 1099511627776) (p : Px) (n : Int) (hnn : 0 ≤ n ∧ n ≤ 4294967295) :
    ∃ s1, s1.l = [⟨p, n, 0⟩] ∧ wdAdd d ((d.num + 1) * d.ns) p n = ⟨s1, d.ns, d.thr, d.num + 1⟩ ∧
      ∃ s2, s2.l = [⟨p, n + 1, 0⟩] ∧ wdAdd ⟨s1, d.ns, d.thr, d.num + 1⟩ ((d.num + 1) * d.ns + d.ns - 1) p 1 = ⟨s2, d.ns, d.thr, d.num + 1⟩ := by
  have h1 : 1 ≤ d.ns := hd.2.1.1
  have h0 : 0 ≤ d.num := hd.2.2.2.1
  have e0 : (d.num + 1) * d.ns = d.num * d.ns + d.ns := by rw [Int.add_mul, Int.one_mul]
  have hp0 : 0 ≤ d.num * d.ns := Int.mul_nonneg h0 (by omega)
  have a1 : wdAt d ((d.num + 1) * d.ns) = d.num + 1 := by
    rw [at_in (by omega) (by omega)]
    exact Int.mul_ediv_cancel _ (by omega)
  have t1 : wdTurn d ((d.num + 1) * d.ns) = ⟨{ d.s with l := [], total := 0 }, d.ns, d.thr, d.num + 1⟩ := by
    unfold wdTurn
    rw [a1, if_pos (by omega)]
  refine ⟨skAdd { d.s with l := [], total := 0 } p n, sk_oneA (by exact hd.1.1.1) p n rfl (by omega), by unfold wdAdd; rw [t1], ?_⟩
  have hs1 := sk_oneA (s := { d.s with l := [], total := 0 }) (by exact hd.1.1.1) p n rfl (by omega)
  generalize skAdd { d.s with l := [], total := 0 } p n = s1 at *
  have a2 : wdAt ⟨s1, d.ns, d.thr, d.num + 1⟩ ((d.num + 1) * d.ns + d.ns - 1) = d.num + 1 := by
    rw [at_in (by omega) (by omega)]
    show ((d.num + 1) * d.ns + d.ns - 1) / d.ns = d.num + 1
    rw [show (d.num + 1) * d.ns + d.ns - 1 = (d.ns - 1) + (d.num + 1) * d.ns by omega, Int.add_mul_ediv_right _ _ (by omega), Int.ediv_eq_zero_of_lt (by omega) (by omega), Int.zero_add]
  refine ⟨skAdd s1 p 1, sk_two hs1 (by omega) (by omega) (by omega), ?_⟩
  have t2 : wdTurn ⟨s1, d.ns, d.thr, d.num + 1⟩ ((d.num + 1) * d.ns + d.ns - 1) = ⟨s1, d.ns, d.thr, d.num + 1⟩ := by
    unfold wdTurn
    rw [a2, if_neg (by show ¬ d.num + 1 < d.num + 1; omega)]
  unfold wdAdd
  rw [t2]
theorem only_one {l : List Slo} {y x : Slo} {i : Nat} (h : l = [y]) (hx : l[i]? = some x) : x = y := by
  rw [h] at hx
  match i, hx with
  | 0, hx => simp at hx; exact hx.symm
theorem built_slotC {p : Px} (hp : okPx p) (c : Int) : Try.prog.built 32 [(0, .agg (pxC p).toArray), (1, .int .i64 c)] = some (sloC ⟨p, c, 0⟩).toArray := by
  obtain ⟨v, l⟩ := p
  obtain ⟨a, b, c, d, e, f, g, rfl⟩ := list7 hp.1
  kernel_rfl
set_option maxRecDepth 100000 in
set_option maxHeartbeats 8000000 in
theorem WindowBegins_x (sl ns : Int) (p : Px) (pn : Int) (hsl : 0 ≤ sl ∧ sl ≤ 255) (hns : 0 ≤ ns ∧ ns ≤ 18446744073709551615) (hp : okPx p) (hpn : 0 ≤ pn ∧ pn ≤ 4294967295) (A : Option Addr) (n c : Nat) (L : List Sw) (hLn : L.length = n) (hn63 : n ≤ 9223372036854775807) (hok : ∀ s ∈ L, okSw s) (w0 : World) (hrd : SwRd w0 A L) :
    Calls Try.prog 9 #[.int .u8 sl, .int .u64 ns, .slice A n c, .agg (pxC p).toArray, .int .u32 pn] w0 fun e w' => e = .returned (.bool true) ∧ Below w0.heap.size w0 w' := by
  have HLN := Lib.hid hLn
  have HOK := Lib.hid hok
  obtain ⟨b0, rfl⟩ := Int.eq_ofNat_of_zero_le hsl.1
  obtain ⟨r0, hr0⟩ : ∃ r0, r0 = b0 % 64 := ⟨_, rfl⟩
  obtain ⟨R, hR⟩ : ∃ R, R = 1 + r0 := ⟨_, rfl⟩
  have hRb : 1 ≤ R ∧ R ≤ 64 := by omega
  have b1 : IntKind.i64.wrap (b0 : Int) = (b0 : Int) := IntWalk.i64_in _ (by omega)
  have b2 : (b0 : Int).tmod 64 = (r0 : Int) := by rw [Int.tmod_eq_emod_of_nonneg (by omega)]; omega
  have b2' : (b0 : Int) % 64 = (r0 : Int) := by omega
  have b3 : IntKind.i64.wrap (1 + (r0 : Int)) = (R : Int) := by rw [show 1 + (r0 : Int) = (R : Int) by omega]; exact IntWalk.i64_in _ (by omega)
  obtain ⟨q1, hq1⟩ : ∃ q1, ns % 1099511627776 = q1 := ⟨_, rfl⟩
  have n1 : ns.tmod 1099511627776 = q1 := by rw [Int.tmod_eq_emod_of_nonneg hns.1]; exact hq1
  have n2 : IntKind.i64.wrap q1 = q1 := IntWalk.i64_in _ (by omega)
  obtain ⟨t, ht⟩ : ∃ t, 1 + q1 = t := ⟨_, rfl⟩
  have n3 : IntKind.i64.wrap (1 + q1) = t := by rw [ht]; exact IntWalk.i64_in _ (by omega)
  have htb : 1 ≤ t ∧ t ≤ 1099511627776 := by omega
  have n9 : IntKind.i64.wrap pn = pn := IntWalk.i64_in _ (by omega)
  obtain ⟨thr, hthr⟩ : ∃ thr, 1 + pn = thr := ⟨_, rfl⟩
  have n10 : IntKind.i64.wrap (1 + pn) = thr := by rw [hthr]; exact IntWalk.i64_in _ (by omega)
  have hthb : 1 ≤ thr ∧ thr ≤ 4611686018427387903 := by omega
  have HTHR := Lib.hid hthr
  have HPA := Lib.hid (px_sizeA hp)
  have hbw := bl_alloc (Below.refl w0.heap.size w0) (.cells (pxC p).toArray 30)
  have hpb := Obj1.new w0 (pxC p).toArray 30
  have hrd' := hrd.below hbw
  obtain ⟨w, hw⟩ : ∃ w, w = w0.alloc (.cells (pxC p).toArray 30) := ⟨_, rfl⟩
  rw [← hw] at hbw hpb hrd'
  have HBW := Lib.hid hbw
  have HPB := Lib.hid hpb
  have HRD := Lib.hid hrd'
  have HW := Lib.hid hw
  clear hbw hpb hrd' hw hLn hok hrd hr0 hR hq1 ht hthr
  go_enter Try.func9, Try.ntmps9
  go_wp2_with fail
  rw [← HW.out]
  refine (awake19_w _).mono ?_
  rintro e w1 ⟨rfl, hb1⟩
  have HB1 := Lib.hid hb1
  clear hb1
  by_cases hlim : 60 < n
  · have hlim' : (60 : Int) < (n : Int) := by omega
    go_wp2_with fail
    refine (awake19_w _).mono ?_
    rintro e w2 ⟨rfl, hb2⟩
    have HB2 := Lib.hid (bl_next HB1.out hb2)
    clear hb2
    go_wp2
    go_ret
    exact ⟨rfl, bl_next HBW.out HB2.out⟩
  · have hlim' : ¬ (60 : Int) < (n : Int) := by omega
    go_wp2_with fail
    refine (wdNew_w R hRb t thr (by omega) hthb _).mono ?_
    rintro e w2 ⟨B, S, Lb, rfl, hwL0, hLS, hSB, hW2, hb2⟩
    obtain ⟨d0, hd0⟩ : ∃ d0, d0 = wdNew R t thr := ⟨_, rfl⟩
    rw [← hd0] at hW2
    have O0 := Lib.hid (show okWd d0 by rw [hd0]; exact wdNew_ok hRb (by omega) hthb)
    have HT0 := Lib.hid (show d0.ns = t ∧ d0.thr = thr ∧ d0.num = 0 by rw [hd0]; exact ⟨rfl, rfl, rfl⟩)
    have HWN := Lib.hid (show WdO w2 B S Lb 0 (wdRun d0 (L.take 0)) from hW2)
    have HBN := Lib.hid (bl_next HB1.out hb2)
    have hwL : w.heap.size ≤ Lb := Nat.le_trans HB1.out.size hwL0
    have hwS : w.heap.size ≤ S := by omega
    have hwB : w.heap.size ≤ B := by omega
    clear hW2 hb2 hd0
    go_wp2_with fail
    go_loopw [44] (fun i wr => ∃ k m : Nat, k ≤ n ∧ i = .int .i64 k ∧ WdO wr B S Lb m (wdRun d0 (L.take k)) ∧ Below w.heap.size w wr) (fun i _ => n - (intOf i).toNat)
    case atStart => exact ⟨0, 0, Nat.zero_le _, rfl, HWN.out, HBN.out⟩
    case round =>
      obtain ⟨k, m, hk, rfl, hwd, hbel⟩ := hrel
      have HWD := Lib.hid hwd
      have HBL := Lib.hid hbel
      clear hwd hbel
      by_cases hlt : k < n
      · have hk0 : (0 : Int) ≤ (k : Int) := Int.natCast_nonneg k
        have hk1 : (k : Int) < (n : Int) := by omega
        obtain ⟨x, hx⟩ : ∃ x, L[k]? = some x := ⟨_, List.getElem?_eq_getElem (by have := HLN.out; omega)⟩
        obtain ⟨b, off, rfl, hcn, hcp, hcm⟩ := HRD.out k x hx
        have hxs : okSw x := HOK.out x (List.mem_of_getElem? hx)
        have hxp : okPx x.p := hxs.1
        have HCW := Lib.hid (And.intro hcp (And.intro hcm hcn))
        have HXL := Lib.hid hx
        have HPS := Lib.hid (px_size hxp)
        clear hx hcn hcp hcm
        have HSTEP := Lib.hid (wdRun_step d0 HXL.out)
        have hokk : okWd (wdRun d0 (L.take k)) := wdRun_ok O0.out (fun s hs => (HOK.out s (List.mem_of_mem_take hs)).1)
        obtain ⟨dk, hdk⟩ : ∃ dk, wdRun d0 (L.take k) = dk := ⟨_, rfl⟩
        rw [hdk] at HSTEP hokk HWD
        have HDK := Lib.hid hdk
        obtain ⟨tn, htn⟩ : ∃ tn, x.now.tmod 1125899906842624 = tn := ⟨_, rfl⟩
        rw [htn] at HSTEP
        clear hdk
        go_wp2_with fail
        refine wp_region_held_drew (S := (fun w' => CellsAt w' b (off + k * 10 + 1) (pxC x.p) ∧ w'.cell? ⟨b, off + k * 10 + 9, none⟩ = some (.int .i64 x.n) ∧ w'.cell? ⟨b, off + k * 10, none⟩ = some (.int .i64 x.now))) (by kernel_rfl) (⟨HCW.out.1.below (bl_drewN HBL.out 1), bl_keeps HBL.out HCW.out.2.1, bl_keeps HBL.out HCW.out.2.2⟩) (fun hHeld => ?_)
        generalize hW0 : World.drew _ = W0 at hHeld ⊢
        have HD0 := Lib.hid (show WdO W0 B S Lb m dk by rw [← hW0]; exact HWD.out)
        have HB0 := Lib.hid (show Below w.heap.size w W0 by rw [← hW0]; exact bl_drewN HBL.out 1)
        have HX := Lib.hid hHeld
        clear hW0 hHeld
        refine wpAnyH_take (i := 0) (v := ?_) rfl (by kernel_rfl) (by kernel_rfl) (by kernel_rfl) (fun _ _ _ h => h) (Or.inl ⟨by rfl, ?_⟩) HX.out ?_
        rotate_left
        · intro w hSw; have hSw2 := hSw.2.1; have hSw3 := hSw.2.2; go_simp
          try with_reducible rfl
        go_simp
        refine wpAnyH_take (i := 1) (v := ?_) rfl (by kernel_rfl) (by kernel_rfl) (by kernel_rfl) (fun _ _ _ h => h) (Or.inl ⟨by rfl, ?_⟩) HX.out ?_
        rotate_left
        · intro w hSw; have hSw2 := hSw.2.1; have hSw3 := hSw.2.2; go_simp
          try with_reducible rfl
        go_simp
        refine wpAnyH_take (i := 2) (v := ?_) rfl (by kernel_rfl) (by kernel_rfl) (by kernel_rfl) (fun _ _ _ h => h) (Or.inl ⟨by rfl, ?_⟩) HX.out ?_
        rotate_left
        · intro w hSw; have hSw2 := hSw.2.1; have hSw3 := hSw.2.2; go_simp
          try with_reducible rfl
        go_simp
        refine wpAnyH_take (i := 3) (v := ?_) rfl (by kernel_rfl) (by kernel_rfl) (by kernel_rfl) (fun _ _ _ h => h) (Or.inl ⟨by rfl, ?_⟩) HX.out ?_
        rotate_left
        · intro w hSw; have hSw2 := hSw.2.1; have hSw3 := hSw.2.2; go_simp
          try with_reducible rfl
        go_simp
        refine wpAnyH_take (i := 4) (v := ?_) rfl (by kernel_rfl) (by kernel_rfl) (by kernel_rfl) (fun _ _ _ h => h) (Or.inl ⟨by rfl, ?_⟩) HX.out ?_
        rotate_left
        · intro w hSw; have hSw2 := hSw.2.1; have hSw3 := hSw.2.2; go_simp
          try with_reducible rfl
        go_simp
        refine wpAnyH_take (i := 5) (v := ?_) rfl (by kernel_rfl) (by kernel_rfl) (by kernel_rfl) (fun _ _ _ h => h) (Or.inl ⟨by rfl, ?_⟩) HX.out ?_
        rotate_left
        · intro w hSw; have hSw2 := hSw.2.1; have hSw3 := hSw.2.2; go_simp
          try with_reducible rfl
        go_simp
        refine wpAnyH_take (i := 6) (v := ?_) rfl (by kernel_rfl) (by kernel_rfl) (by kernel_rfl) (fun _ _ _ h => h) (Or.inl ⟨by rfl, ?_⟩) HX.out ?_
        rotate_left
        · intro w hSw; have hSw2 := hSw.2.1; have hSw3 := hSw.2.2; go_simp
          try with_reducible rfl
        go_simp
        refine wpAnyH_take (i := 7) (v := ?_) rfl (by kernel_rfl) (by kernel_rfl) (by kernel_rfl) (fun _ _ _ h => h) (Or.inl ⟨by rfl, ?_⟩) HX.out ?_
        rotate_left
        · intro w hSw; have hSw2 := hSw.2.1; have hSw3 := hSw.2.2; go_simp
          try with_reducible rfl
        go_simp
        refine wpAnyH_take (i := 8) (v := ?_) rfl (by kernel_rfl) (by kernel_rfl) (by kernel_rfl) (fun _ _ _ h => h) (Or.inl ⟨by rfl, ?_⟩) HX.out ?_
        rotate_left
        · intro w hSw; have hSw2 := hSw.2.1; have hSw3 := hSw.2.2; go_simp
          try with_reducible rfl
        go_simp
        refine wpAnyH_take (i := 9) (v := ?_) rfl (by kernel_rfl) (by kernel_rfl) (by kernel_rfl) (fun _ _ _ h => h) (Or.inl ⟨by rfl, ?_⟩) HX.out ?_
        rotate_left
        · intro w hSw; have hSw2 := hSw.2.1; have hSw3 := hSw.2.2; go_simp
          try with_reducible rfl
        go_simp
        refine wpAnyH_take (i := 10) (v := ?_) rfl (by kernel_rfl) (by kernel_rfl) (by kernel_rfl) (fun _ _ _ h => h) (Or.inl ⟨by rfl, ?_⟩) HX.out ?_
        rotate_left
        · intro w hSw; have hSw2 := hSw.2.1; have hSw3 := hSw.2.2; go_simp
          try with_reducible rfl
        go_simp
        refine wpAnyH_take (i := 11) (v := .agg (pxC x.p).toArray) rfl (by kernel_rfl) (by kernel_rfl) (by kernel_rfl) (fun _ _ _ h => h) (Or.inl ⟨by rfl, ?_⟩) HX.out ?_
        · intro w' hSw
          have hld := run_loadVar_cells (P := Try.prog) w' ⟨b, off + k * 10 + 1, none⟩ 30 (pxC x.p) _ hSw.1 Try.underlying30 rfl HPS.out
          simp [execOp, Act.eval, Instr.loadAt, Instr.sureAddr, Sem.run_bind, hld, Result.andThen]
        go_simp
        refine wpAnyH_take (i := 12) (v := ?_) rfl (by kernel_rfl) (by kernel_rfl) (by kernel_rfl) (fun _ _ _ h => h) (Or.inl ⟨by rfl, ?_⟩) HX.out ?_
        rotate_left
        · intro w hSw; have hSw2 := hSw.2.1; have hSw3 := hSw.2.2; go_simp
          try with_reducible rfl
        go_simp
        refine wpAnyH_take (i := 13) (v := ?_) rfl (by kernel_rfl) (by kernel_rfl) (by kernel_rfl) (fun _ _ _ h => h) (Or.inl ⟨by rfl, ?_⟩) HX.out ?_
        rotate_left
        · intro w hSw; have hSw2 := hSw.2.1; have hSw3 := hSw.2.2; go_simp
          try with_reducible rfl
        go_simp
        refine wpAnyH_take (i := 14) (v := ?_) rfl (by kernel_rfl) (by kernel_rfl) (by kernel_rfl) (fun _ _ _ h => h) (Or.inl ⟨by rfl, ?_⟩) HX.out ?_
        rotate_left
        · intro w hSw; have hSw2 := hSw.2.1; have hSw3 := hSw.2.2; go_simp
          try with_reducible rfl
        go_simp
        refine wpAnyH_take (i := 15) (v := ?_) rfl (by kernel_rfl) (by kernel_rfl) (by kernel_rfl) (fun _ _ _ h => h) (Or.inl ⟨by rfl, ?_⟩) HX.out ?_
        rotate_left
        · intro w hSw; have hSw2 := hSw.2.1; have hSw3 := hSw.2.2; go_simp
          try with_reducible rfl
        go_simp
        refine wpAnyH_take (i := 16) (v := ?_) rfl (by kernel_rfl) (by kernel_rfl) (by kernel_rfl) (fun _ _ _ h => h) (Or.inl ⟨by rfl, ?_⟩) HX.out ?_
        rotate_left
        · intro w hSw; have hSw2 := hSw.2.1; have hSw3 := hSw.2.2; go_simp
          try with_reducible rfl
        go_simp
        refine wpAnyH_ready (rs := [17]) (by kernel_rfl) (by simp) ?_
        refine AllReadyH.cons rfl (fun K hK => ?_) AllReadyH.nil
        go_simp
        refine (wdAdd_w B S Lb m dk hokk tn x.p hxp x.n _ HD0.out).mono ?_
        rintro e w5 ⟨y5, m5, _, rfl, hW5, hu5⟩
        dsimp only
        have HW5 := Lib.hid hW5
        have HB5 := Lib.hid (bl_upd3 HB0.out hu5 hwB hwS hwL)
        clear hW5 hu5
        refine hK.out _ _ ⟨HCW.out.1.below HB5.out, bl_keeps HB5.out HCW.out.2.1, bl_keeps HB5.out HCW.out.2.2⟩ (fun hHeld => ?_)
        clear hK K hHeld
        refine wpAnyH_done (by kernel_rfl) ?_ _
        go_wp2_with fail
        go_roundw
        case rel => exact ⟨k + 1, m5, by omega, by go_num, by rw [HSTEP.out]; exact HW5.out, HB5.out⟩
        case measure => simp [intOf]; omega
      · have hk1 : ¬ (k : Int) < (n : Int) := by omega
        have hkn : L.take k = L := List.take_of_length_le (by have := HLN.out; omega)
        rw [hkn] at HWD
        have hokd : okWd (wdRun d0 L) := wdRun_ok O0.out (fun s hs => (HOK.out s hs).1)
        have hnum := wdRun_num O0.out (by rw [HT0.out.2.2]; omega) (L := L) (fun s hs => (HOK.out s hs).1)
        rw [HT0.out.1, HT0.out.2.1] at hnum
        obtain ⟨d, hd⟩ : ∃ d, wdRun d0 L = d := ⟨_, rfl⟩
        rw [hd] at HWD hokd hnum
        obtain ⟨s1, hs1, hd1, s2, hs2, hd2⟩ := begins_law hokd (by rw [hnum.2.1]; exact hnum.1) (by rw [hnum.2.1]; omega) p pn hpn
        rw [hnum.2.1, hnum.2.2] at hd1 hd2
        obtain ⟨N, hN⟩ : ∃ N, d.num + 1 = N := ⟨_, rfl⟩
        have hN0 : 1 ≤ N := by have := hokd.2.2.2.1; omega
        have hNt : N * t ≤ 1125899906842623 + t := by rw [← hN, Int.add_mul, Int.one_mul]; omega
        have hNt0 : 0 ≤ N * t := Int.mul_nonneg (by omega) (by omega)
        have hdn : d.num ≤ 1125899906842623 := by
          have h1 : d.num * 1 ≤ d.num * t := Int.mul_le_mul_of_nonneg_left (by omega) hokd.2.2.2.1
          omega
        rw [hN] at hd1 hd2
        have a1 : IntKind.i64.wrap (d.num + 1) = N := by rw [hN]; exact IntWalk.i64_in _ (by omega)
        obtain ⟨M, hM⟩ : ∃ M, N * t = M := ⟨_, rfl⟩
        rw [hM] at hd1 hd2 hNt hNt0
        have a2 : IntKind.i64.wrap (N * t) = M := by rw [hM]; exact IntWalk.i64_in _ (by omega)
        have a3 : IntKind.i64.wrap (M + t) = M + t := IntWalk.i64_in _ (by omega)
        have a4 : IntKind.i64.wrap (M + t - 1) = M + t - 1 := IntWalk.i64_in _ (by omega)
        have HOKD := Lib.hid hokd
        have HS1 := Lib.hid hs1
        have HS2 := Lib.hid hs2
        have HD1 := Lib.hid hd1
        have HD2 := Lib.hid hd2
        clear hkn hnum hd hN hM hs1 hs2 hd1 hd2 hokd
        go_wp2_with fail
        refine (wdNumber_w B S Lb m d _ HWD.out).mono ?_
        rintro e w' ⟨rfl, rfl⟩
        have HPBr := Lib.hid (HPB.out.below HBL.out)
        go_wp2_with (refine load_obj rfl 30 (.tmp 8) rfl w0.heap.size 30 (pxC p).toArray _ rfl HPBr.out Try.underlying30 rfl HPA.out ?_)
        refine (wdAdd_w B S Lb m d HOKD.out M p hp pn _ HWD.out).mono ?_
        rintro e w5 ⟨x5, m5, hx5, rfl, hW5, hu5⟩
        have hO1 := wdAdd_ok HOKD.out M hp pn
        rw [HD1.out] at hx5 hW5 hO1
        have hx5e : x5 = ⟨p, pn, 0⟩ := only_one HS1.out hx5
        subst hx5e
        have hthd : d.thr = thr := by have := congrArg Wd.thr HD1.out; exact (wdTurn_ns d M).2.symm.trans this
        rw [hthd]
        have hheavy : decide (thr ≤ pn - 0) = false := decide_eq_false (by have := HTHR.out; omega)
        rw [hheavy]
        have HW5 := Lib.hid hW5
        have HO1 := Lib.hid hO1
        have HB5 := Lib.hid (bl_upd3 HBL.out hu5 hwB hwS hwL)
        clear hW5 hu5 hx5 hO1 hheavy hthd
        go_wp2_with fail
        refine (wdSlots_w B S Lb m5 _ HO1.out.1 _ HW5.out).mono ?_
        rintro e w6 ⟨v6, rfl, ho6, hb6⟩
        obtain ⟨A6, c6, rfl, hmc6, hlm6, hrd6⟩ := own_read ho6 HO1.out.1.px
        have hm1 : m5 = 1 := by rw [← hlm6]; show s1.l.length = 1; rw [HS1.out]; rfl
        subst hm1
        obtain ⟨g, hg6, rfl, hc6⟩ := hrd6 0 ⟨p, pn, 0⟩ (by show s1.l[0]? = _; rw [HS1.out]; rfl)
        have HW6 := Lib.hid (HW5.out.below hb6)
        have HB6 := Lib.hid (bl_next HB5.out hb6)
        have HC6 := Lib.hid (show CellsAt w6 g 0 (sloC ⟨p, pn, 0⟩) from fun q u hq => by have := hc6 q u hq; rwa [Nat.zero_mul] at this)
        have HGN := Lib.hid (show B < g ∧ S < g ∧ Lb < g from ⟨Nat.lt_of_lt_of_le HW5.out.1.lt hg6, Nat.lt_of_lt_of_le HW5.out.2.2.1.lt hg6, Nat.lt_of_lt_of_le HW5.out.2.2.2.lt hg6⟩)
        have hyo : okSlo ⟨p, pn, 0⟩ := ⟨hp, (by show 0 ≤ pn ∧ pn ≤ 4611686018427387904; omega), (by show (0 : Int) ≤ 0 ∧ (0 : Int) ≤ 4611686018427387904; omega)⟩
        have HYS := Lib.hid (slo_size (s := ⟨p, pn, 0⟩) hp)
        clear ho6 hb6 hrd6 hc6 hlm6 hg6
        go_wp2_with fail
        refine wp_region_held_drew (S := (fun w' => Obj1 w' w0.heap.size (pxC p).toArray 30 ∧ CellsAt w' g 0 (sloC ⟨p, pn, 0⟩))) (by kernel_rfl) (⟨HPB.out.below (bl_drewN HB6.out 1), fun q u hq => HC6.out q u hq⟩) (fun hHeld => ?_)
        generalize hW0 : World.drew _ = W0 at hHeld ⊢
        have HD0 := Lib.hid (show WdO W0 B S Lb 1 ⟨s1, t, thr, N⟩ by rw [← hW0]; exact HW6.out)
        have HB0 := Lib.hid (show Below w.heap.size w W0 by rw [← hW0]; exact bl_drewN HB6.out 1)
        have HX := Lib.hid hHeld
        clear hW0 hHeld
        refine wpAnyH_take (i := 0) (v := ?_) rfl (by kernel_rfl) (by kernel_rfl) (by kernel_rfl) (fun _ _ _ h => h) (Or.inl ⟨by rfl, ?_⟩) HX.out ?_
        rotate_left
        · intro w hSw; have hSw2 := hSw.2; go_simp
          try with_reducible rfl
        go_simp
        refine wpAnyH_take (i := 1) (v := ?_) rfl (by kernel_rfl) (by kernel_rfl) (by kernel_rfl) (fun _ _ _ h => h) (Or.inl ⟨by rfl, ?_⟩) HX.out ?_
        rotate_left
        · intro w hSw; have hSw2 := hSw.2; go_simp
          try with_reducible rfl
        go_simp
        refine wpAnyH_take (i := 2) (v := ?_) rfl (by kernel_rfl) (by kernel_rfl) (by kernel_rfl) (fun _ _ _ h => h) (Or.inl ⟨by rfl, ?_⟩) HX.out ?_
        rotate_left
        · intro w hSw; have hSw2 := hSw.2; go_simp
          try with_reducible rfl
        go_simp
        refine wpAnyH_take (i := 3) (v := ?_) rfl (by kernel_rfl) (by kernel_rfl) (by kernel_rfl) (fun _ _ _ h => h) (Or.inl ⟨by rfl, ?_⟩) HX.out ?_
        rotate_left
        · intro w hSw; have hSw2 := hSw.2; go_simp
          try with_reducible rfl
        go_simp
        refine wpAnyH_take (i := 5) (v := ?_) rfl (by kernel_rfl) (by kernel_rfl) (by kernel_rfl) (fun _ _ _ h => h) (Or.inl ⟨by rfl, ?_⟩) HX.out ?_
        rotate_left
        · intro w hSw; have hSw2 := hSw.2; go_simp
          try with_reducible rfl
        go_simp
        refine wpAnyH_ready (rs := [4]) (by kernel_rfl) (by simp) ?_
        refine AllReadyH.cons rfl (fun K hK => ?_) AllReadyH.nil
        go_simp
        refine (wdNumber_w B S Lb 1 ⟨s1, t, thr, N⟩ _ HD0.out).mono ?_
        rintro e w' ⟨rfl, rfl⟩
        dsimp only
        refine hK.out _ _ HX.out (fun hHeld => ?_)
        clear hK K hHeld
        go_simp
        refine wpAnyH_take (i := 6) (v := ?_) rfl (by kernel_rfl) (by kernel_rfl) (by kernel_rfl) (fun _ _ _ h => h) (Or.inl ⟨by rfl, ?_⟩) HX.out ?_
        rotate_left
        · intro w hSw; have hSw2 := hSw.2; go_simp
          try with_reducible rfl
        go_simp
        refine wpAnyH_take (i := 7) (v := ?_) rfl (by kernel_rfl) (by kernel_rfl) (by kernel_rfl) (fun _ _ _ h => h) (Or.inl ⟨by rfl, ?_⟩) HX.out ?_
        rotate_left
        · intro w hSw; have hSw2 := hSw.2; go_simp
          try with_reducible rfl
        go_simp
        refine wpAnyH_take (i := 8) (v := ?_) rfl (by kernel_rfl) (by kernel_rfl) (by kernel_rfl) (fun _ _ _ h => h) (Or.inl ⟨by rfl, ?_⟩) HX.out ?_
        rotate_left
        · intro w hSw; have hSw2 := hSw.2; go_simp
          try with_reducible rfl
        go_simp
        refine wpAnyH_take (i := 9) (v := ?_) rfl (by kernel_rfl) (by kernel_rfl) (by kernel_rfl) (fun _ _ _ h => h) (Or.inl ⟨by rfl, ?_⟩) HX.out ?_
        rotate_left
        · intro w hSw; have hSw2 := hSw.2; go_simp
          try with_reducible rfl
        go_simp
        refine wpAnyH_take (i := 10) (v := ?_) rfl (by kernel_rfl) (by kernel_rfl) (by kernel_rfl) (fun _ _ _ h => h) (Or.inl ⟨by rfl, ?_⟩) HX.out ?_
        rotate_left
        · intro w hSw; have hSw2 := hSw.2; go_simp
          try with_reducible rfl
        go_simp
        refine wpAnyH_take (i := 11) (v := ?_) rfl (by kernel_rfl) (by kernel_rfl) (by kernel_rfl) (fun _ _ _ h => h) (Or.inl ⟨by rfl, ?_⟩) HX.out ?_
        rotate_left
        · intro w hSw; have hSw2 := hSw.2; go_simp
          try with_reducible rfl
        go_simp
        refine wpAnyH_take (i := 12) (v := ?_) rfl (by kernel_rfl) (by kernel_rfl) (by kernel_rfl) (fun _ _ _ h => h) (Or.inl ⟨by rfl, ?_⟩) HX.out ?_
        rotate_left
        · intro w hSw; have hSw2 := hSw.2; go_simp
          try with_reducible rfl
        go_simp
        refine wpAnyH_take (i := 13) (v := ?_) rfl (by kernel_rfl) (by kernel_rfl) (by kernel_rfl) (fun _ _ _ h => h) (Or.inl ⟨by rfl, ?_⟩) HX.out ?_
        rotate_left
        · intro w hSw; have hSw2 := hSw.2; go_simp
          try with_reducible rfl
        go_simp
        refine wpAnyH_take (i := 14) (v := ?_) rfl (by kernel_rfl) (by kernel_rfl) (by kernel_rfl) (fun _ _ _ h => h) (Or.inl ⟨by rfl, ?_⟩) HX.out ?_
        rotate_left
        · intro w hSw; have hSw2 := hSw.2; go_simp
          try with_reducible rfl
        go_simp
        refine wpAnyH_take (i := 15) (v := ?_) rfl (by kernel_rfl) (by kernel_rfl) (by kernel_rfl) (fun _ _ _ h => h) (Or.inl ⟨by rfl, ?_⟩) HX.out ?_
        rotate_left
        · intro w hSw; have hSw2 := hSw.2; go_simp
          try with_reducible rfl
        go_simp
        refine wpAnyH_take (i := 16) (v := .agg (sloC ⟨p, pn, 0⟩).toArray) rfl (by kernel_rfl) (by kernel_rfl) (by kernel_rfl) (fun _ _ _ h => h) (Or.inl ⟨by rfl, ?_⟩) HX.out ?_
        · intro w' hSw
          have hld := run_loadVar_cells (P := Try.prog) w' ⟨g, 0, none⟩ 32 (sloC ⟨p, pn, 0⟩) _ hSw.2 Try.underlying32 rfl HYS.out
          simp [execOp, Act.eval, Instr.loadAt, Instr.sureAddr, Sem.run_bind, hld, Result.andThen]
        go_simp
        refine wpAnyH_take (i := 17) (v := .agg (pxC p).toArray) rfl (by kernel_rfl) (by kernel_rfl) (by kernel_rfl) (fun _ _ _ h => h) (Or.inl ⟨by rfl, ?_⟩) HX.out ?_
        · intro w' hSw
          have hld := run_loadVar_row (P := Try.prog) w' w0.heap.size 30 30 (pxC p).toArray (0, 0) _ hSw.1 Try.underlying30 rfl HPA.out
          simp [execOp, Act.eval, Instr.loadAt, Instr.sureAddr, Sem.run_bind, hld, Result.andThen]
        go_simp
        refine wpAnyH_take (i := 18) (v := ?_) rfl (by kernel_rfl) (by kernel_rfl) (by kernel_rfl) (fun _ _ _ h => h) (Or.inl ⟨by rfl, ?_⟩) HX.out ?_
        rotate_left
        · intro w hSw; have hSw2 := hSw.2; go_simp
          try with_reducible rfl
        go_simp
        refine wpAnyH_take (i := 19) (v := ?_) rfl (by kernel_rfl) (by kernel_rfl) (by kernel_rfl) (fun _ _ _ h => h) (Or.inl ⟨by rfl, ?_⟩) HX.out ?_
        rotate_left
        · intro w hSw; have hSw2 := hSw.2; go_simp
          try with_reducible rfl
        go_simp
        refine wpAnyH_take (i := 20) (v := .agg (sloC ⟨p, pn, 0⟩).toArray) rfl (by kernel_rfl) (by kernel_rfl) (by kernel_rfl) (fun _ _ _ h => h) (Or.inl ⟨by rfl, ?_⟩) HX.out ?_
        · intro w' hSw
          have hbd := run_build (P := Try.prog) w' 32 #[(0, .agg (pxC p).toArray), (1, .int .i64 pn)] _ (built_slotC hp pn)
          simp [execOp, Act.eval, Sem.run_bind, hbd, Result.andThen]
        go_simp
        refine wpAnyH_take (i := 21) (v := .bool true) rfl (by kernel_rfl) (by kernel_rfl) (by kernel_rfl) (fun _ _ _ h => h) (Or.inl ⟨by rfl, ?_⟩) HX.out ?_
        · intro w' hSw
          exact exec_eql 32 32 (.tmp 95) (.tmp 99) rfl _ _ rfl rfl true (by kernel_rfl) (by rw [eq_slo w' hyo hyo]; simp)
        go_simp
        refine wpAnyH_take (i := 22) (v := ?_) rfl (by kernel_rfl) (by kernel_rfl) (by kernel_rfl) (fun _ _ _ h => h) (Or.inl ⟨by rfl, ?_⟩) HX.out ?_
        rotate_left
        · intro w hSw; have hSw2 := hSw.2; go_simp
          try with_reducible rfl
        go_simp
        refine wpAnyH_take (i := 23) (v := ?_) rfl (by kernel_rfl) (by kernel_rfl) (by kernel_rfl) (fun _ _ _ h => h) (Or.inl ⟨by rfl, ?_⟩) HX.out ?_
        rotate_left
        · intro w hSw; have hSw2 := hSw.2; go_simp
          try with_reducible rfl
        go_simp
        refine wpAnyH_take (i := 24) (v := ?_) rfl (by kernel_rfl) (by kernel_rfl) (by kernel_rfl) (fun _ _ _ h => h) (Or.inl ⟨by rfl, ?_⟩) HX.out ?_
        rotate_left
        · intro w hSw; have hSw2 := hSw.2; go_simp
          try with_reducible rfl
        go_simp
        refine wpAnyH_take (i := 25) (v := ?_) rfl (by kernel_rfl) (by kernel_rfl) (by kernel_rfl) (fun _ _ _ h => h) (Or.inl ⟨by rfl, ?_⟩) HX.out ?_
        rotate_left
        · intro w hSw; have hSw2 := hSw.2; go_simp
          try with_reducible rfl
        go_simp
        refine wpAnyH_take (i := 26) (v := ?_) rfl (by kernel_rfl) (by kernel_rfl) (by kernel_rfl) (fun _ _ _ h => h) (Or.inl ⟨by rfl, ?_⟩) HX.out ?_
        rotate_left
        · intro w hSw; have hSw2 := hSw.2; go_simp
          try with_reducible rfl
        go_simp
        refine wpAnyH_take (i := 27) (v := ?_) rfl (by kernel_rfl) (by kernel_rfl) (by kernel_rfl) (fun _ _ _ h => h) (Or.inl ⟨by rfl, ?_⟩) HX.out ?_
        rotate_left
        · intro w hSw; have hSw2 := hSw.2; go_simp
          try with_reducible rfl
        go_simp
        refine wpAnyH_take (i := 28) (v := ?_) rfl (by kernel_rfl) (by kernel_rfl) (by kernel_rfl) (fun _ _ _ h => h) (Or.inl ⟨by rfl, ?_⟩) HX.out ?_
        rotate_left
        · intro w hSw; have hSw2 := hSw.2; go_simp
          try with_reducible rfl
        go_simp
        refine wpAnyH_take (i := 29) (v := ?_) rfl (by kernel_rfl) (by kernel_rfl) (by kernel_rfl) (fun _ _ _ h => h) (Or.inl ⟨by rfl, ?_⟩) HX.out ?_
        rotate_left
        · intro w hSw; have hSw2 := hSw.2; go_simp
          try with_reducible rfl
        go_simp
        refine wpAnyH_take (i := 30) (v := ?_) rfl (by kernel_rfl) (by kernel_rfl) (by kernel_rfl) (fun _ _ _ h => h) (Or.inl ⟨by rfl, ?_⟩) HX.out ?_
        rotate_left
        · intro w hSw; have hSw2 := hSw.2; go_simp
          try with_reducible rfl
        go_simp
        refine wpAnyH_take (i := 31) (v := .agg (pxC p).toArray) rfl (by kernel_rfl) (by kernel_rfl) (by kernel_rfl) (fun _ _ _ h => h) (Or.inl ⟨by rfl, ?_⟩) HX.out ?_
        · intro w' hSw
          have hld := run_loadVar_row (P := Try.prog) w' w0.heap.size 30 30 (pxC p).toArray (0, 0) _ hSw.1 Try.underlying30 rfl HPA.out
          simp [execOp, Act.eval, Instr.loadAt, Instr.sureAddr, Sem.run_bind, hld, Result.andThen]
        go_simp
        refine wpAnyH_ready (rs := [32]) (by kernel_rfl) (by simp) ?_
        refine AllReadyH.cons rfl (fun K hK => ?_) AllReadyH.nil
        go_simp
        refine (wdAdd_w B S Lb 1 ⟨s1, t, thr, N⟩ HO1.out (M + t - 1) p hp 1 _ HD0.out).mono ?_
        rintro e w7 ⟨x7, m7, hx7, rfl, hW7, hu7⟩
        rw [HD2.out] at hx7 hW7
        have hx7e : x7 = ⟨p, pn + 1, 0⟩ := only_one HS2.out hx7
        subst hx7e
        have hheavy : decide (thr ≤ pn + 1 - 0) = true := decide_eq_true (by have := HTHR.out; omega)
        dsimp only
        rw [hheavy]
        have HW7 := Lib.hid hW7
        have HB7 := Lib.hid (bl_upd3 HB0.out hu7 hwB hwS hwL)
        have HC7 := Lib.hid (show CellsAt w7 g 0 (sloC ⟨p, pn, 0⟩) from fun q u hq => by
          have h1 := HX.out.2 q u hq
          rw [add_flat] at h1 ⊢
          exact (World.cell?_of_block (w := W0) (hu7.2.2.2.2 g (cell_lt h1) (by have := HGN.out; omega) (by have := HGN.out; omega) (by have := HGN.out; omega))).trans h1)
        clear hW7 hu7 hx7 hheavy
        refine hK.out _ _ ⟨HPB.out.below HB7.out, HC7.out⟩ (fun hHeld => ?_)
        clear hK K
        have HX := Lib.hid hHeld
        clear hHeld
        go_simp
        refine wpAnyH_take (i := 33) (v := ?_) rfl (by kernel_rfl) (by kernel_rfl) (by kernel_rfl) (fun _ _ _ h => h) (Or.inl ⟨by rfl, ?_⟩) HX.out ?_
        rotate_left
        · intro w hSw; have hSw2 := hSw.2; go_simp
          try with_reducible rfl
        go_simp
        refine wpAnyH_take (i := 34) (v := ?_) rfl (by kernel_rfl) (by kernel_rfl) (by kernel_rfl) (fun _ _ _ h => h) (Or.inl ⟨by rfl, ?_⟩) HX.out ?_
        rotate_left
        · intro w hSw; have hSw2 := hSw.2; go_simp
          try with_reducible rfl
        go_simp
        refine wpAnyH_take (i := 35) (v := ?_) rfl (by kernel_rfl) (by kernel_rfl) (by kernel_rfl) (fun _ _ _ h => h) (Or.inl ⟨by rfl, ?_⟩) HX.out ?_
        rotate_left
        · intro w hSw; have hSw2 := hSw.2; go_simp
          try with_reducible rfl
        go_simp
        refine wpAnyH_take (i := 37) (v := ?_) rfl (by kernel_rfl) (by kernel_rfl) (by kernel_rfl) (fun _ _ _ h => h) (Or.inl ⟨by rfl, ?_⟩) HX.out ?_
        rotate_left
        · intro w hSw; have hSw2 := hSw.2; go_simp
          try with_reducible rfl
        go_simp
        refine wpAnyH_ready (rs := [36]) (by kernel_rfl) (by simp) ?_
        refine AllReadyH.cons rfl (fun K hK => ?_) AllReadyH.nil
        go_simp
        refine (wdNumber_w B S Lb m7 ⟨s2, t, thr, N⟩ _ HW7.out).mono ?_
        rintro e w' ⟨rfl, rfl⟩
        dsimp only
        refine hK.out _ _ HX.out (fun hHeld => ?_)
        clear hK K hHeld
        go_simp
        refine wpAnyH_take (i := 38) (v := ?_) rfl (by kernel_rfl) (by kernel_rfl) (by kernel_rfl) (fun _ _ _ h => h) (Or.inl ⟨by rfl, ?_⟩) HX.out ?_
        rotate_left
        · intro w hSw; have hSw2 := hSw.2; go_simp
          try with_reducible rfl
        go_simp
        refine wpAnyH_take (i := 39) (v := ?_) rfl (by kernel_rfl) (by kernel_rfl) (by kernel_rfl) (fun _ _ _ h => h) (Or.inl ⟨by rfl, ?_⟩) HX.out ?_
        rotate_left
        · intro w hSw; have hSw2 := hSw.2; go_simp
          try with_reducible rfl
        go_simp
        refine wpAnyH_take (i := 40) (v := ?_) rfl (by kernel_rfl) (by kernel_rfl) (by kernel_rfl) (fun _ _ _ h => h) (Or.inl ⟨by rfl, ?_⟩) HX.out ?_
        rotate_left
        · intro w hSw; have hSw2 := hSw.2; go_simp
          try with_reducible rfl
        go_simp
        refine wpAnyH_done (by kernel_rfl) ?_ _
        go_wp2
        go_ret
        exact ⟨rfl, bl_next HBW.out HB7.out⟩
theorem WindowBegins_w (sl ns : Int) (A : Option Addr) (n c : Nat) (rows : List (List Value)) (cs : Array Value) (pn : Int) (w : World) (h1 : (Lit.int .u8 sl).wf = true) (h2 : (Lit.int .u64 ns).wf = true) (h : SlP swKs w A n c rows) (hcs : okCells pxKs cs.toList) (h5 : (Lit.int .u32 pn).wf = true) :
    Calls Try.prog 9 #[.int .u8 sl, .int .u64 ns, .slice A n c, .agg cs, .int .u32 pn] w fun e w' => e = .returned (.bool true) ∧ Below w.heap.size w w' := by
  obtain ⟨p, hp, rfl⟩ := pxA_of hcs
  obtain ⟨L, g1, g2, g3, g4⟩ := h.seenW
  have u64r : ∀ {n : Int}, (Lit.int .u64 n).wf = true → 0 ≤ n ∧ n ≤ 18446744073709551615 := by
    intro n h
    simp only [Lit.wf, IntKind.min, IntKind.max, IntKind.signed, IntKind.bits, Bool.and_eq_true, decide_eq_true_eq] at h
    simp at h; omega
  exact WindowBegins_x sl ns p pn (u8_range h1) (u64r h2) hp (u32_range h5) A n c L g1 g2 g3 w g4
end Go.Proofs.Ytdmfmanmhlnleaa
