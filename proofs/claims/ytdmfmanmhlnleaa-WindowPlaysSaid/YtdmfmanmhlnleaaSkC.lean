/- A prefix is found; the least slot. -/
import Derived.Test.YtdmfmanmhlnleaaSkB
import Derived.Deep.RegionHeld3
import Derived.OwnWalk
namespace Go.Proofs.Ytdmfmanmhlnleaa
open Go.RowKit
set_option linter.unusedVariables false
set_option linter.unusedSimpArgs false

theorem px_size {p : Px} (hp : okPx p) : (Try.prog.info? 30).map (·.size) = some (pxC p).length := by rw [pxC_length hp]; rfl
theorem px_sizeA {p : Px} (hp : okPx p) : (Try.prog.info? 30).map (·.size) = some (pxC p).toArray.size := by rw [show (pxC p).toArray.size = 8 by simp [pxC_length hp]]; rfl
theorem slo_size {s : Slo} (hp : okPx s.p) : (Try.prog.info? 32).map (·.size) = some (sloC s).length := by rw [sloC_length hp]; rfl
theorem slo_sizeA {s : Slo} (hp : okPx s.p) : (Try.prog.info? 32).map (·.size) = some (sloC s).toArray.size := by rw [show (sloC s).toArray.size = 10 by simp [sloC_length hp]]; rfl
theorem slo_px {s : Slo} {j : Nat} {v : Value} (h : (pxC s.p)[j]? = some v) : (sloC s)[j]? = some v := by
  unfold sloC
  rw [List.getElem?_append_left (List.getElem?_eq_some_iff.1 h).1]
  exact h
theorem bys_one' (l : List Int) : ∀ v ∈ bys l, v.oneCell' = true := bys_one l
theorem pxC_one (p : Px) : ∀ v ∈ pxC p, v.oneCell' = true := by
  intro v hv
  unfold pxC at hv
  rcases List.mem_cons.1 hv with h | h
  · subst h; rfl
  · exact bys_one p.ad v h
theorem sloC_one (s : Slo) : ∀ v ∈ sloC s, v.oneCell' = true := by
  intro v hv
  unfold sloC at hv
  rcases List.mem_append.1 hv with h | h
  · exact pxC_one s.p v h
  · simp at h
    rcases h with h | h <;> (subst h; rfl)
theorem obj_cells {w : World} {B : Nat} {cs : List Value} {t : TypeId} (h : Obj1 w B cs.toArray t) {d : List Value} (hd : ∀ (j : Nat) (v : Value), d[j]? = some v → cs[j]? = some v) : ∀ (j : Nat) (v : Value), d[j]? = some v → w.cell? ((⟨B, 0, none⟩ : Addr).add j) = some v := by
  intro j v hj
  rw [add_flat, Nat.zero_add, h.cell, List.getElem?_toArray]
  exact hd j v hj

section
variable {P : Program} {ops : Array Oper} {rest : List Oper} {o : Oper} {a : Act} {Q : Exit → Act → World → Prop} {w : World}
theorem wp_eqA (op : BinOp) (n : Bool) (hop : op = .eql ∧ n = false ∨ op = .neq ∧ n = true) (T tr : TypeId) (x y : Operand) (ho : o.op = .binOp op T x y tr) (xs ys : Array Value) (hx : a.eval x = .agg xs) (hy : a.eval y = .agg ys) (b : Bool)
    (hm : P.eqGuardType P.depth T = false) (he : (Op.equal T (.agg xs) (.agg ys)).run P w = .ok b w) {K : Act → World → Prop} (h : K (a.put o.dst (.bool (b != n))) w) : o.wp P a w K Q := by
  unfold Oper.wp execOp
  rcases hop with ⟨rfl, rfl⟩ | ⟨rfl, rfl⟩
  · simp only [ho, hx, hy, Sem.run_bind, run_eqGuard_agg (P := P) w _ _ _ _ _ _ hm, Result.andThen_ok, binOp, he, Sem.run_pure]
    simpa [Oper.upon] using h
  · simp only [ho, hx, hy, Sem.run_bind, run_eqGuard_agg (P := P) w _ _ _ _ _ _ hm, Result.andThen_ok, binOp, he, Sem.run_pure]
    simpa [Oper.upon] using h
theorem eq_list (hgd : o.guard = none) (T tr : TypeId) (x y : Operand) (ho : o.op = .binOp .eql T x y tr) (xs ys : Array Value) (hx : a.eval x = .agg xs) (hy : a.eval y = .agg ys) (b : Bool)
    (hm : P.eqGuardType P.depth T = false) (he : (Op.equal T (.agg xs) (.agg ys)).run P w = .ok b w) (h : wpList P ops Q rest (a.put o.dst (.bool b)) w) : wpList P ops Q (o :: rest) a w :=
  wpList_plain hgd fun K hK => wp_eqA .eql false (.inl ⟨rfl, rfl⟩) T tr x y ho xs ys hx hy b hm he (hK _ _ (by simpa using h))
end

set_option maxHeartbeats 1000000 in
theorem found1_w (s : Slo) (p : Px) (hs : okPx s.p) (hp : okPx p) (K : Nat) (w : World) (h : Obj1 w K (pxC p).toArray 30) :
    Calls Try.prog 41 #[.agg (sloC s).toArray, .pointer (some ⟨K, 0, none⟩)] w fun e w' => e = .returned (.bool (decide (s.p = p))) ∧ Below w.heap.size w w' := by
  have HE := Lib.hid (fun w => eq_px w hs hp)
  have HK := Lib.hid (h.alloc (.cells (sloC s).toArray 32))
  have HN := Lib.hid (obj_cells (Obj1.new w (sloC s).toArray 32) (fun j v => slo_px (s := s)))
  have HPS := Lib.hid (px_size hs)
  have HPA := Lib.hid (px_sizeA hp)
  clear h
  go_enter Try.func41, Try.ntmps41
  go_wp2_with (first
    | (refine load_cells rfl 30 (.tmp 4) rfl ⟨w.heap.size, 0, none⟩ (pxC s.p) _ rfl HN.out Try.underlying30 rfl HPS.out ?_)
    | (refine load_obj rfl 30 (.tmp 1) rfl K 30 (pxC p).toArray _ rfl HK.out Try.underlying30 rfl HPA.out ?_)
    | (refine eq_list rfl 30 30 (.tmp 5) (.tmp 6) rfl (pxC s.p).toArray (pxC p).toArray rfl rfl (decide (s.p = p)) (by kernel_rfl) (HE.out _) ?_))
  go_ret
  exact ⟨rfl, bl_alloc (Below.refl _ _) _⟩

/-- Where a prefix's slot is; as many as there are: nowhere. -/
def fnd (l : List Slo) (p : Px) : Nat := l.findIdx fun s => decide (s.p = p)
def fndV (l : List Slo) (p : Px) : Int := if fnd l p < l.length then fnd l p else -1
theorem fnd_yes {l : List Slo} {p : Px} {k : Nat} {s : Slo} (hk : l[k]? = some s) (h : s.p = p) (hb : ∀ j s', j < k → l[j]? = some s' → s'.p ≠ p) : fnd l p = k := by
  obtain ⟨hlt, rfl⟩ := List.getElem?_eq_some_iff.1 hk
  unfold fnd
  rw [List.findIdx_eq hlt]
  exact ⟨by simpa using h, fun j hj => by simpa using hb j _ hj (List.getElem?_eq_getElem (by omega))⟩
theorem fnd_no {l : List Slo} {p : Px} (hb : ∀ j s', j < l.length → l[j]? = some s' → s'.p ≠ p) : fnd l p = l.length := by
  unfold fnd
  rw [List.findIdx_eq_length]
  intro x hx
  obtain ⟨j, hj, rfl⟩ := List.getElem_of_mem hx
  simpa using hb j _ hj (List.getElem?_eq_getElem hj)
theorem fnd_at {l : List Slo} {p : Px} (h : fnd l p < l.length) : ∃ s, l[fnd l p]? = some s ∧ s.p = p := by
  refine ⟨l[fnd l p], List.getElem?_eq_getElem h, ?_⟩
  have := List.findIdx_getElem (p := fun s : Slo => decide (s.p = p)) (xs := l) (w := h)
  exact of_decide_eq_true this
theorem fnd_le (l : List Slo) (p : Px) : fnd l p ≤ l.length := List.findIdx_le_length
theorem slo_cells {w : World} {L n cap : Nat} {l : List Slo} {t : TypeId} (h : RoomO w L n cap 10 (slosC l) t) (hl : ∀ s ∈ l, okPx s.p) {k : Nat} {s : Slo} (hk : l[k]? = some s) :
    ∀ (j : Nat) (v : Value), (sloC s)[j]? = some v → w.cell? ((⟨L, k * 10, none⟩ : Addr).add j) = some v := by
  intro j v hj
  rw [add_flat]
  have hq : j < 10 := by
    have := (List.getElem?_eq_some_iff.1 hj).1
    rw [sloC_length (hl s (List.mem_of_getElem? hk))] at this
    exact this
  exact h.cell ((slosC_at hl hk hq).trans hj)

set_option maxHeartbeats 1000000 in
theorem index_w (L n cap : Nat) (l : List Slo) (p : Px) (K : Nat) (w : World) (hR : RoomO w L n cap 10 (slosC l) 32) (hn : l.length = n) (hcap : cap ≤ 64) (hl : ∀ s ∈ l, okPx s.p) (hp : okPx p) (hK : Obj1 w K (pxC p).toArray 30) :
    Calls Try.prog 40 #[.slice (some ⟨L, 0, none⟩) n cap, .func (.func 41) #[] #[.pointer (some ⟨K, 0, none⟩)]] w fun e w' => e = .returned (.int .i64 (fndV l p)) ∧ Below w.heap.size w w' := by
  have hnc : n ≤ cap := hR.2.1
  have HR := Lib.hid hR
  have HK := Lib.hid hK
  have HL := Lib.hid hl
  clear hR hK hl
  go_enter Try.func40, Try.ntmps40
  go_wp2_with fail
  go_loopw [8] (fun i wr => ∃ k : Nat, k ≤ n ∧ i = .int .i64 k ∧ (∀ j s', j < k → l[j]? = some s' → s'.p ≠ p) ∧ Below w.heap.size w wr) (fun i _ => n - (intOf i).toNat)
  case atStart => exact ⟨0, Nat.zero_le _, rfl, fun j s' h => absurd h (Nat.not_lt_zero _), Below.refl _ _⟩
  case round =>
    obtain ⟨k, hk, rfl, hno, hbel⟩ := hrel
    have HNO := Lib.hid hno
    have HB := Lib.hid hbel
    clear hno hbel
    by_cases hlt : k < n
    · have hk0 : (0 : Int) ≤ (k : Int) := Int.natCast_nonneg k
      have hk1 : (k : Int) < (n : Int) := by omega
      obtain ⟨s, hs⟩ : ∃ s, l[k]? = some s := ⟨_, List.getElem?_eq_getElem (by omega)⟩
      have hsp : okPx s.p := HL.out s (List.mem_of_getElem? hs)
      have HC := Lib.hid (slo_cells (HR.out.below HB.out) HL.out hs)
      have HSZ := Lib.hid (slo_size hsp)
      have HS := Lib.hid hs
      clear hs
      go_wp2_with (refine load_cells rfl 32 (.tmp 14) rfl ⟨L, k * 10, none⟩ (sloC s) _ rfl HC.out Try.underlying32 rfl HSZ.out ?_)
      refine (found1_w s p hsp hp K _ (HK.out.below HB.out)).mono ?_
      rintro e w2 ⟨rfl, hb2⟩
      have HB2 := Lib.hid (bl_next HB.out hb2)
      clear hb2
      by_cases he : s.p = p
      · have hd : decide (s.p = p) = true := by simp [he]
        rw [hd]
        have hf : fndV l p = (k : Int) := by
          unfold fndV
          rw [fnd_yes HS.out he HNO.out, if_pos (by omega)]
        have HF := Lib.hid hf
        clear hf he hd
        go_wp2
        go_ret
        exact ⟨by rw [HF.out]; rfl, HB2.out⟩
      · have hd : decide (s.p = p) = false := by simp [he]
        rw [hd]
        have hno2 : ∀ j s', j < k + 1 → l[j]? = some s' → s'.p ≠ p := by
          intro j s' hj hs'
          by_cases hjk : j = k
          · subst hjk
            rw [HS.out] at hs'
            cases hs'
            exact he
          · exact HNO.out j s' (by omega) hs'
        have HN2 := Lib.hid hno2
        clear he hd hno2
        go_wp2_with fail
        go_roundw
        case rel => exact ⟨k + 1, by omega, by go_num, HN2.out, HB2.out⟩
        case measure => simp [intOf]; omega
    · have hk1 : ¬ (k : Int) < (n : Int) := by omega
      have hf : fndV l p = -1 := by
        unfold fndV
        rw [fnd_no (fun j s' hj => HNO.out j s' (by omega)), if_neg (by omega)]
      have HF := Lib.hid hf
      clear hf
      go_wp2
      go_ret
      exact ⟨by rw [HF.out]; rfl, HB.out⟩

set_option maxHeartbeats 1000000 in
theorem find_w (S L n : Nat) (s : Sk) (hsk : okSk s) (p : Px) (hp : okPx p) (w : World) (h : SkO w S L n s) :
    Calls Try.prog 36 #[.pointer (some ⟨S, 0, none⟩), .agg (pxC p).toArray] w fun e w' => e = .returned (.int .i64 (fndV s.l p)) ∧ Below w.heap.size w w' := by
  have h1 := h.below (bl_alloc (Below.refl _ _) (.cells (pxC p).toArray 30))
  have c0 : (w.alloc (.cells (pxC p).toArray 30)).cell? ⟨S, 0, none⟩ = some (.slice (some ⟨L, 0, none⟩) n s.room) := h1.2.1.cell 0
  have HR := Lib.hid h1.2.2
  have HN := Lib.hid h1.1
  have HK := Lib.hid (Obj1.new w (pxC p).toArray 30)
  have HPX := Lib.hid hsk.px
  have hcap : s.room ≤ 64 := hsk.1.2
  clear h h1
  go_enter Try.func36, Try.ntmps36
  go_wp2_with fail
  refine (index_w L n s.room s.l p w.heap.size _ HR.out HN.out hcap HPX.out hp HK.out).mono ?_
  rintro e w2 ⟨rfl, hb2⟩
  have HB2 := Lib.hid (bl_next (bl_alloc (Below.refl _ _) _) hb2)
  clear hb2
  go_wp2
  go_ret
  exact ⟨rfl, HB2.out⟩

/-- The least of the first slots. -/
def cntAt (l : List Slo) (k : Nat) : Int := match l[k]? with | some s => s.c | none => 0
def lst (l : List Slo) : Nat → Nat
  | 0 => 0
  | k + 1 => if cntAt l k < cntAt l (lst l k) then k else lst l k
theorem lst_lt (l : List Slo) : ∀ k, lst l k = 0 ∨ lst l k < k
  | 0 => .inl rfl
  | k + 1 => by
    unfold lst
    split
    · right; omega
    · rcases lst_lt l k with h | h
      · exact .inl h
      · right; omega
theorem lst_le (l : List Slo) : ∀ k j, j < k → cntAt l (lst l k) ≤ cntAt l j
  | 0, _, h => absurd h (Nat.not_lt_zero _)
  | k + 1, j, h => by
    unfold lst
    by_cases hj : j = k
    · subst hj
      split <;> omega
    · have := lst_le l k j (by omega)
      split <;> omega
theorem cntAt_of {l : List Slo} {k : Nat} {s : Slo} (h : l[k]? = some s) : cntAt l k = s.c := by unfold cntAt; rw [h]
theorem sloC_tail {s : Slo} (h : okPx s.p) : (sloC s)[8]? = some (.int .i64 s.c) ∧ (sloC s)[9]? = some (.int .i64 s.e) := by
  unfold sloC
  refine ⟨?_, ?_⟩ <;> (rw [List.getElem?_append_right (by rw [pxC_length h]; omega), pxC_length h]; rfl)
theorem slo_count {w : World} {L n cap : Nat} {l : List Slo} {t : TypeId} (h : RoomO w L n cap 10 (slosC l) t) (hl : ∀ s ∈ l, okPx s.p) {k : Nat} {s : Slo} (hk : l[k]? = some s) : w.cell? ⟨L, k * 10 + 8, none⟩ = some (.int .i64 s.c) ∧ w.cell? ⟨L, k * 10 + 9, none⟩ = some (.int .i64 s.e) :=
  ⟨h.cell ((slosC_at hl hk (by omega)).trans (sloC_tail (hl s (List.mem_of_getElem? hk))).1), h.cell ((slosC_at hl hk (by omega)).trans (sloC_tail (hl s (List.mem_of_getElem? hk))).2)⟩

set_option maxHeartbeats 2000000 in
theorem least_w (S L n : Nat) (s : Sk) (hsk : okSk s) (w : World) (h : SkO w S L n s) :
    Calls Try.prog 37 #[.pointer (some ⟨S, 0, none⟩)] w fun e w' => e = .returned (.int .i64 (lst s.l n)) ∧ Below w.heap.size w w' := by
  have c0 : w.cell? ⟨S, 0, none⟩ = some (.slice (some ⟨L, 0, none⟩) n s.room) := h.2.1.cell 0
  have hnc : n ≤ s.room := h.2.2.2.1
  have hcap : s.room ≤ 64 := hsk.1.2
  have H := Lib.hid h
  have HPX := Lib.hid hsk.px
  have hn : s.l.length = n := h.1
  have HN := Lib.hid hn
  clear h hn
  go_enter Try.func37, Try.ntmps37
  go_wp2_with fail
  go_loopw [3, 11] (fun v i wr => ∃ k : Nat, k ≤ n ∧ i = .int .i64 k ∧ v = .int .i64 (lst s.l k) ∧ Below w.heap.size w wr) (fun _ i _ => n - (intOf i).toNat)
  case atStart => exact ⟨0, Nat.zero_le _, rfl, rfl, Below.refl _ _⟩
  case round =>
    obtain ⟨k, hk, rfl, rfl, hbel⟩ := hrel
    have HB := Lib.hid hbel
    clear hbel
    by_cases hlt : k < n
    · have hk0 : (0 : Int) ≤ (k : Int) := Int.natCast_nonneg k
      have hk1 : (k : Int) < (n : Int) := by omega
      obtain ⟨x, hx⟩ : ∃ x, s.l[k]? = some x := ⟨_, List.getElem?_eq_getElem (by rw [HN.out]; exact hlt)⟩
      have hll := lst_lt s.l k
      obtain ⟨at', hat⟩ : ∃ at', lst s.l k = at' := ⟨_, rfl⟩
      rw [hat] at hll
      have hatn : at' < n := by omega
      obtain ⟨y, hy⟩ : ∃ y, s.l[at']? = some y := ⟨_, List.getElem?_eq_getElem (by rw [HN.out]; exact hatn)⟩
      have hxp : okPx x.p := HPX.out x (List.mem_of_getElem? hx)
      have hstep : lst s.l (k + 1) = if x.c < y.c then k else at' := by
        show (if cntAt s.l k < cntAt s.l (lst s.l k) then k else lst s.l k) = _
        rw [hat, cntAt_of hx, cntAt_of hy]
      have HST := Lib.hid hstep
      have HC := Lib.hid (slo_cells (H.out.2.2.below HB.out) HPX.out hx)
      have HSZ := Lib.hid (slo_size hxp)
      have HSA := Lib.hid (slo_sizeA hxp)
      have HY := Lib.hid (slo_count (H.out.2.2.below HB.out) HPX.out hy).1
      have hlen := sloC_length hxp
      have HX8 := Lib.hid (sloC_tail hxp).1
      have ha0 : (0 : Int) ≤ (at' : Int) := Int.natCast_nonneg at'
      have ha1 : (at' : Int) < (n : Int) := by omega
      rw [hat]
      clear hx hy hstep hat hll
      go_wp2_with (first
        | (refine load_cells rfl 32 (.tmp 14) rfl ⟨L, k * 10, none⟩ (sloC x) _ rfl HC.out Try.underlying32 rfl HSZ.out ?_)
        | (refine store_obj rfl 32 (.tmp 5) (.tmp 15) rfl wr.heap.size 32 _ (sloC x).toArray rfl rfl (Obj1.new _ _ _) (by simp [hlen]) HSA.out (all_oneCell_toArray (sloC_one x)) ?_; intro w5 hob hup))
      have hb5 : Below wr.heap.size wr w5 := bl_upd (bl_alloc (Below.refl _ _) _) hup (Nat.le_refl _)
      have r0 : w5.cell? ⟨wr.heap.size, 8, none⟩ = some (.int .i64 x.c) := by rw [hob.cell 8, List.getElem?_toArray]; exact HX8.out
      have r1 : w5.cell? ⟨S, 0, none⟩ = some (.slice (some ⟨L, 0, none⟩) n s.room) := bl_keeps hb5 (bl_keeps HB.out c0)
      have r2 : w5.cell? ⟨L, at' * 10 + 8, none⟩ = some (.int .i64 y.c) := bl_keeps hb5 HY.out
      have HB5 := Lib.hid (bl_next HB.out hb5)
      clear hb5 hob hup
      by_cases hlc : x.c < y.c
      · have d1 : decide (x.c < y.c) = true := by simp [hlc]
        go_quiet (fail)
        go_wp2_with fail
        go_roundw
        case rel => exact ⟨k + 1, by omega, by go_num, by rw [HST.out, if_pos hlc], bl_drewN HB5.out _⟩
        case measure => simp [intOf]; omega
      · have d1 : decide (x.c < y.c) = false := by simp; omega
        go_quiet (fail)
        go_wp2_with fail
        go_roundw
        case rel => exact ⟨k + 1, by omega, by go_num, by rw [HST.out, if_neg hlc], bl_drewN HB5.out _⟩
        case measure => simp [intOf]; omega
    · have hk1 : ¬ (k : Int) < (n : Int) := by omega
      have hkn : k = n := by omega
      have HKN := Lib.hid hkn
      clear hkn
      go_wp2
      go_ret
      exact ⟨by rw [← HKN.out]; rfl, HB.out⟩
end Go.Proofs.Ytdmfmanmhlnleaa
