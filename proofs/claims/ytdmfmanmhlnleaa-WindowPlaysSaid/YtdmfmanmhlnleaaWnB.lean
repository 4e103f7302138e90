/- What was seen when, as it comes in; awake of bailifflaw19; a window's plain laws. -/
import Derived.Test.YtdmfmanmhlnleaaWnA
import Derived.Test.YtdmfmanmhlnleaaSkQ
namespace Go.Proofs.Ytdmfmanmhlnleaa
open Go.RowKit
set_option linter.unusedVariables false
set_option linter.unusedSimpArgs false

section
variable {P : Program} {ops : Array Oper} {rest : List Oper} {o : Oper} {a : Act} {Q : Exit → Act → World → Prop} {w : World}
/-- A whole object is loaded by a guarded operation that is wanted. -/
theorem load_obj_g (hgd : Region.wanted o (yielded ops a.tmps) = true) (ty : TypeId) (x : Operand) (ho : o.op = .load ty x) (p : Nat) (t : TypeId) (cs : Array Value) (d : TypeDesc) (hx : a.eval x = .pointer (some ⟨p, 0, none⟩)) (HO : Obj1 w p cs t)
    (hu : P.underlying ty = some d) (hd : (match d with | .struct _ | .array _ _ => true | _ => false) = true) (hi : (P.info? ty).map (·.size) = some cs.size)
    (h : wpList P ops Q rest (a.put o.dst (.agg cs)) w) : wpList P ops Q (o :: rest) a w :=
  wpList_step fun K hK => by
    rw [if_pos hgd]
    exact wp_load_row ty x ho p hx t cs (0, 0) d HO hu hd hi (hK _ _ h)
end

/-- A prefix, when it was seen, and how much it sent. -/
structure Sw where
  now : Int
  p : Px
  n : Int
def swC (s : Sw) : List Value := .int .i64 s.now :: (pxC s.p ++ [.int .i64 s.n])
def i64R (n : Int) : Prop := -9223372036854775808 ≤ n ∧ n ≤ 9223372036854775807
def okSw (s : Sw) : Prop := okPx s.p ∧ i64R s.now ∧ i64R s.n
def swKs : List Kd := .i .i64 :: snKs
theorem sw_of {cs : List Value} (h : okCells swKs cs) : ∃ s, okSw s ∧ cs = swC s := by
  have hl : cs.length = 10 := by rw [h.1]; rfl
  obtain ⟨n, h0, wn⟩ := ok_int h 0 .i64 rfl
  obtain ⟨s, hs, e⟩ := sn_of (okCells_sub h 1 9)
  refine ⟨⟨n, s.p, s.n⟩, ⟨hs.1, i64_range wn, hs.2⟩, ?_⟩
  match cs, hl with
  | c :: cs, hl =>
    simp at h0 hl e
    unfold swC
    rw [h0, show pxC s.p ++ [Value.int .i64 s.n] = snC s from rfl, ← e, List.take_of_length_le (by omega)]
theorem rows_sw : ∀ {rows : List (List Value)}, (∀ r ∈ rows, okCells swKs r) → ∃ L : List Sw, rows = L.map swC ∧ ∀ s ∈ L, okSw s
  | [], _ => ⟨[], rfl, fun s h => by cases h⟩
  | r :: rows, h => by
    obtain ⟨s, h1, rfl⟩ := sw_of (h r (by simp))
    obtain ⟨L, rfl, h2⟩ := rows_sw (rows := rows) (fun x hx => h x (by simp [hx]))
    refine ⟨s :: L, rfl, fun x hx => ?_⟩
    rcases List.mem_cons.1 hx with h | h
    · rw [h]; exact h1
    · exact h2 x h
/-- What was seen lies in memory. -/
def SwRd (w : World) (A : Option Addr) (L : List Sw) : Prop := ∀ k s, L[k]? = some s → ∃ b off, A = some ⟨b, off, none⟩ ∧ w.cell? ⟨b, off + k * 10, none⟩ = some (.int .i64 s.now) ∧ CellsAt w b (off + k * 10 + 1) (pxC s.p) ∧ w.cell? ⟨b, off + k * 10 + 9, none⟩ = some (.int .i64 s.n)
theorem SwRd.below {w w' : World} {A : Option Addr} {L : List Sw} (h : SwRd w A L) (hb : Below w.heap.size w w') : SwRd w' A L :=
  fun k s hk => let ⟨b, off, e, h1, h2, h3⟩ := h k s hk; ⟨b, off, e, bl_keeps hb h1, h2.below hb, bl_keeps hb h3⟩
theorem SlP.seenW {W : World} {A : Option Addr} {n c : Nat} {rows : List (List Value)} (h : SlP swKs W A n c rows) : ∃ L : List Sw, L.length = n ∧ n ≤ 9223372036854775807 ∧ (∀ s ∈ L, okSw s) ∧ SwRd W A L := by
  obtain ⟨L, rfl, hok⟩ := rows_sw h.2.2.2.1
  have hl := h.1
  rw [List.length_map] at hl
  refine ⟨L, hl, Nat.le_trans h.2.1 h.2.2.1, hok, fun k s hk => ?_⟩
  have hs := hok s (List.mem_of_getElem? hk)
  obtain ⟨b, off, rfl⟩ := h.addr (by have := (List.getElem?_eq_some_iff.1 hk).1; omega) (by decide)
  have hc : ∀ {q : Nat} {v : Value}, (swC s)[q]? = some v → W.cell? ⟨b, off + k * 10 + q, none⟩ = some v := fun hq => h.cell (j := k) (r := swC s) (by rw [List.getElem?_map, hk]; rfl) hq
  refine ⟨b, off, rfl, hc (q := 0) rfl, fun q v hq => ?_, hc (q := 9) ?_⟩
  · rw [add_flat, Nat.add_assoc (off + k * 10) 1 q]
    refine hc ?_
    rw [Nat.add_comm 1 q]
    show (pxC s.p ++ [Value.int .i64 s.n])[q]? = some v
    rw [List.getElem?_append_left (List.getElem?_eq_some_iff.1 hq).1]
    exact hq
  · show (pxC s.p ++ [Value.int .i64 s.n])[8]? = _
    rw [List.getElem?_append_right (by rw [pxC_length hs.1]; omega), pxC_length hs.1]
    rfl

theorem skAdd_at {s : Sk} {p : Px} {n : Int} {x : Slo} (h : (skAdd s p n).l[skAt s p]? = some x) (hok : okSk s) : x.p = p := by
  by_cases hm : p ∈ pxs s.l
  · have h1 := fnd_mem.2 hm
    obtain ⟨y, hy, hp⟩ := fnd_at h1
    have e1 : skBase s p = s.l := by unfold skBase; rw [if_pos h1]
    have e2 : skAt s p = fnd s.l p := by unfold skAt; rw [if_pos h1]
    rw [skAdd_eq e1 e2 hy, e2, List.getElem?_set_self h1] at h
    cases h
    exact hp
  · have h1 : ¬ fnd s.l p < s.l.length := fun h2 => hm (fnd_mem.1 h2)
    by_cases hr : s.l.length < s.room
    · have e1 : skBase s p = s.l ++ [⟨p, 0, 0⟩] := by unfold skBase; rw [if_neg h1, if_pos hr]
      have e2 : skAt s p = s.l.length := by unfold skAt; rw [if_neg h1, if_pos hr]
      rw [skAdd_eq e1 e2 (x := ⟨p, 0, 0⟩) (by simp), e2, List.getElem?_set_self (by simp)] at h
      cases h
      rfl
    · have hlen : 0 < s.l.length := by have := hok.1.1; omega
      have hkl : lst s.l s.l.length < s.l.length := by rcases lst_lt s.l s.l.length with h | h <;> omega
      have e1 : skBase s p = s.l.set (lst s.l s.l.length) ⟨p, cntAt s.l (lst s.l s.l.length), cntAt s.l (lst s.l s.l.length)⟩ := by unfold skBase; rw [if_neg h1, if_neg hr]
      have e2 : skAt s p = lst s.l s.l.length := by unfold skAt; rw [if_neg h1, if_neg hr]
      rw [skAdd_eq e1 e2 (x := ⟨p, cntAt s.l (lst s.l s.l.length), cntAt s.l (lst s.l s.l.length)⟩) (by rw [List.getElem?_set_self hkl]), e2, List.getElem?_set_self (by simpa using hkl)] at h
      cases h
      rfl

set_option maxRecDepth 100000 in
set_option maxHeartbeats 2000000 in
theorem awake19_w (w : World) : Calls Try.prog 25 #[] w fun e w' => e = .returned (.bool true) ∧ Below w.heap.size w w' := by
  obtain ⟨d0, hd0⟩ : ∃ d0, d0 = wdNew 1 100 10 := ⟨_, rfl⟩
  obtain ⟨d1, hd1⟩ : ∃ d1, d1 = wdAdd d0 0 p00 9 := ⟨_, rfl⟩
  obtain ⟨d2, hd2⟩ : ∃ d2, d2 = wdAdd d1 0 p00 1 := ⟨_, rfl⟩
  obtain ⟨d3, hd3⟩ : ∃ d3, d3 = wdAdd d2 100 p00 1 := ⟨_, rfl⟩
  have O0 := Lib.hid (show okWd d0 by rw [hd0]; exact wdNew_ok (by omega) (by omega) (by omega))
  have O1 := Lib.hid (show okWd d1 by rw [hd1]; exact wdAdd_ok O0.out 0 ok00.1 9)
  have O2 := Lib.hid (show okWd d2 by rw [hd2]; exact wdAdd_ok O1.out 0 ok00.1 1)
  have Q1 := Lib.hid (show d1.s.l[skAt (wdTurn d0 0).s p00]? = some ⟨p00, 9, 0⟩ by subst hd1 hd0; rfl)
  have Q2 := Lib.hid (show d2.s.l[skAt (wdTurn d1 0).s p00]? = some ⟨p00, 10, 0⟩ by subst hd2 hd1 hd0; rfl)
  have Q3 := Lib.hid (show d3.s.l[skAt (wdTurn d2 100).s p00]? = some ⟨p00, 1, 0⟩ by subst hd3 hd2 hd1 hd0; rfl)
  have QN := Lib.hid (show d3.num = 1 by subst hd3 hd2 hd1 hd0; rfl)
  have QT := Lib.hid (show d0.thr = 10 ∧ d1.thr = 10 ∧ d2.thr = 10 by subst hd2 hd1 hd0; exact ⟨rfl, rfl, rfl⟩)
  have HD0 := Lib.hid hd0
  have HD1 := Lib.hid hd1
  have HD2 := Lib.hid hd2
  have HD3 := Lib.hid hd3
  have HPA := Lib.hid (px_sizeA ok00.1)
  clear hd0 hd1 hd2 hd3
  go_enter Try.func25, Try.ntmps25
  go_wp2_with fail
  refine (wdNew_w 1 (by omega) 100 10 (by omega) (by omega) _).mono ?_
  rintro e w1 ⟨B, S, L, rfl, hwL, hLS, hSB, hW1, hb1⟩
  rw [← HD0.out] at hW1
  have H1 := Lib.hid hW1
  have B1 := Lib.hid hb1
  clear hW1 hb1
  go_wp2_with (first
    | (refine store_obj rfl 30 (.tmp 3) (.tmp 8) rfl w1.heap.size 30 _ (pxC p00).toArray rfl rfl (Obj1.new _ _ _) rfl HPA.out (all_oneCell_toArray (pxC_one p00)) ?_; intro w2 hob hup; have HP2 := Lib.hid hob; have H2 := Lib.hid (H1.out.below (bl_upd (bl_alloc (Below.refl _ _) _) hup (Nat.le_refl _))); have B2 := Lib.hid (bl_next B1.out (bl_upd (bl_alloc (Below.refl _ _) _) hup (Nat.le_refl _))); clear hob hup)
    | (refine load_obj_g (by rfl) 30 (.tmp 3) rfl w1.heap.size 30 (pxC p00).toArray _ rfl HP2.out Try.underlying30 rfl HPA.out ?_))
  have hX : B < w1.heap.size ∧ S < w1.heap.size ∧ L < w1.heap.size := ⟨H1.out.1.lt, H1.out.2.2.1.lt, H1.out.2.2.2.lt⟩
  have HX := Lib.hid hX
  clear hX
  refine (wdAdd_w B S L 0 d0 O0.out 0 p00 ok00.1 9 _ H2.out).mono ?_
  rintro e w3 ⟨x, m3, hx, rfl, hW3, hu3⟩
  rw [← HD1.out] at hx hW3
  obtain rfl : x = ⟨p00, 9, 0⟩ := by rw [Q1.out] at hx; exact (Option.some.inj hx).symm
  rw [QT.out.1]
  have H3 := Lib.hid hW3
  have HP3 := Lib.hid (show Obj1 w3 w1.heap.size (pxC p00).toArray 30 from (hu3.2.2.2.2 _ HP2.out.lt (by have := HX.out; omega) (by have := HX.out; omega) (by have := HX.out; omega)).trans HP2.out)
  have B3 := Lib.hid (bl_upd3 B2.out hu3 (by omega) (by omega) hwL)
  clear hW3 hu3 hx
  go_wp2_with (refine load_obj_g (by rfl) 30 (.tmp 3) rfl w1.heap.size 30 (pxC p00).toArray _ rfl HP3.out Try.underlying30 rfl HPA.out ?_)
  refine (wdAdd_w B S L m3 d1 O1.out 0 p00 ok00.1 1 _ H3.out).mono ?_
  rintro e w4 ⟨x, m4, hx, rfl, hW4, hu4⟩
  rw [← HD2.out] at hx hW4
  obtain rfl : x = ⟨p00, 10, 0⟩ := by rw [Q2.out] at hx; exact (Option.some.inj hx).symm
  rw [QT.out.2.1]
  have H4 := Lib.hid hW4
  have HP4 := Lib.hid (show Obj1 w4 w1.heap.size (pxC p00).toArray 30 from (hu4.2.2.2.2 _ HP3.out.lt (by have := HX.out; omega) (by have := HX.out; omega) (by have := HX.out; omega)).trans HP3.out)
  have B4 := Lib.hid (bl_upd3 B3.out hu4 (by omega) (by omega) hwL)
  clear hW4 hu4 hx
  go_wp2_with (refine load_obj_g (by rfl) 30 (.tmp 3) rfl w1.heap.size 30 (pxC p00).toArray _ rfl HP4.out Try.underlying30 rfl HPA.out ?_)
  refine (wdAdd_w B S L m4 d2 O2.out 100 p00 ok00.1 1 _ H4.out).mono ?_
  rintro e w5 ⟨x, m5, hx, rfl, hW5, hu5⟩
  rw [← HD3.out] at hx hW5
  obtain rfl : x = ⟨p00, 1, 0⟩ := by rw [Q3.out] at hx; exact (Option.some.inj hx).symm
  rw [QT.out.2.2]
  have H5 := Lib.hid hW5
  have B5 := Lib.hid (bl_upd3 B4.out hu5 (by omega) (by omega) hwL)
  clear hW5 hu5 hx
  go_wp2_with fail
  refine (wdNumber_w B S L m5 d3 _ H5.out).mono ?_
  rintro e w' ⟨rfl, rfl⟩
  rw [QN.out]
  go_wp2
  go_ret
  exact ⟨rfl, B5.out⟩
end Go.Proofs.Ytdmfmanmhlnleaa
