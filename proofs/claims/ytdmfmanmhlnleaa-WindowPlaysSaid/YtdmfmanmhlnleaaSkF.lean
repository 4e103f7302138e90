/- What was seen, as it comes in; one slot is asked for; awake of bailifflaw18. -/
import Derived.Test.YtdmfmanmhlnleaaSkE
import Derived.Laws.ResultCell
namespace Go.Proofs.Ytdmfmanmhlnleaa
open Go.RowKit
set_option linter.unusedVariables false
set_option linter.unusedSimpArgs false

theorem okCells_sub {ks : List Kd} {cs : List Value} (h : okCells ks cs) (a b : Nat) : okCells ((ks.drop a).take b) ((cs.drop a).take b) := by
  refine ⟨by simp [h.1], fun j k v hk hv => ?_⟩
  rw [List.getElem?_take] at hk hv
  split at hk
  · rename_i hj
    rw [if_pos hj] at hv
    rw [List.getElem?_drop] at hk hv
    exact h.2 _ _ _ hk hv
  · cases hk
def pxKs : List Kd := .b :: List.replicate 7 (.i .u8)
theorem px_of {cs : List Value} (h : okCells pxKs cs) : ∃ p, okPx p ∧ cs = pxC p := by
  have hl : cs.length = 8 := by rw [h.1]; rfl
  obtain ⟨v6, h0⟩ := ok_bool h 0 rfl
  obtain ⟨l, e1, l1, b1⟩ := bytes_of (n := 7) (cs := (cs.drop 1).take 7) (okCells_sub h 1 7)
  refine ⟨⟨v6, l⟩, ⟨l1, b1⟩, ?_⟩
  unfold pxC
  match cs, hl with
  | c :: cs, hl =>
    simp at h0 hl e1
    rw [h0, ← e1, List.take_of_length_le (by omega)]
theorem pxA_of {cs : Array Value} (h : okCells pxKs cs.toList) : ∃ p, okPx p ∧ cs = (pxC p).toArray := by
  obtain ⟨p, h1, h2⟩ := px_of h
  exact ⟨p, h1, by rw [← h2]⟩

/-- A prefix, and how much it has sent. -/
structure Sn where
  p : Px
  n : Int
def snC (s : Sn) : List Value := pxC s.p ++ [.int .i64 s.n]
def okSn (s : Sn) : Prop := okPx s.p ∧ -9223372036854775808 ≤ s.n ∧ s.n ≤ 9223372036854775807
theorem snC_length {s : Sn} (h : okPx s.p) : (snC s).length = 9 := by simp [snC, pxC_length h]
def snKs : List Kd := pxKs ++ [.i .i64]
theorem sn_of {cs : List Value} (h : okCells snKs cs) : ∃ s, okSn s ∧ cs = snC s := by
  have hl : cs.length = 9 := by rw [h.1]; rfl
  obtain ⟨n, h8, wn⟩ := ok_int h 8 .i64 rfl
  obtain ⟨p, hp, e⟩ := px_of (okCells_sub h 0 8)
  refine ⟨⟨p, n⟩, ⟨hp, i64_range wn⟩, ?_⟩
  unfold snC
  rw [← e]
  apply List.ext_getElem?
  intro j
  rcases Nat.lt_trichotomy j 8 with hj | hj | hj
  · rw [List.getElem?_append_left (by simp [hl]; omega)]
    simp [hj]
  · subst hj
    rw [List.getElem?_append_right (by simp [hl]), h8]
    simp [hl]
  · rw [List.getElem?_eq_none (by omega), List.getElem?_eq_none (by simp [hl]; omega)]
theorem rows_sn : ∀ {rows : List (List Value)}, (∀ r ∈ rows, okCells snKs r) → ∃ L : List Sn, rows = L.map snC ∧ ∀ s ∈ L, okSn s
  | [], _ => ⟨[], rfl, fun s h => by cases h⟩
  | r :: rows, h => by
    obtain ⟨s, h1, rfl⟩ := sn_of (h r (by simp))
    obtain ⟨L, rfl, h2⟩ := rows_sn (rows := rows) (fun x hx => h x (by simp [hx]))
    refine ⟨s :: L, rfl, fun x hx => ?_⟩
    rcases List.mem_cons.1 hx with h | h
    · rw [h]; exact h1
    · exact h2 x h
/-- What was seen lies in memory. -/
def SnRd (w : World) (A : Option Addr) (L : List Sn) : Prop := ∀ k s, L[k]? = some s → ∃ b off, A = some ⟨b, off, none⟩ ∧ ∀ q v, (snC s)[q]? = some v → w.cell? ((⟨b, off + k * 9, none⟩ : Addr).add q) = some v
theorem SlP.seen {W : World} {A : Option Addr} {n c : Nat} {rows : List (List Value)} (h : SlP snKs W A n c rows) : ∃ L : List Sn, L.length = n ∧ n ≤ 9223372036854775807 ∧ (∀ s ∈ L, okSn s) ∧ SnRd W A L := by
  obtain ⟨L, rfl, hok⟩ := rows_sn h.2.2.2.1
  have hl := h.1
  rw [List.length_map] at hl
  refine ⟨L, hl, Nat.le_trans h.2.1 h.2.2.1, hok, fun k s hk => ?_⟩
  obtain ⟨b, off, rfl⟩ := h.addr (by have := (List.getElem?_eq_some_iff.1 hk).1; omega) (by decide)
  refine ⟨b, off, rfl, fun q v hq => ?_⟩
  have := h.cell (j := k) (r := snC s) (by rw [List.getElem?_map, hk]; rfl) hq
  rw [add_flat]
  exact this
theorem sn_px {s : Sn} {j : Nat} {v : Value} (h : (pxC s.p)[j]? = some v) : (snC s)[j]? = some v := by
  unfold snC
  rw [List.getElem?_append_left (List.getElem?_eq_some_iff.1 h).1]
  exact h
theorem sn_n {s : Sn} (h : okPx s.p) : (snC s)[8]? = some (.int .i64 s.n) := by
  unfold snC
  rw [List.getElem?_append_right (by rw [pxC_length h]; omega), pxC_length h]
  rfl

/-- All is counted. -/
def skRun (s : Sk) (L : List Sn) : Sk := L.foldl (fun s x => skAdd s x.p x.n) s
theorem skRun_step (s : Sk) {L : List Sn} {k : Nat} {x : Sn} (h : L[k]? = some x) : skRun s (L.take (k + 1)) = skAdd (skRun s (L.take k)) x.p x.n := by
  obtain ⟨hk, rfl⟩ := List.getElem?_eq_some_iff.1 h
  unfold skRun
  rw [List.take_succ_eq_append_getElem hk, List.foldl_append]
  rfl
theorem skAdd_room (s : Sk) (p : Px) (n : Int) : (skAdd s p n).room = s.room := rfl
theorem addAt_mem {l : List Slo} {k : Nat} {n : Int} {x : Slo} (h : x ∈ addAt l k n) : x ∈ l ∨ ∃ y, l[k]? = some y ∧ x = { y with c := plus (cnt y.c) n } := by
  unfold addAt at h
  split at h
  · rename_i y hy
    rcases List.mem_or_eq_of_mem_set h with h | h
    · exact .inl h
    · exact .inr ⟨y, hy, h⟩
  · exact .inl h
theorem addAt_length (l : List Slo) (k : Nat) (n : Int) : (addAt l k n).length = l.length := by
  unfold addAt
  split <;> simp
theorem cntAt_ok {l : List Slo} (h : ∀ x ∈ l, okSlo x) (k : Nat) : 0 ≤ cntAt l k ∧ cntAt l k ≤ 4611686018427387904 := by
  unfold cntAt
  split
  · rename_i x hx
    exact (h x (List.mem_of_getElem? hx)).2.1
  · decide
theorem skBase_ok {s : Sk} (h : okSk s) {p : Px} (hp : okPx p) : (skBase s p).length ≤ s.room ∧ ∀ x ∈ skBase s p, okSlo x := by
  obtain ⟨h1, h2, h3, h4⟩ := h
  have h0 : (0 : Int) ≤ 0 ∧ (0 : Int) ≤ 4611686018427387904 := by decide
  unfold skBase
  split
  · exact ⟨h2, h3⟩
  · split
    · refine ⟨by simp; omega, fun x hx => ?_⟩
      rcases List.mem_append.1 hx with h | h
      · exact h3 x h
      · simp at h
        rw [h]
        exact ⟨hp, h0, h0⟩
    · refine ⟨by simpa using h2, fun x hx => ?_⟩
      rcases List.mem_or_eq_of_mem_set hx with h | h
      · exact h3 x h
      · rw [h]
        exact ⟨hp, cntAt_ok h3 _, cntAt_ok h3 _⟩
theorem skAdd_ok {s : Sk} (h : okSk s) {p : Px} (hp : okPx p) (n : Int) : okSk (skAdd s p n) := by
  have hb := skBase_ok h hp
  refine ⟨h.1, ?_, fun x hx => ?_, plus_range _ _ (cnt_range _)⟩
  · show (addAt _ _ _).length ≤ s.room
    rw [addAt_length]
    exact hb.1
  · rcases addAt_mem hx with h | ⟨y, hy, rfl⟩
    · exact hb.2 x h
    · have := hb.2 y (List.mem_of_getElem? hy)
      exact ⟨this.1, plus_range _ _ (cnt_range _), this.2.2⟩
theorem skRun_ok {s : Sk} (h : okSk s) {L : List Sn} (hL : ∀ x ∈ L, okPx x.p) : okSk (skRun s L) := by
  induction L generalizing s with
  | nil => exact h
  | cons x L ih => exact ih (skAdd_ok h (hL x (by simp)) x.n) (fun y hy => hL y (by simp [hy]))
theorem skRun_room (s : Sk) (L : List Sn) : (skRun s L).room = s.room := by
  induction L generalizing s with
  | nil => rfl
  | cons x L ih => exact ih _

theorem getYes_w (S L n : Nat) (s : Sk) (hsk : okSk s) (p : Px) (hp : okPx p) (x : Slo) (w : World) (h : SkO w S L n s) (hf : s.l[fnd s.l p]? = some x) :
    Calls Try.prog 19 #[.pointer (some ⟨S, 0, none⟩), .agg (pxC p).toArray] w fun e w' => e = .returned (.tuple #[.agg (sloC x).toArray, .bool true]) ∧ Below w.heap.size w w' := by
  have HN := Lib.hid h.1
  have HPA := Lib.hid (px_sizeA hp)
  have hb1 := bl_alloc (Below.refl w.heap.size w) (.cells (pxC p).toArray 30)
  have hb2 := bl_next hb1 (bl_alloc (Below.refl _ _) (.cells #[.bool false, .int .u8 0, .int .u8 0, .int .u8 0, .int .u8 0, .int .u8 0, .int .u8 0, .int .u8 0, .int .i64 0, .int .i64 0] 32))
  have HB0 := Lib.hid hb2
  have HK0 := Lib.hid ((Obj1.new w (pxC p).toArray 30).alloc (.cells #[.bool false, .int .u8 0, .int .u8 0, .int .u8 0, .int .u8 0, .int .u8 0, .int .u8 0, .int .u8 0, .int .i64 0, .int .i64 0] 32))
  have HR0 := Lib.hid (show Obj1 ((w.alloc (.cells (pxC p).toArray 30)).alloc (.cells #[.bool false, .int .u8 0, .int .u8 0, .int .u8 0, .int .u8 0, .int .u8 0, .int .u8 0, .int .u8 0, .int .i64 0, .int .i64 0] 32)) (w.heap.size + 1) #[.bool false, .int .u8 0, .int .u8 0, .int .u8 0, .int .u8 0, .int .u8 0, .int .u8 0, .int .u8 0, .int .i64 0, .int .i64 0] 32 by
    have := Obj1.new (w.alloc (.cells (pxC p).toArray 30)) #[.bool false, .int .u8 0, .int .u8 0, .int .u8 0, .int .u8 0, .int .u8 0, .int .u8 0, .int .u8 0, .int .i64 0, .int .i64 0] 32
    rwa [World.size_alloc] at this)
  have HT0 := Lib.hid (h.below hb2)
  have hfv : fndV s.l p = (fnd s.l p : Int) := by unfold fndV; rw [if_pos (List.getElem?_eq_some_iff.1 hf).1]
  obtain ⟨k, hk⟩ : ∃ k, fnd s.l p = k := ⟨_, rfl⟩
  rw [hk] at hf hfv
  have hkn : k < n := by rw [← HN.out]; exact (List.getElem?_eq_some_iff.1 hf).1
  have hxp := hsk.px x (List.mem_of_getElem? hf)
  have k0 : (0 : Int) ≤ (k : Int) := Int.natCast_nonneg k
  have k1 : (k : Int) < (n : Int) := by omega
  have HF := Lib.hid hf
  have HFV := Lib.hid hfv
  have HSZ := Lib.hid (slo_size hxp)
  have HSA := Lib.hid (slo_sizeA hxp)
  have hlen := sloC_length hxp
  clear h hb1 hb2 hf hfv hk
  go_enter Try.func19, Try.ntmps19
  go_wp2_with (refine load_obj rfl 30 (.tmp 3) rfl w.heap.size 30 (pxC p).toArray _ rfl HK0.out Try.underlying30 rfl HPA.out ?_)
  refine (find_w S L n s hsk p hp _ HT0.out).mono ?_
  rintro e w2 ⟨rfl, hb2⟩
  rw [HFV.out]
  have HT2 := Lib.hid (HT0.out.below hb2)
  have HR2 := Lib.hid (HR0.out.below hb2)
  have HB2 := Lib.hid (bl_next HB0.out hb2)
  clear hb2
  have q0 : w2.cell? ⟨S, 0, none⟩ = some (.slice (some ⟨L, 0, none⟩) n s.room) := HT2.out.2.1.cell 0
  have HC := Lib.hid (slo_cells HT2.out.2.2 hsk.px HF.out)
  go_wp2_with (first
      | (refine load_cells rfl 32 (.tmp 18) rfl ⟨L, k * 10, none⟩ (sloC x) _ rfl HC.out Try.underlying32 rfl HSZ.out ?_)
      | (refine store_obj rfl 32 (.tmp 4) (.tmp 19) rfl (w.heap.size + 1) 32 _ (sloC x).toArray rfl rfl HR2.out (by simp [hlen]) HSA.out (all_oneCell_toArray (sloC_one x)) ?_; intro w9 hob9 hup9; have HOB9 := Lib.hid hob9; have HUP9 := Lib.hid hup9; clear hob9 hup9))
  refine bodyPost_ret (v := .tuple #[.agg (sloC x).toArray, .bool true]) ?_ rfl ?_
  · rw [results_cell_tmp (p := 4) (u := 5) (ty := 32) rfl]
    show (Result.andThen (.ok (⟨w.heap.size + 1, 0, none⟩ : Addr) w9) _) = _
    simp only [Result.andThen_ok]
    rw [run_loadVar_row (P := Try.prog) w9 (w.heap.size + 1) 32 32 (sloC x).toArray (0, 0) _ HOB9.out Try.underlying32 rfl HSA.out]
    rfl
  · exact ⟨rfl, bl_upd HB2.out HUP9.out (by omega)⟩

theorem getNo_w (S L n : Nat) (s : Sk) (hsk : okSk s) (p : Px) (hp : okPx p) (w : World) (h : SkO w S L n s) (hf : ¬ fnd s.l p < s.l.length) :
    Calls Try.prog 19 #[.pointer (some ⟨S, 0, none⟩), .agg (pxC p).toArray] w fun e w' => e = .returned (.tuple #[.agg #[.bool false, .int .u8 0, .int .u8 0, .int .u8 0, .int .u8 0, .int .u8 0, .int .u8 0, .int .u8 0, .int .i64 0, .int .i64 0], .bool false]) ∧ Below w.heap.size w w' := by
  have HPA := Lib.hid (px_sizeA hp)
  have hb1 := bl_alloc (Below.refl w.heap.size w) (.cells (pxC p).toArray 30)
  have hb2 := bl_next hb1 (bl_alloc (Below.refl _ _) (.cells #[.bool false, .int .u8 0, .int .u8 0, .int .u8 0, .int .u8 0, .int .u8 0, .int .u8 0, .int .u8 0, .int .i64 0, .int .i64 0] 32))
  have HB0 := Lib.hid hb2
  have HK0 := Lib.hid ((Obj1.new w (pxC p).toArray 30).alloc (.cells #[.bool false, .int .u8 0, .int .u8 0, .int .u8 0, .int .u8 0, .int .u8 0, .int .u8 0, .int .u8 0, .int .i64 0, .int .i64 0] 32))
  have HR0 := Lib.hid (show Obj1 ((w.alloc (.cells (pxC p).toArray 30)).alloc (.cells #[.bool false, .int .u8 0, .int .u8 0, .int .u8 0, .int .u8 0, .int .u8 0, .int .u8 0, .int .u8 0, .int .i64 0, .int .i64 0] 32)) (w.heap.size + 1) #[.bool false, .int .u8 0, .int .u8 0, .int .u8 0, .int .u8 0, .int .u8 0, .int .u8 0, .int .u8 0, .int .i64 0, .int .i64 0] 32 by
    have := Obj1.new (w.alloc (.cells (pxC p).toArray 30)) #[.bool false, .int .u8 0, .int .u8 0, .int .u8 0, .int .u8 0, .int .u8 0, .int .u8 0, .int .u8 0, .int .i64 0, .int .i64 0] 32
    rwa [World.size_alloc] at this)
  have HT0 := Lib.hid (h.below hb2)
  have HFV := Lib.hid (show fndV s.l p = -1 by unfold fndV; rw [if_neg hf])
  clear h hb1 hb2 hf
  go_enter Try.func19, Try.ntmps19
  go_wp2_with (refine load_obj rfl 30 (.tmp 3) rfl w.heap.size 30 (pxC p).toArray _ rfl HK0.out Try.underlying30 rfl HPA.out ?_)
  refine (find_w S L n s hsk p hp _ HT0.out).mono ?_
  rintro e w2 ⟨rfl, hb2⟩
  rw [HFV.out]
  have HR2 := Lib.hid (HR0.out.below hb2)
  have HB2 := Lib.hid (bl_next HB0.out hb2)
  clear hb2
  go_wp2_with (refine store_obj rfl 32 (.tmp 4) (.tmp 12) rfl (w.heap.size + 1) 32 _ #[.bool false, .int .u8 0, .int .u8 0, .int .u8 0, .int .u8 0, .int .u8 0, .int .u8 0, .int .u8 0, .int .i64 0, .int .i64 0] rfl rfl HR2.out rfl rfl (all_oneCell_toArray (sloC_one ⟨⟨false, [0, 0, 0, 0, 0, 0, 0]⟩, 0, 0⟩)) ?_; intro w9 hob9 hup9; have HOB9 := Lib.hid hob9; have HUP9 := Lib.hid hup9; clear hob9 hup9)
  refine bodyPost_ret (v := .tuple #[.agg #[.bool false, .int .u8 0, .int .u8 0, .int .u8 0, .int .u8 0, .int .u8 0, .int .u8 0, .int .u8 0, .int .i64 0, .int .i64 0], .bool false]) ?_ rfl ?_
  · rw [results_cell_tmp (p := 4) (u := 5) (ty := 32) rfl]
    show (Result.andThen (.ok (⟨w.heap.size + 1, 0, none⟩ : Addr) w9) _) = _
    simp only [Result.andThen_ok]
    rw [run_loadVar_row (P := Try.prog) w9 (w.heap.size + 1) 32 32 #[.bool false, .int .u8 0, .int .u8 0, .int .u8 0, .int .u8 0, .int .u8 0, .int .u8 0, .int .u8 0, .int .i64 0, .int .i64 0] (0, 0) _ HOB9.out Try.underlying32 rfl rfl]
    rfl
  · exact ⟨rfl, bl_upd HB2.out HUP9.out (by omega)⟩

def p00 : Px := ⟨false, [0, 0, 0, 0, 0, 0, 0]⟩
def p10 : Px := ⟨true, [0, 0, 0, 0, 0, 0, 0]⟩
theorem ok00 : okPx p00 ∧ okPx p10 := by
  refine ⟨⟨rfl, fun x hx => ?_⟩, ⟨rfl, fun x hx => ?_⟩⟩ <;> (simp [p00, p10] at hx; omega)

set_option maxHeartbeats 2000000 in
theorem awake18_w (w : World) : Calls Try.prog 12 #[] w fun e w' => e = .returned (.bool true) ∧ Below w.heap.size w w' := by
  have HQ := Lib.hid (show (skAdd (skAdd (skNew 1) p00 5) p10 1).l[skAt (skAdd (skNew 1) p00 5) p10]? = some ⟨p10, 6, 5⟩ ∧ (skAdd (skAdd (skNew 1) p00 5) p10 1).total = 6 from ⟨by rfl, by rfl⟩)
  have HO0 := Lib.hid (skNew_ok (n := 1) (by omega))
  have HO1 := Lib.hid (skAdd_ok HO0.out ok00.1 5)
  go_enter Try.func12, Try.ntmps12
  go_wp2_with fail
  refine (skNew_w 1 (by omega) _).mono ?_
  rintro e w1 ⟨S, L, rfl, hwL, hLS, hS1, hb1⟩
  have H1 := Lib.hid hS1
  have HB1 := Lib.hid hb1
  clear hS1 hb1
  go_wp2_with fail
  refine (skAdd_w S L 0 (skNew 1) HO0.out p00 ok00.1 5 _ H1.out).mono ?_
  rintro e w2 ⟨x1, m1, _, rfl, hS2, hu2⟩
  have H2 := Lib.hid hS2
  have HB2 := Lib.hid (bl_upd2 HB1.out hu2 (by omega) hwL)
  clear hS2 hu2
  go_wp2_with fail
  refine (skAdd_w S L m1 (skAdd (skNew 1) p00 5) HO1.out p10 ok00.2 1 _ H2.out).mono ?_
  rintro e w3 ⟨x2, m2, hx2, rfl, hS3, hu3⟩
  obtain rfl : x2 = ⟨p10, 6, 5⟩ := by rw [HQ.out.1] at hx2; exact (Option.some.inj hx2).symm
  have H3 := Lib.hid hS3
  have HB3 := Lib.hid (bl_upd2 HB2.out hu3 (by omega) hwL)
  clear hS3 hu3 hx2
  go_wp2_with (first
    | (refine store_obj rfl 32 (.tmp 3) (.tmp 13) rfl w3.heap.size 32 _ (sloC ⟨p10, 6, 5⟩).toArray rfl rfl (Obj1.new _ _ _) rfl rfl (all_oneCell_toArray (sloC_one _)) ?_; intro w5 hob hup; have r0 : w5.cell? ⟨w3.heap.size, 8, none⟩ = some (.int .i64 6) := hob.cell 8; have r1 : w5.cell? ⟨w3.heap.size, 9, none⟩ = some (.int .i64 5) := hob.cell 9; have H5 := Lib.hid ((H3.out.below (bl_upd (bl_alloc (Below.refl _ _) _) hup (Nat.le_refl _)))); have HB5 := Lib.hid (bl_next HB3.out (bl_upd (bl_alloc (Below.refl _ _) _) hup (Nat.le_refl _))); clear hob hup))
  refine (skTotal_w S L m2 _ _ H5.out).mono ?_
  rintro e w' ⟨rfl, rfl⟩
  rw [HQ.out.2]
  go_wp2
  go_ret
  exact ⟨rfl, HB5.out⟩
end Go.Proofs.Ytdmfmanmhlnleaa
