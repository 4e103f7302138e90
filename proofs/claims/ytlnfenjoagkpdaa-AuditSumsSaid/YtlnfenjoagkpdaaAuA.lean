/- Departures, and what is told of a log, in plain words. -/
import Derived.Test.YtlnfenjoagkpdaaRow
import Derived.Test.YtlnfenjoagkpdaaNumB
namespace Go.Proofs.Ytlnfenjoagkpdaa
open Go.RowKit
set_option linter.unusedVariables false
set_option linter.unusedSimpArgs false

/-- A departure. -/
structure Dp where
  sq : Int
  cl : Int
  ln : Int
  st : Int
  fi : Int
def dpC (d : Dp) : List Value := [.int .i64 d.sq, .int .i64 d.cl, .int .i64 d.ln, .int .i64 d.st, .int .i64 d.fi]
theorem dpC_len (l : List Dp) : ∀ x ∈ l, (dpC x).length = 5 := fun _ _ => rfl
def in64 (n : Int) : Prop := -9223372036854775808 ≤ n ∧ n ≤ 9223372036854775807
def okDp (d : Dp) : Prop := in64 d.sq ∧ in64 d.cl ∧ in64 d.ln ∧ in64 d.st ∧ in64 d.fi
theorem dp_of {w : World} {r : List Value} (h : okCellsS w (List.replicate 5 (.i .i64)) r) : ∃ d, r = dpC d ∧ okDp d := by
  obtain ⟨a, ha, wa⟩ := okS_int h 0 .i64 rfl
  obtain ⟨b, hb, wb⟩ := okS_int h 1 .i64 rfl
  obtain ⟨c, hc, wc⟩ := okS_int h 2 .i64 rfl
  obtain ⟨d, hd, wd⟩ := okS_int h 3 .i64 rfl
  obtain ⟨e, he, we⟩ := okS_int h 4 .i64 rfl
  have hl : r.length = 5 := h.1
  refine ⟨⟨a, b, c, d, e⟩, ?_, i64_range wa, i64_range wb, i64_range wc, i64_range wd, i64_range we⟩
  match r, hl with
  | [v0, v1, v2, v3, v4], _ =>
    simp at ha hb hc hd he
    subst ha hb hc hd he
    rfl
theorem rows_dp {w : World} : ∀ (rows : List (List Value)), (∀ r ∈ rows, okCellsS w (List.replicate 5 (.i .i64)) r) → ∃ l : List Dp, rows = l.map dpC ∧ ∀ d ∈ l, okDp d
  | [], _ => ⟨[], rfl, by simp⟩
  | r :: rows, h => by
    obtain ⟨d, rfl, hd⟩ := dp_of (h r (by simp))
    obtain ⟨l, rfl, hl⟩ := rows_dp rows (fun r hr => h r (by simp [hr]))
    exact ⟨d :: l, rfl, by simpa using ⟨hd, hl⟩⟩
/-- A log that is read. -/
def SlD (w : World) (A : Option Addr) (n c : Nat) (l : List Dp) : Prop := l.length = n ∧ n ≤ c ∧ c ≤ 9223372036854775807 ∧ Rd w A (fl dpC l)
theorem SlD.below {w w' : World} {A : Option Addr} {n c : Nat} {l : List Dp} (h : SlD w A n c l) (hb : Below w.heap.size w w') : SlD w' A n c l := ⟨h.1, h.2.1, h.2.2.1, h.2.2.2.below hb⟩
theorem SlQ.dps {w : World} {A : Option Addr} {n c : Nat} {rows : List (List Value)} (h : SlQ (List.replicate 5 (.i .i64)) w A n c rows) : ∃ l : List Dp, SlD w A n c l ∧ ∀ d ∈ l, okDp d := by
  obtain ⟨l, rfl, hl⟩ := rows_dp rows h.2.2.2.1
  refine ⟨l, ⟨by simpa using h.1, h.2.1, h.2.2.1, fun j v hj => ?_⟩, hl⟩
  have hj5 := (List.getElem?_eq_some_iff.1 hj).1
  rw [fl_length l (dpC_len l)] at hj5
  have hq : j / 5 < l.length := by omega
  obtain ⟨d, hd⟩ : ∃ d, l[j / 5]? = some d := ⟨_, List.getElem?_eq_getElem hq⟩
  have hv := fl_at (dpC_len l) hd (q := j % 5) (by omega)
  rw [show j / 5 * 5 + j % 5 = j by omega, hj] at hv
  have := h.2.2.2.2 (j / 5) (dpC d) (j % 5) v (by simp [hd]) hv.symm
  rwa [show j / 5 * (List.replicate 5 (KdS.i .i64)).length + j % 5 = j by simp; omega] at this
theorem SlD.dp {w : World} {A : Option Addr} {n c : Nat} {l : List Dp} (h : SlD w A n c l) {j : Nat} {d : Dp} (hj : l[j]? = some d) : ∃ b o, A = some ⟨b, o, none⟩ ∧ w.cell? ⟨b, o + j * 5, none⟩ = some (.int .i64 d.sq) ∧ w.cell? ⟨b, o + j * 5 + 1, none⟩ = some (.int .i64 d.cl) ∧ w.cell? ⟨b, o + j * 5 + 2, none⟩ = some (.int .i64 d.ln) ∧ w.cell? ⟨b, o + j * 5 + 3, none⟩ = some (.int .i64 d.st) ∧ w.cell? ⟨b, o + j * 5 + 4, none⟩ = some (.int .i64 d.fi) := by
  have h0 := fl_at (dpC_len l) hj (q := 0) (by omega)
  obtain ⟨x0, hx0⟩ : ∃ x0, l[0]? = some x0 := ⟨_, List.getElem?_eq_getElem (by have := (List.getElem?_eq_some_iff.1 hj).1; omega)⟩
  obtain ⟨ad, rfl, hc0⟩ := h.2.2.2 _ _ (fl_at (dpC_len l) hx0 (q := 0) (by omega))
  have hs := World.cell?_spot hc0
  obtain ⟨b, o, sp⟩ := ad
  simp [Addr.add] at hs
  subst hs
  have key : ∀ (q : Nat) (v : Value), (dpC d)[q]? = some v → q < 5 → w.cell? ⟨b, o + j * 5 + q, none⟩ = some v := by
    intro q v hq hlt
    obtain ⟨ad, e, hc⟩ := h.2.2.2 _ _ ((fl_at (dpC_len l) hj hlt).trans hq)
    cases e
    rwa [add_flat, ← Nat.add_assoc] at hc
  exact ⟨b, o, rfl, key 0 _ rfl (by omega), key 1 _ rfl (by omega), key 2 _ rfl (by omega), key 3 _ rfl (by omega), key 4 _ rfl (by omega)⟩

/-- None overlaps the one ahead of it. -/
def apartP (l : List Dp) : Prop := ∀ (k : Nat) (x y : Dp), l[k]? = some x → l[k + 1]? = some y → x.fi ≤ y.st
/-- Each lasts as long as it should. -/
def exactP (l : List Dp) (ns : Int) : Prop := ∀ d ∈ l, d.fi = plus (cnt d.st) (mulC d.ln ns)
/-- None was sent twice. -/
def onceP (l : List Dp) : Prop := (l.map (·.sq)).Nodup
def addS (c : Int) (s : Int) (d : Dp) : Int := if d.cl = c then plus (cnt s) d.ln else s
/-- How much a class was given. -/
def servedV (l : List Dp) (c : Int) : Int := l.foldl (addS c) 0
theorem addS_range {c s : Int} (d : Dp) (h : 0 ≤ s ∧ s ≤ 4611686018427387904) : 0 ≤ addS c s d ∧ addS c s d ≤ 4611686018427387904 := by
  unfold addS
  split
  · exact plus_range _ _ (cnt_range s)
  · exact h
theorem foldS_range (c : Int) : ∀ (l : List Dp) (s : Int), (0 ≤ s ∧ s ≤ 4611686018427387904) → 0 ≤ l.foldl (addS c) s ∧ l.foldl (addS c) s ≤ 4611686018427387904
  | [], s, h => h
  | d :: l, s, h => foldS_range c l _ (addS_range d h)
theorem servedV_range (l : List Dp) (c : Int) : 0 ≤ servedV l c ∧ servedV l c ≤ 4611686018427387904 := foldS_range c l 0 ⟨Int.le_refl 0, by omega⟩
theorem servedV_take {l : List Dp} {k : Nat} {d : Dp} (h : l[k]? = some d) (c : Int) : servedV (l.take (k + 1)) c = addS c (servedV (l.take k) c) d := by
  obtain ⟨hk, rfl⟩ := List.getElem?_eq_some_iff.1 h
  unfold servedV
  rw [List.take_succ_eq_append_getElem hk, List.foldl_append]
  rfl
theorem plus_ass {s x f : Int} (hs : 0 ≤ s ∧ s ≤ 4611686018427387904) (hf : 0 ≤ f ∧ f ≤ 4611686018427387904) : plus (plus s x) f = plus s (plus (plus 0 x) f) := by
  have hx := cnt_range x
  have h1 := plus_range 0 x ⟨Int.le_refl 0, by omega⟩
  have h2 := plus_range (plus 0 x) f h1
  have e1 := cnt_id f hf.1 hf.2
  have e2 := cnt_id _ h2.1 h2.2
  unfold plus at *
  rw [e1] at *
  rw [e2]
  repeat' split
  all_goals omega
theorem foldS_from (c : Int) : ∀ (l : List Dp) (s : Int), (0 ≤ s ∧ s ≤ 4611686018427387904) → l.foldl (addS c) s = plus s (l.foldl (addS c) 0)
  | [], s, h => by
    show s = plus s 0
    unfold plus
    rw [cnt_id 0 (by omega) (by omega), if_neg (by omega)]
    omega
  | d :: l, s, h => by
    rw [List.foldl_cons, List.foldl_cons, foldS_from c l _ (addS_range d h), foldS_from c l _ (addS_range d ⟨Int.le_refl 0, by omega⟩)]
    have hf := foldS_range c l 0 ⟨Int.le_refl 0, by omega⟩
    generalize hF : l.foldl (addS c) 0 = F at hf ⊢
    by_cases hc : d.cl = c
    · have e1 : addS c s d = plus (cnt s) d.ln := if_pos hc
      have e2 : addS c 0 d = plus (cnt 0) d.ln := if_pos hc
      rw [e1, e2, cnt_id s h.1 h.2, cnt_id 0 (by omega) (by omega)]
      exact plus_ass h hf
    · have e1 : addS c s d = s := if_neg hc
      have e2 : addS c 0 d = 0 := if_neg hc
      rw [e1, e2]
      have e3 : plus 0 F = F := by
        unfold plus
        rw [cnt_id F hf.1 hf.2]
        split <;> omega
      rw [e3]
theorem served_parts (a b : List Dp) (c : Int) : servedV (a ++ b) c = plus (cnt (servedV a c)) (servedV b c) := by
  unfold servedV
  rw [List.foldl_append, foldS_from c b _ (foldS_range c a 0 ⟨Int.le_refl 0, by omega⟩)]
  have h := foldS_range c a 0 ⟨Int.le_refl 0, by omega⟩
  rw [cnt_id _ h.1 h.2]
theorem exact_parts (a b : List Dp) (ns : Int) : exactP (a ++ b) ns ↔ exactP a ns ∧ exactP b ns := by
  unfold exactP
  constructor
  · intro h
    exact ⟨fun d hd => h d (by simp [hd]), fun d hd => h d (by simp [hd])⟩
  · rintro ⟨h1, h2⟩ d hd
    rcases List.mem_append.1 hd with h | h
    · exact h1 d h
    · exact h2 d h
theorem once_parts {a b : List Dp} (h : onceP (a ++ b)) : onceP a ∧ onceP b := by
  unfold onceP at *
  rw [List.map_append] at h
  exact ⟨(List.nodup_append.1 h).1, (List.nodup_append.1 h).2.1⟩
theorem apart_take {l : List Dp} (h : apartP l) (n : Nat) : apartP (l.take n) := by
  intro k x y hx hy
  rw [List.getElem?_take] at hx hy
  split at hx
  · split at hy
    · exact h k x y hx hy
    · cases hy
  · cases hx
theorem apart_drop {l : List Dp} (h : apartP l) (n : Nat) : apartP (l.drop n) := by
  intro k x y hx hy
  rw [List.getElem?_drop] at hx hy
  exact h (n + k) x y hx (by rw [Nat.add_assoc]; exact hy)
end Go.Proofs.Ytlnfenjoagkpdaa
