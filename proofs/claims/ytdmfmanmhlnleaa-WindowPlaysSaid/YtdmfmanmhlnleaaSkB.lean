/- Rows of like cells, one behind the other; a sketch's object; a prefix is found. -/
import Derived.Test.YtdmfmanmhlnleaaSkA
import Derived.Deep.MidRow
namespace Go.Proofs.Ytdmfmanmhlnleaa
open Go.RowKit
set_option linter.unusedVariables false
set_option linter.unusedSimpArgs false

theorem slosC_nil : slosC [] = [] := rfl
theorem slosC_cons (s : Slo) (l : List Slo) : slosC (s :: l) = sloC s ++ slosC l := rfl
theorem slosC_append (l m : List Slo) : slosC (l ++ m) = slosC l ++ slosC m := by simp [slosC]
theorem slosC_length : ∀ {l : List Slo}, (∀ s ∈ l, okPx s.p) → (slosC l).length = l.length * 10
  | [], _ => rfl
  | s :: l, h => by
    rw [slosC_cons, List.length_append, sloC_length (h s (by simp)), slosC_length (l := l) (fun x hx => h x (by simp [hx]))]
    simp
    omega
theorem slosC_at : ∀ {l : List Slo}, (∀ s ∈ l, okPx s.p) → ∀ {k : Nat} {s : Slo}, l[k]? = some s → ∀ {q : Nat}, q < 10 → (slosC l)[k * 10 + q]? = (sloC s)[q]?
  | x :: l, h, 0, s, hk, q, hq => by
    simp at hk
    subst hk
    rw [slosC_cons, Nat.zero_mul, Nat.zero_add, List.getElem?_append_left (by rw [sloC_length (h x (by simp))]; exact hq)]
  | x :: l, h, k + 1, s, hk, q, hq => by
    rw [List.getElem?_cons_succ] at hk
    rw [slosC_cons, List.getElem?_append_right (by rw [sloC_length (h x (by simp))]; omega), sloC_length (h x (by simp)), show (k + 1) * 10 + q - 10 = k * 10 + q by omega]
    exact slosC_at (fun x hx => h x (by simp [hx])) hk hq
theorem slosC_take {l : List Slo} (h : ∀ s ∈ l, okPx s.p) (k : Nat) (hk : k ≤ l.length) : (slosC l).take (k * 10) = slosC (l.take k) := by
  have e : slosC l = slosC (l.take k) ++ slosC (l.drop k) := by rw [← slosC_append, List.take_append_drop]
  have hl : (slosC (l.take k)).length = k * 10 := by rw [slosC_length (fun x hx => h x (List.mem_of_mem_take hx)), List.length_take, Nat.min_eq_left hk]
  rw [e, List.take_left' hl]
theorem slosC_drop {l : List Slo} (h : ∀ s ∈ l, okPx s.p) (k : Nat) (hk : k ≤ l.length) : (slosC l).drop (k * 10) = slosC (l.drop k) := by
  have e : slosC l = slosC (l.take k) ++ slosC (l.drop k) := by rw [← slosC_append, List.take_append_drop]
  have hl : (slosC (l.take k)).length = k * 10 := by rw [slosC_length (fun x hx => h x (List.mem_of_mem_take hx)), List.length_take, Nat.min_eq_left hk]
  rw [e, List.drop_left' hl]
theorem slosC_set {l : List Slo} (h : ∀ s ∈ l, okPx s.p) {k : Nat} (s : Slo) (hk : k < l.length) : slosC (l.set k s) = (slosC l).take (k * 10) ++ (sloC s ++ (slosC l).drop (k * 10 + 10)) := by
  rw [slosC_take h k (by omega), show k * 10 + 10 = (k + 1) * 10 by omega, slosC_drop h (k + 1) (by omega), ← slosC_cons, ← slosC_append, List.set_eq_take_append_cons_drop, if_pos hk]
theorem sloC_count {s : Slo} (h : okPx s.p) (c : Int) : sloC { s with c := c } = (sloC s).set 8 (.int .i64 c) := by
  unfold sloC
  rw [List.set_append, if_neg (by rw [pxC_length h]; omega), pxC_length h]
  rfl
theorem slosC_count {l : List Slo} (h : ∀ s ∈ l, okPx s.p) {k : Nat} {s : Slo} (hk : l[k]? = some s) (c : Int) : slosC (l.set k { s with c := c }) = (slosC l).set (k * 10 + 8) (.int .i64 c) := by
  have hlt := (List.getElem?_eq_some_iff.1 hk).1
  have hs : okPx s.p := h s (List.mem_of_getElem? hk)
  have e : slosC l = slosC (l.take k) ++ (sloC s ++ slosC (l.drop (k + 1))) := by
    have : l = l.take k ++ s :: l.drop (k + 1) := by
      rw [← (List.getElem?_eq_some_iff.1 hk).2, List.getElem_cons_drop, List.take_append_drop]
    conv => lhs; rw [this]
    rw [slosC_append, slosC_cons]
  have hl : (slosC (l.take k)).length = k * 10 := by rw [slosC_length (fun x hx => h x (List.mem_of_mem_take hx)), List.length_take, Nat.min_eq_left (by omega)]
  rw [List.set_eq_take_append_cons_drop, if_pos hlt, slosC_append, slosC_cons, sloC_count hs, e, List.set_append, if_neg (by rw [hl]; omega), hl, show k * 10 + 8 - k * 10 = 8 by omega, List.set_append, if_pos (by rw [sloC_length hs]; omega)]

/-- A sketch as a value. -/
structure Sk where
  l : List Slo
  room : Nat
  total : Int
def okSk (s : Sk) : Prop := (1 ≤ s.room ∧ s.room ≤ 64) ∧ s.l.length ≤ s.room ∧ (∀ x ∈ s.l, okSlo x) ∧ (0 ≤ s.total ∧ s.total ≤ 4611686018427387904)
theorem okSk.px {s : Sk} (h : okSk s) : ∀ x ∈ s.l, okPx x.p := fun x hx => (h.2.2.1 x hx).1
/-- A row of a room that is made once. -/
def RoomO (w : World) (L n cap sz : Nat) (xs : List Value) (t : TypeId) : Prop := xs.length = n * sz ∧ n ≤ cap ∧ ∃ junk : List Value, junk.length = (cap - n) * sz ∧ Obj1 w L (xs ++ junk).toArray t
theorem RoomO.own {w : World} {L n cap sz : Nat} {xs : List Value} {t : TypeId} (h : RoomO w L n cap sz xs t) (hm : cap ≤ 9223372036854775807) : w.ownsRow L t sz (.slice (some ⟨L, 0, none⟩) n cap) n xs := by
  obtain ⟨h1, h2, junk, h3, h4⟩ := h
  refine ⟨h1, .inr ⟨L, cap, _, rfl, Nat.le_refl _, h4, h2, hm, ?_, ?_⟩⟩
  · simp only [List.size_toArray, List.length_append, h1, h3, ← Nat.add_mul]
    congr 1
    omega
  · rw [← h1]
    simp
theorem RoomO.of {w : World} {B L n cap sz : Nat} {xs : List Value} {t : TypeId} (h : w.ownsRow B t sz (.slice (some ⟨L, 0, none⟩) n cap) n xs) : RoomO w L n cap sz xs t := by
  obtain ⟨h1, h2⟩ := h
  rcases h2 with ⟨e, _⟩ | ⟨g, cap', cur, e, _, hg, hn, hm, hs, ht⟩
  · simp at e
  · simp only [Value.slice.injEq, Option.some.injEq, Addr.mk.injEq, and_true, true_and] at e
    obtain ⟨rfl, rfl⟩ := e
    refine ⟨h1, hn, cur.toList.drop (n * sz), ?_, ?_⟩
    · rw [List.length_drop, Array.length_toList, hs, Nat.sub_mul]
    · rw [← ht, List.take_append_drop]
      exact hg
theorem RoomO.below {w w' : World} {L n cap sz : Nat} {xs : List Value} {t : TypeId} (h : RoomO w L n cap sz xs t) (hb : Below w.heap.size w w') : RoomO w' L n cap sz xs t :=
  ⟨h.1, h.2.1, let ⟨j, h1, h2⟩ := h.2.2; ⟨j, h1, h2.below hb⟩⟩
theorem RoomO.grown {w w' : World} {L n cap sz : Nat} {xs : List Value} {t : TypeId} {row : Option Nat} (h : RoomO w L n cap sz xs t) (hg : w.grownBy w' row) (hne : some L ≠ row) : RoomO w' L n cap sz xs t :=
  ⟨h.1, h.2.1, let ⟨j, h1, h2⟩ := h.2.2; ⟨j, h1, h2.of_grown hg hne⟩⟩
theorem RoomO.cell {w : World} {L n cap sz : Nat} {xs : List Value} {t : TypeId} (h : RoomO w L n cap sz xs t) {j : Nat} {v : Value} (hj : xs[j]? = some v) : w.cell? ⟨L, j, none⟩ = some v := by
  obtain ⟨_, _, junk, _, h4⟩ := h
  rw [h4.cell, List.getElem?_toArray, List.getElem?_append_left (List.getElem?_eq_some_iff.1 hj).1, hj]
theorem RoomO.free {w : World} {L n cap sz : Nat} {xs : List Value} {t : TypeId} (h : RoomO w L n cap sz xs t) (j : Nat) : w.frozen? ⟨L, j, none⟩ = false := by
  obtain ⟨_, _, junk, _, h4⟩ := h
  exact h4.free j
theorem RoomO.lt {w : World} {L n cap sz : Nat} {xs : List Value} {t : TypeId} (h : RoomO w L n cap sz xs t) : L < w.heap.size := by
  obtain ⟨_, _, junk, _, h4⟩ := h
  exact h4.lt
theorem RoomO.set {w : World} {L n cap sz : Nat} {xs : List Value} {t : TypeId} (h : RoomO w L n cap sz xs t) (j : Nat) (hj : j < n * sz) (v : Value) : RoomO (w.setCell ⟨L, j, none⟩ v) L n cap sz (xs.set j v) t := by
  obtain ⟨h1, h2, junk, h3, h4⟩ := h
  refine ⟨by simp [h1], h2, junk, h3, ?_⟩
  have := h4.set j v
  rw [show (xs ++ junk).toArray.setIfInBounds j v = (xs.set j v ++ junk).toArray by rw [List.setIfInBounds_toArray, List.set_append, if_pos (by omega)]] at this
  exact this
theorem RoomO.cut {w : World} {L n cap sz : Nat} {xs : List Value} {t : TypeId} (h : RoomO w L n cap sz xs t) (m : Nat) (hm : m ≤ n) : RoomO w L m cap sz (xs.take (m * sz)) t := by
  obtain ⟨h1, h2, junk, h3, h4⟩ := h
  have hle : m * sz ≤ n * sz := Nat.mul_le_mul_right _ hm
  refine ⟨by rw [List.length_take, h1, Nat.min_eq_left hle], by omega, xs.drop (m * sz) ++ junk, ?_, ?_⟩
  · rw [List.length_append, List.length_drop, h1, h3, ← Nat.sub_mul, ← Nat.add_mul]
    congr 1
    omega
  · rw [← List.append_assoc, List.take_append_drop]
    exact h4

/-- The sketch's object: two blocks. -/
def SkO (w : World) (S L n : Nat) (s : Sk) : Prop := s.l.length = n ∧ Obj1 w S #[.slice (some ⟨L, 0, none⟩) n s.room, .int .i64 s.total] 77 ∧ RoomO w L n s.room 10 (slosC s.l) 32
theorem SkO.below {w w' : World} {S L n : Nat} {s : Sk} (h : SkO w S L n s) (hb : Below w.heap.size w w') : SkO w' S L n s := ⟨h.1, h.2.1.below hb, h.2.2.below hb⟩
theorem SkO.ne {w : World} {S L n : Nat} {s : Sk} (h : SkO w S L n s) : S ≠ L := by
  rintro rfl
  obtain ⟨_, h1, _, _, junk, _, h2⟩ := h
  have := h1.symm.trans h2
  simp at this
/-- What may have been written is the sketch, and new blocks. -/
def Upd2 (B D : Nat) (w w' : World) : Prop := w'.os = w.os ∧ w'.tape = w.tape ∧ w'.output = w.output ∧ w.heap.size ≤ w'.heap.size ∧ ∀ k, k < w.heap.size → k ≠ B → k ≠ D → w'.heap[k]? = w.heap[k]?
theorem Upd2.refl (B D : Nat) (w : World) : Upd2 B D w w := ⟨rfl, rfl, rfl, Nat.le_refl _, fun _ _ _ _ => rfl⟩
theorem Upd2.of_below {B D : Nat} {w w' : World} (h : Below w.heap.size w w') : Upd2 B D w w' := ⟨h.os, h.tape, h.output, h.size, fun k hk _ _ => h.block k hk⟩
theorem Upd2.trans {B D : Nat} {a b c : World} (h : Upd2 B D a b) (k : Upd2 B D b c) : Upd2 B D a c :=
  ⟨k.1.trans h.1, k.2.1.trans h.2.1, k.2.2.1.trans h.2.2.1, Nat.le_trans h.2.2.2.1 k.2.2.2.1, fun j hj h1 h2 => (k.2.2.2.2 j (Nat.lt_of_lt_of_le hj h.2.2.2.1) h1 h2).trans (h.2.2.2.2 j hj h1 h2)⟩
theorem Upd2.of1 {B D : Nat} {w w' : World} (h : Upd B w w') : Upd2 B D w w' := ⟨h.os, h.tape, h.output, h.size, fun k hk h1 _ => h.block k hk (by simpa using h1)⟩
theorem Upd2.of2 {B D : Nat} {w w' : World} (h : Upd D w w') : Upd2 B D w w' := ⟨h.os, h.tape, h.output, h.size, fun k hk _ h1 => h.block k hk (by simpa using h1)⟩
theorem Upd2.next {B D : Nat} {w W W' : World} (h : Upd2 B D w W) (k : Below W.heap.size W W') : Upd2 B D w W' := h.trans (Upd2.of_below k)
theorem bl_upd2 {w W W' : World} {B D : Nat} (h : Below w.heap.size w W) (k : Upd2 B D W W') (hB : w.heap.size ≤ B) (hD : w.heap.size ≤ D) : Below w.heap.size w W' :=
  ⟨k.1.trans h.os, k.2.1.trans h.tape, k.2.2.1.trans h.output, Nat.le_trans h.size k.2.2.2.1, fun j hj => (k.2.2.2.2 j (Nat.lt_of_lt_of_le hj h.size) (by omega) (by omega)).trans (h.block j hj)⟩
theorem Obj1.upd2 {w w' : World} {B D O : Nat} {cs : Array Value} {t : TypeId} (h : Obj1 w O cs t) (k : Upd2 B D w w') (h1 : O ≠ B) (h2 : O ≠ D) : Obj1 w' O cs t := (k.2.2.2.2 O h.lt h1 h2).trans h
end Go.Proofs.Ytdmfmanmhlnleaa
