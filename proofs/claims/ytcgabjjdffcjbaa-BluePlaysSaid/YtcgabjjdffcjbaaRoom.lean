/- Rows of a room that is made once; two blocks that are written; loads and stores of whole objects. -/
import Derived.Test.YtcgabjjdffcjbaaOpen
import Derived.Test.YtcgabjjdffcjbaaOpenA
import Derived.Test.YtcgabjjdffcjbaaOpenS
import Derived.Deep.RegionHeld3
import Derived.OwnWalk
import Derived.Deep.MidRow
import Derived.Laws.OwnMore
import Derived.Laws.Rows
import Derived.Laws.ResultCell
import Derived.Lib.SliceRun
import Derived.Great.BuildSlice
namespace Go.Proofs.Ytcgabjjdffcjbaa
open Go.RowKit
set_option linter.unusedVariables false
set_option linter.unusedSimpArgs false

/-- A row of a room that is made once. -/
def RoomO (w : World) (L n cap sz : Nat) (xs : List Value) (t : TypeId) : Prop := xs.length = n * sz ∧ n ≤ cap ∧ ∃ junk : List Value, junk.length = (cap - n) * sz ∧ Obj1 w L (xs ++ junk).toArray t
theorem RoomO.own {w : World} {L n cap sz : Nat} {xs : List Value} {t : TypeId} (h : RoomO w L n cap sz xs t) (hm : cap ≤ 9223372036854775807) : w.ownsRow L t sz (.slice (some ⟨L, 0, none⟩) n cap) n xs := by
  obtain ⟨h1, h2, junk, h3, h4⟩ := h
  refine ⟨h1, .inr ⟨L, cap, _, rfl, Nat.le_refl _, h4, h2, hm, ?_, ?_⟩⟩
  · simp only [List.size_toArray, List.length_append, h1, h3, ← Nat.add_mul]
    congr 1
    omega
  · rw [← h1]
    simp
theorem RoomO.of {w : World} {B L n cap sz : Nat} {xs : List Value} {t : TypeId} (h : w.ownsRow B t sz (.slice (some ⟨L, 0, none⟩) n cap) n xs) : RoomO w L n cap sz xs t := by
  obtain ⟨h1, h2⟩ := h
  rcases h2 with ⟨e, _⟩ | ⟨g, cap', cur, e, _, hg, hn, hm, hs, ht⟩
  · simp at e
  · simp only [Value.slice.injEq, Option.some.injEq, Addr.mk.injEq, and_true, true_and] at e
    obtain ⟨rfl, rfl⟩ := e
    refine ⟨h1, hn, cur.toList.drop (n * sz), ?_, ?_⟩
    · rw [List.length_drop, Array.length_toList, hs, Nat.sub_mul]
    · rw [← ht, List.take_append_drop]
      exact hg
theorem RoomO.below {w w' : World} {L n cap sz : Nat} {xs : List Value} {t : TypeId} (h : RoomO w L n cap sz xs t) (hb : Below w.heap.size w w') : RoomO w' L n cap sz xs t :=
  ⟨h.1, h.2.1, let ⟨j, h1, h2⟩ := h.2.2; ⟨j, h1, h2.below hb⟩⟩
theorem RoomO.grown {w w' : World} {L n cap sz : Nat} {xs : List Value} {t : TypeId} {row : Option Nat} (h : RoomO w L n cap sz xs t) (hg : w.grownBy w' row) (hne : some L ≠ row) : RoomO w' L n cap sz xs t :=
  ⟨h.1, h.2.1, let ⟨j, h1, h2⟩ := h.2.2; ⟨j, h1, h2.of_grown hg hne⟩⟩
theorem RoomO.cell {w : World} {L n cap sz : Nat} {xs : List Value} {t : TypeId} (h : RoomO w L n cap sz xs t) {j : Nat} {v : Value} (hj : xs[j]? = some v) : w.cell? ⟨L, j, none⟩ = some v := by
  obtain ⟨_, _, junk, _, h4⟩ := h
  rw [h4.cell, List.getElem?_toArray, List.getElem?_append_left (List.getElem?_eq_some_iff.1 hj).1, hj]
theorem RoomO.free {w : World} {L n cap sz : Nat} {xs : List Value} {t : TypeId} (h : RoomO w L n cap sz xs t) (j : Nat) : w.frozen? ⟨L, j, none⟩ = false := by
  obtain ⟨_, _, junk, _, h4⟩ := h
  exact h4.free j
theorem RoomO.lt {w : World} {L n cap sz : Nat} {xs : List Value} {t : TypeId} (h : RoomO w L n cap sz xs t) : L < w.heap.size := by
  obtain ⟨_, _, junk, _, h4⟩ := h
  exact h4.lt
theorem RoomO.set {w : World} {L n cap sz : Nat} {xs : List Value} {t : TypeId} (h : RoomO w L n cap sz xs t) (j : Nat) (hj : j < n * sz) (v : Value) : RoomO (w.setCell ⟨L, j, none⟩ v) L n cap sz (xs.set j v) t := by
  obtain ⟨h1, h2, junk, h3, h4⟩ := h
  refine ⟨by simp [h1], h2, junk, h3, ?_⟩
  have := h4.set j v
  rw [show (xs ++ junk).toArray.setIfInBounds j v = (xs.set j v ++ junk).toArray by rw [List.setIfInBounds_toArray, List.set_append, if_pos (by omega)]] at this
  exact this
theorem RoomO.cut {w : World} {L n cap sz : Nat} {xs : List Value} {t : TypeId} (h : RoomO w L n cap sz xs t) (m : Nat) (hm : m ≤ n) : RoomO w L m cap sz (xs.take (m * sz)) t := by
  obtain ⟨h1, h2, junk, h3, h4⟩ := h
  have hle : m * sz ≤ n * sz := Nat.mul_le_mul_right _ hm
  refine ⟨by rw [List.length_take, h1, Nat.min_eq_left hle], by omega, xs.drop (m * sz) ++ junk, ?_, ?_⟩
  · rw [List.length_append, List.length_drop, h1, h3, ← Nat.sub_mul, ← Nat.add_mul]
    congr 1
    omega
  · rw [← List.append_assoc, List.take_append_drop]
    exact h4

/-- What may have been written is the sketch, and new blocks. -/
def Upd2 (B D : Nat) (w w' : World) : Prop := w'.os = w.os ∧ w'.tape = w.tape ∧ w'.output = w.output ∧ w.heap.size ≤ w'.heap.size ∧ ∀ k, k < w.heap.size → k ≠ B → k ≠ D → w'.heap[k]? = w.heap[k]?
theorem Upd2.refl (B D : Nat) (w : World) : Upd2 B D w w := ⟨rfl, rfl, rfl, Nat.le_refl _, fun _ _ _ _ => rfl⟩
theorem Upd2.of_below {B D : Nat} {w w' : World} (h : Below w.heap.size w w') : Upd2 B D w w' := ⟨h.os, h.tape, h.output, h.size, fun k hk _ _ => h.block k hk⟩
theorem Upd2.trans {B D : Nat} {a b c : World} (h : Upd2 B D a b) (k : Upd2 B D b c) : Upd2 B D a c :=
  ⟨k.1.trans h.1, k.2.1.trans h.2.1, k.2.2.1.trans h.2.2.1, Nat.le_trans h.2.2.2.1 k.2.2.2.1, fun j hj h1 h2 => (k.2.2.2.2 j (Nat.lt_of_lt_of_le hj h.2.2.2.1) h1 h2).trans (h.2.2.2.2 j hj h1 h2)⟩
theorem Upd2.of1 {B D : Nat} {w w' : World} (h : Upd B w w') : Upd2 B D w w' := ⟨h.os, h.tape, h.output, h.size, fun k hk h1 _ => h.block k hk (by simpa using h1)⟩
theorem Upd2.of2 {B D : Nat} {w w' : World} (h : Upd D w w') : Upd2 B D w w' := ⟨h.os, h.tape, h.output, h.size, fun k hk _ h1 => h.block k hk (by simpa using h1)⟩
theorem Upd2.next {B D : Nat} {w W W' : World} (h : Upd2 B D w W) (k : Below W.heap.size W W') : Upd2 B D w W' := h.trans (Upd2.of_below k)
theorem bl_upd2 {w W W' : World} {B D : Nat} (h : Below w.heap.size w W) (k : Upd2 B D W W') (hB : w.heap.size ≤ B) (hD : w.heap.size ≤ D) : Below w.heap.size w W' :=
  ⟨k.1.trans h.os, k.2.1.trans h.tape, k.2.2.1.trans h.output, Nat.le_trans h.size k.2.2.2.1, fun j hj => (k.2.2.2.2 j (Nat.lt_of_lt_of_le hj h.size) (by omega) (by omega)).trans (h.block j hj)⟩
theorem Obj1.upd2 {w w' : World} {B D O : Nat} {cs : Array Value} {t : TypeId} (h : Obj1 w O cs t) (k : Upd2 B D w w') (h1 : O ≠ B) (h2 : O ≠ D) : Obj1 w' O cs t := (k.2.2.2.2 O h.lt h1 h2).trans h
theorem setCells_mid (p : Nat) (t : TypeId) : ∀ (cs : List Value) (i : Nat) (old : Array Value) (w : World), Obj1 w p old t → i + cs.length ≤ old.size →
    Obj1 (w.setCells p i cs) p ((old.toList.take i ++ (cs ++ old.toList.drop (i + cs.length))).toArray) t ∧ Upd p w (w.setCells p i cs)
  | [], i, old, w, h, hl => by
    refine ⟨?_, Upd.refl _ _⟩
    simp only [World.setCells, List.nil_append, List.length_nil, Nat.add_zero, List.take_append_drop]
    simpa using h
  | v :: cs, i, old, w, h, hl => by
    simp at hl
    have h1 := h.set i v
    have h2 := setCells_mid p t cs (i + 1) (old.setIfInBounds i v) (w.setCell ⟨p, i, none⟩ v) h1 (by simp; omega)
    refine ⟨?_, ((Upd.refl p w).set i v).trans h2.2⟩
    have e : (old.setIfInBounds i v).toList.take (i + 1) ++ (cs ++ (old.setIfInBounds i v).toList.drop (i + 1 + cs.length)) = old.toList.take i ++ (v :: cs ++ old.toList.drop (i + (v :: cs).length)) := by
      have hi : i < old.toList.length := by simp; omega
      have e1 : (old.toList.set i v).take (i + 1) = old.toList.take i ++ [v] := by
        apply List.ext_getElem?
        intro j
        rcases Nat.lt_trichotomy j i with h | h | h
        · rw [List.getElem?_append_left (by simp; omega), List.getElem?_take, List.getElem?_take, if_pos (by omega), if_pos h, List.getElem?_set_ne (by omega)]
        · subst h
          rw [List.getElem?_append_right (by simp; omega), List.getElem?_take, if_pos (by omega), List.getElem?_set_self hi]
          rw [List.length_take, Nat.min_eq_left (Nat.le_of_lt hi), Nat.sub_self]
          rfl
        · rw [List.getElem?_eq_none (by simp; omega), List.getElem?_eq_none (by simp; omega)]
      rw [Array.toList_setIfInBounds, e1, List.drop_set_of_lt (by omega)]
      simp [Nat.add_assoc, Nat.add_comm 1]
    rw [← e]
    exact h2.1

theorem gwanted {P : Program} {o : Oper} {ops : Array Oper} {a : Act} {w : World} {K : Act → World → Prop} {Q : Exit → Act → World → Prop} {E : Prop} (hgd : o.guard = none) (h : Oper.wp P o a w K Q) : if Region.wanted o (yielded ops a.tmps) = true then Oper.wp P o a w K Q else E := by
  have hw : Region.wanted o (yielded ops a.tmps) = true := by simp [Region.wanted, hgd]
  rw [if_pos hw]
  exact h

section
variable {P : Program} {ops : Array Oper} {rest : List Oper} {o : Oper} {a : Act} {Q : Exit → Act → World → Prop} {W : World}
/-- append within the room, as a step. -/
theorem wp_fits {K : Act → World → Prop} (s x : Operand) (t e : TypeId) (size : Nat)
    (ho : o.op = .call { callee := .builtin .append, args := #[s, x], argTypes := #[t, t] }) (ht : P.underlying t = some (.slice e)) (hinfo : (P.info? e).map (·.size) = some size)
    (g n cap : Nat) (xs : List Value) (ad : Addr) (m c : Nat) (news : List Value) (hs : a.eval s = .slice (some ⟨g, 0, none⟩) n cap) (hx : a.eval x = .slice (some ad) m c) (HO : W.ownsRow g e size (.slice (some ⟨g, 0, none⟩) n cap) n xs) (hl : news.length = m * size)
    (HR : ∀ j u, news[j]? = some u → W.cell? (ad.add j) = some u) (h1 : ∀ u ∈ news, u.oneCell' = true) (hroom : n + m ≤ cap)
    (h : ∀ w1, w1.ownsRow g e size (.slice (some ⟨g, 0, none⟩) (n + m) cap) (n + m) (xs ++ news) → W.grownBy w1 (some g) → K (a.put o.dst (.slice (some ⟨g, 0, none⟩) (n + m) cap)) w1) : o.wp P a W K Q := by
  obtain ⟨i, hi, hz⟩ := Option.map_eq_some_iff.1 hinfo
  obtain ⟨w1, hr, hown, hg⟩ := run_append_fits (P := P) W g t o.type e i size ht hi hz g n cap xs HO ad m c news hl HR h1 hroom
  unfold Oper.wp execOp
  simp only [ho, resolve, invoke, builtin, Sem.run_bind, Sem.run_pure, Result.andThen_ok, List.map_toArray, List.map_cons, List.map_nil, hs, hx, hr]
  exact h w1 hown hg
end
theorem obj_cells {w : World} {B : Nat} {cs : List Value} {t : TypeId} (h : Obj1 w B cs.toArray t) {d : List Value} (hd : ∀ (j : Nat) (v : Value), d[j]? = some v → cs[j]? = some v) : ∀ (j : Nat) (v : Value), d[j]? = some v → w.cell? ((⟨B, 0, none⟩ : Addr).add j) = some v := by
  intro j v hj
  rw [add_flat, Nat.zero_add, h.cell, List.getElem?_toArray]
  exact hd j v hj

theorem own_room {w : World} {B : Nat} {e : TypeId} {sz : Nat} {v : Value} {n : Nat} {xs : List Value} (h : w.ownsRow B e sz v n xs) : (n = 0 ∧ v = .slice none 0 0 ∧ xs = []) ∨ ∃ g cap, v = .slice (some ⟨g, 0, none⟩) n cap ∧ B ≤ g ∧ cap ≤ 9223372036854775807 ∧ RoomO w g n cap sz xs e := by
  rcases h.2 with ⟨rfl, h0⟩ | ⟨g, cap, cur, rfl, hb, _, _, hm, _⟩
  · subst h0
    exact .inl ⟨rfl, rfl, List.eq_nil_of_length_eq_zero (by simpa using h.1)⟩
  · exact .inr ⟨g, cap, rfl, hb, hm, RoomO.of h⟩
theorem RoomO.rd {w : World} {L n cap sz : Nat} {xs : List Value} {t : TypeId} (h : RoomO w L n cap sz xs t) : Rd w (some ⟨L, 0, none⟩) xs := fun j v hj => ⟨_, rfl, by rw [add_flat, Nat.zero_add]; exact h.cell hj⟩

theorem RoomO.neObj {w : World} {L n cap sz K : Nat} {xs : List Value} {t t2 : TypeId} {cs : Array Value} (h : RoomO w L n cap sz xs t) (ho : Obj1 w K cs t2) (ht : t2 ≠ t) : L ≠ K := by
  rintro rfl
  obtain ⟨_, _, junk, _, h4⟩ := h
  have := h4.symm.trans ho
  simp at this
  exact ht this.2.symm
theorem RoomO.neRoom {w : World} {L M n cap sz n2 cap2 sz2 : Nat} {xs ys : List Value} {t t2 : TypeId} (h : RoomO w L n cap sz xs t) (k : RoomO w M n2 cap2 sz2 ys t2) (ht : t2 ≠ t) : L ≠ M := by
  obtain ⟨_, _, _, _, h4⟩ := k
  exact h.neObj h4 ht
/-- So many cells lie there. -/
def CellsAt (w : World) (b o : Nat) (cs : List Value) : Prop := ∀ (q : Nat) (v : Value), cs[q]? = some v → w.cell? ((⟨b, o, none⟩ : Addr).add q) = some v
theorem CellsAt.below {w w' : World} {b o : Nat} {cs : List Value} (h : CellsAt w b o cs) (hb : Below w.heap.size w w') : CellsAt w' b o cs := fun q v hq => bl_keeps hb (h q v hq)
theorem RoomO.midAt {w : World} {L n cap sz : Nat} {xs : List Value} {t : TypeId} (h : RoomO w L n cap sz xs t) {i : Nat} {cs : List Value} (hi : i + cs.length ≤ n * sz) :
    RoomO (w.setCells L i cs) L n cap sz (xs.take i ++ (cs ++ xs.drop (i + cs.length))) t ∧ Upd L w (w.setCells L i cs) := by
  obtain ⟨h1, h2, junk, h3, h4⟩ := h
  have hm := setCells_mid L t cs i _ w h4 (by simp [h1]; omega)
  refine ⟨⟨by simp [h1]; omega, h2, junk, h3, ?_⟩, hm.2⟩
  have hm1 := hm.1
  rw [show (xs ++ junk).toArray.toList = xs ++ junk from rfl, List.take_append_of_le_length (by omega), List.drop_append_of_le_length (by omega)] at hm1
  simpa [List.append_assoc] using hm1
theorem RoomO.thereAt {w : World} {L n cap sz : Nat} {xs : List Value} {t : TypeId} (h : RoomO w L n cap sz xs t) {i k : Nat} (hi : i + k ≤ n * sz) : w.there L i k := by
  intro j hj
  refine ⟨?_, h.free _⟩
  have hlt : i + j < xs.length := by rw [h.1]; omega
  rw [h.cell (List.getElem?_eq_getElem hlt)]
  rfl
section
variable {P : Program} {ops : Array Oper} {rest : List Oper} {o : Oper} {a : Act} {Q : Exit → Act → World → Prop} {w : World}
/-- Cells of a row of the call's own are written. -/
theorem store_rowAt (hgd : o.guard = none) (ty : TypeId) (x y : Operand) (ho : o.op = .store ty x y) (g n cap sz i : Nat) (xs : List Value) (t : TypeId) (h : RoomO w g n cap sz xs t) (cs : List Value) (hi : i + cs.length ≤ n * sz)
    (hx : a.eval x = .pointer (some ⟨g, i, none⟩)) (hy : a.eval y = .agg cs.toArray) (hs : (P.info? ty).map (·.size) = some cs.toArray.size) (h1 : ∀ v ∈ cs, v.oneCell' = true)
    (hK : ∀ w5, RoomO w5 g n cap sz (xs.take i ++ (cs ++ xs.drop (i + cs.length))) t → Upd g w w5 → wpList P ops Q rest (a.put o.dst undef) w5) : wpList P ops Q (o :: rest) a w := by
  refine wpList_store_mid hgd ty x y ho g i cs.toArray hx hy ?_ hs (all_oneCell_toArray h1) ?_
  · have : cs.toArray.size = cs.length := by simp
    rw [this]
    exact h.thereAt hi
  · obtain ⟨h2, h3⟩ := h.midAt hi
    exact hK _ h2 h3
theorem load_obj_g (hgd : Region.wanted o (yielded ops a.tmps) = true) (ty : TypeId) (x : Operand) (ho : o.op = .load ty x) (p : Nat) (t : TypeId) (cs : Array Value) (d : TypeDesc) (hx : a.eval x = .pointer (some ⟨p, 0, none⟩)) (HO : Obj1 w p cs t)
    (hu : P.underlying ty = some d) (hd : (match d with | .struct _ | .array _ _ => true | _ => false) = true) (hi : (P.info? ty).map (·.size) = some cs.size)
    (h : wpList P ops Q rest (a.put o.dst (.agg cs)) w) : wpList P ops Q (o :: rest) a w :=
  wpList_step fun K hK => by
    rw [if_pos hgd]
    exact wp_load_row ty x ho p hx t cs (0, 0) d HO hu hd hi (hK _ _ h)
end
end Go.Proofs.Ytcgabjjdffcjbaa
