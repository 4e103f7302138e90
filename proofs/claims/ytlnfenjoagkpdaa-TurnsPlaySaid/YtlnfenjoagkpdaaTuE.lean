/- Whose turn it is: Pick, as a relation; it ends. -/
import Derived.Test.YtlnfenjoagkpdaaTuD
namespace Go.Proofs.Ytlnfenjoagkpdaa
open Go.RowKit
set_option linter.unusedVariables false
set_option linter.unusedSimpArgs false

def tnSet (t : Tn) (c : Nat) (y : Cl) : Tn := ⟨t.q, t.l.set c y, t.line⟩
theorem okTn.step {t : Tn} (h : okTn t) {c : Nat} {x y : Cl} (hx : t.l[c]? = some x) {line : List Nat} (hnd : line.Nodup) (hmem : ∀ d, d ∈ line ↔ (if d = c then y.aw = true else d ∈ t.line)) (hy : 0 ≤ y.de ∧ y.de ≤ 9216 + t.q ∧ (y.fr = true → y.de ≤ 9216)) : okTn ⟨t.q, t.l.set c y, line⟩ := by
  have hc := (List.getElem?_eq_some_iff.1 hx).1
  refine ⟨by simpa using h.1, hnd, fun d => ?_, h.2.2.2.1, fun z hz => ?_⟩
  · show d ∈ line ↔ ∃ z, (t.l.set c y)[d]? = some z ∧ z.aw = true
    rw [hmem d]
    by_cases hd : d = c
    · subst hd
      rw [if_pos rfl, List.getElem?_set_self hc]
      constructor
      · intro ha; exact ⟨y, rfl, ha⟩
      · rintro ⟨z, hz, ha⟩
        cases hz
        exact ha
    · rw [if_neg hd, List.getElem?_set_ne (fun e => hd e.symm)]
      exact h.2.2.1 d
  · rcases List.mem_or_eq_of_mem_set hz with hz | hz
    · exact h.2.2.2.2 z hz
    · rw [hz]; exact hy
theorem okTn.cl {t : Tn} (h : okTn t) {c : Nat} {rest : List Nat} (hl : t.line = c :: rest) : ∃ x, t.l[c]? = some x ∧ x.aw = true ∧ c ∉ rest ∧ rest.Nodup := by
  obtain ⟨x, hx, ha⟩ := (h.2.2.1 c).1 (by rw [hl]; simp)
  have hn := h.2.1
  rw [hl] at hn
  exact ⟨x, hx, ha, (List.nodup_cons.1 hn).1, (List.nodup_cons.1 hn).2⟩
theorem sleep_line {t : Tn} {c : Nat} {rest : List Nat} (hl : t.line = c :: rest) : tnSleep t c = ⟨t.q, t.l.set c ⟨false, false, 0⟩, rest⟩ := by
  unfold tnSleep
  rw [hl, List.idxOf_cons_self]
  rfl
theorem okTn.sleep {t : Tn} (h : okTn t) {c : Nat} {rest : List Nat} (hl : t.line = c :: rest) : okTn (tnSleep t c) := by
  obtain ⟨x, hx, ha, hnc, hnd⟩ := h.cl hl
  rw [sleep_line hl]
  refine h.step hx hnd (fun d => ?_) ⟨Int.le_refl 0, by have := h.2.2.2.1; show (0 : Int) ≤ 9216 + t.q; omega, fun _ => by show (0 : Int) ≤ 9216; omega⟩
  by_cases hd : d = c
  · subst hd; simp [hnc]
  · rw [if_neg hd, hl]; simp [hd]
theorem okTn.last {t : Tn} (h : okTn t) {c : Nat} {rest : List Nat} (hl : t.line = c :: rest) {x : Cl} (hx : t.l[c]? = some x) (hde : x.de ≤ 9216) : okTn (tnLast t c rest x) := by
  obtain ⟨x', hx', ha, hnc, hnd⟩ := h.cl hl
  rw [hx] at hx'
  cases hx'
  have hxb := h.2.2.2.2 x (List.mem_of_getElem? hx)
  refine h.step (y := { x with fr := true }) hx ?_ (fun d => ?_) ⟨hxb.1, hxb.2.1, fun _ => hde⟩
  · refine List.nodup_append.2 ⟨hnd, by simp, fun a ha b hb => ?_⟩
    simp at hb
    rw [hb]
    rintro rfl
    exact hnc ha
  · by_cases hd : d = c
    · subst hd; simp [ha]
    · rw [if_neg hd, hl]; simp [hd]
theorem okTn.set {t : Tn} (h : okTn t) {c : Nat} {x y : Cl} (hx : t.l[c]? = some x) (ha : y.aw = x.aw) (hy : 0 ≤ y.de ∧ y.de ≤ 9216 + t.q ∧ (y.fr = true → y.de ≤ 9216)) : okTn (tnSet t c y) := by
  refine h.step hx h.2.1 (fun d => ?_) hy
  by_cases hd : d = c
  · subst hd
    rw [if_pos rfl, ha]
    constructor
    · intro hm
      obtain ⟨z, hz, hza⟩ := (h.2.2.1 d).1 hm
      rw [hx] at hz
      cases hz
      exact hza
    · intro hxa
      exact (h.2.2.1 d).2 ⟨x, hx, hxa⟩
  · rw [if_neg hd]

/-- What is left behind a turn's beginning. -/
def deNew (t : Tn) (x : Cl) : Int := if x.fr = true then x.de + t.q else x.de
/-- Whose turn it is, of what heads each class. -/
inductive Pk (hd : Nat → Int) : Tn → Tn → Option Nat → Prop
  | none {t : Tn} : t.line = [] → Pk hd t t none
  | sleep {t t' : Tn} {r : Option Nat} {c : Nat} {rest : List Nat} : t.line = c :: rest → hd c < 1 → Pk hd (tnSleep t c) t' r → Pk hd t t' r
  | serve {t : Tn} {c : Nat} {rest : List Nat} {x : Cl} : t.line = c :: rest → 1 ≤ hd c → t.l[c]? = some x → hd c ≤ deNew t x → Pk hd t (tnSet t c ⟨x.aw, false, deNew t x - hd c⟩) (some c)
  | last {t t' : Tn} {r : Option Nat} {c : Nat} {rest : List Nat} {x : Cl} : t.line = c :: rest → 1 ≤ hd c → t.l[c]? = some x → ¬ hd c ≤ deNew t x → Pk hd (tnLast (tnSet t c ⟨x.aw, false, deNew t x⟩) c rest ⟨x.aw, false, deNew t x⟩) t' r → Pk hd t t' r
def term (hd : Nat → Int) (t : Tn) (c : Nat) : Nat := match t.l[c]? with | some x => 1 + 2 * (hd c - x.de).toNat + (if x.fr = true then 0 else 1) | none => 1
def meas (hd : Nat → Int) (t : Tn) : Nat := (t.line.map (term hd t)).sum
theorem term_other {hd : Nat → Int} {t : Tn} {c d : Nat} {y : Cl} {q : Int} {line : List Nat} (h : d ≠ c) : term hd ⟨q, t.l.set c y, line⟩ d = term hd t d := by
  unfold term
  show (match (t.l.set c y)[d]? with | some x => _ | none => _) = _
  rw [List.getElem?_set_ne (fun e => h e.symm)]
theorem rest_sum {hd : Nat → Int} {t : Tn} {c : Nat} {y : Cl} {q : Int} {line rest : List Nat} (h : c ∉ rest) : (rest.map (term hd ⟨q, t.l.set c y, line⟩)).sum = (rest.map (term hd t)).sum := by
  congr 1
  refine List.map_congr_left (fun d hd2 => term_other (fun e => ?_))
  subst e
  exact h hd2
theorem meas_sleep (hd : Nat → Int) {t : Tn} (h : okTn t) {c : Nat} {rest : List Nat} (hl : t.line = c :: rest) : meas hd (tnSleep t c) < meas hd t := by
  obtain ⟨x, hx, ha, hnc, hnd⟩ := h.cl hl
  rw [sleep_line hl]
  unfold meas
  show (rest.map (term hd ⟨t.q, t.l.set c ⟨false, false, 0⟩, rest⟩)).sum < _
  rw [rest_sum hnc, hl, List.map_cons, List.sum_cons]
  have : 1 ≤ term hd t c := by unfold term; rw [hx]; show 1 ≤ 1 + 2 * (hd c - x.de).toNat + _; omega
  omega
theorem meas_last (hd : Nat → Int) {t : Tn} (h : okTn t) {c : Nat} {rest : List Nat} (hl : t.line = c :: rest) {x : Cl} (hx : t.l[c]? = some x) (hno : ¬ hd c ≤ deNew t x) :
    meas hd (tnLast (tnSet t c ⟨x.aw, false, deNew t x⟩) c rest ⟨x.aw, false, deNew t x⟩) < meas hd t := by
  obtain ⟨x', hx', ha, hnc, hnd⟩ := h.cl hl
  have hc := (List.getElem?_eq_some_iff.1 hx).1
  have hq := h.2.2.2.1.1
  have e : tnLast (tnSet t c ⟨x.aw, false, deNew t x⟩) c rest ⟨x.aw, false, deNew t x⟩ = ⟨t.q, t.l.set c ⟨x.aw, true, deNew t x⟩, rest ++ [c]⟩ := by
    unfold tnLast tnSet
    simp
  rw [e]
  unfold meas
  show ((rest ++ [c]).map (term hd ⟨t.q, t.l.set c ⟨x.aw, true, deNew t x⟩, rest ++ [c]⟩)).sum < _
  rw [List.map_append, List.sum_append, rest_sum hnc, hl, List.map_cons, List.sum_cons, List.map_cons, List.map_nil, List.sum_cons, List.sum_nil]
  have h1 : term hd ⟨t.q, t.l.set c ⟨x.aw, true, deNew t x⟩, rest ++ [c]⟩ c = 1 + 2 * (hd c - deNew t x).toNat := by
    unfold term
    show (match (t.l.set c _)[c]? with | some x => _ | none => _) = _
    rw [List.getElem?_set_self hc]
    simp
  have h2 : term hd t c = 1 + 2 * (hd c - x.de).toNat + (if x.fr = true then 0 else 1) := by unfold term; rw [hx]
  rw [h1, h2]
  unfold deNew at hno ⊢
  by_cases hf : x.fr = true
  · rw [if_pos hf] at hno ⊢
    rw [if_pos hf]
    omega
  · rw [if_neg hf] at hno ⊢
    rw [if_neg hf]
    omega
theorem TnO.fr {w : World} {T C L N m : Nat} {t : Tn} (h : TnO w T C L N m t) {c : Nat} {x : Cl} (hx : t.l[c]? = some x) (b : Bool) : TnO (w.setCell ⟨C, c * 3 + 1, none⟩ (.bool b)) T C L N m (tnSet t c { x with fr := b }) := by
  have hset := (Upd.refl C w).set (c * 3 + 1) (.bool b)
  have hc := (List.getElem?_eq_some_iff.1 hx).1
  rw [h.1.1] at hc
  refine ⟨⟨by rw [← h.1.1]; simp [tnSet], h.1.2⟩, h.2.1.of_grown hset (by have := h.ne; simp; omega), ?_, h.2.2.2.grown hset (by have := h.ne; simp; omega)⟩
  show RoomO _ C N N 3 (clsC (t.l.set c { x with fr := b })) _
  rw [clsC_one hx (q := 1) (v := .bool b) (by omega) rfl]
  exact h.2.2.1.set _ (by omega) _
theorem TnO.de {w : World} {T C L N m : Nat} {t : Tn} (h : TnO w T C L N m t) {c : Nat} {x : Cl} (hx : t.l[c]? = some x) (d : Int) : TnO (w.setCell ⟨C, c * 3 + 2, none⟩ (.int .i64 d)) T C L N m (tnSet t c { x with de := d }) := by
  have hset := (Upd.refl C w).set (c * 3 + 2) (.int .i64 d)
  have hc := (List.getElem?_eq_some_iff.1 hx).1
  rw [h.1.1] at hc
  refine ⟨⟨by rw [← h.1.1]; simp [tnSet], h.1.2⟩, h.2.1.of_grown hset (by have := h.ne; simp; omega), ?_, h.2.2.2.grown hset (by have := h.ne; simp; omega)⟩
  show RoomO _ C N N 3 (clsC (t.l.set c { x with de := d })) _
  rw [clsC_one hx (q := 2) (v := .int .i64 d) (by omega) rfl]
  exact h.2.2.1.set _ (by omega) _
theorem tnSet_set (t : Tn) (c : Nat) (y z : Cl) : tnSet (tnSet t c y) c z = tnSet t c z := by unfold tnSet; simp
theorem tnSet_at {t : Tn} {c : Nat} {x : Cl} (y : Cl) (hx : t.l[c]? = some x) : (tnSet t c y).l[c]? = some y := List.getElem?_set_self (List.getElem?_eq_some_iff.1 hx).1
def hdOf (l : List Int) (c : Nat) : Int := if 9216 < headV l c then 9216 else headV l c
def pickV : Option Nat → Value
  | none => .tuple #[.int .i64 0, .bool false]
  | some c => .tuple #[.int .i64 (c : Int), .bool true]
theorem RdI.upd3 {w w' : World} {A : Option Addr} {l : List Int} {X Y Z : Nat} (h : RdI w A l) (hu : Upd3 X Y Z w w') (hne : ∀ ad, A = some ad → ad.block ≠ X ∧ ad.block ≠ Y ∧ ad.block ≠ Z) : RdI w' A l :=
  ⟨h.1, fun j hj => let ⟨ad, e, hc⟩ := h.2 j hj; ⟨ad, e, by
    have hn := hne ad e
    have hb : (ad.add j).block = ad.block := by unfold Addr.add; split <;> rfl
    exact (World.cell?_of_block (w := w) (hu.2.2.2.2 (ad.add j).block (cell_lt hc) (by rw [hb]; exact hn.1) (by rw [hb]; exact hn.2.1) (by rw [hb]; exact hn.2.2))).trans hc⟩⟩
end Go.Proofs.Ytlnfenjoagkpdaa
