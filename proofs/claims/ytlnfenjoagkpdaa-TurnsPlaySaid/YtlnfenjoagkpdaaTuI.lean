/- Turns of eight that stay awake: what each is given, by rounds. -/
import Derived.Test.YtlnfenjoagkpdaaTuH
namespace Go.Proofs.Ytlnfenjoagkpdaa
open Go.RowKit
set_option linter.unusedVariables false
set_option linter.unusedSimpArgs false

def rot (p : Nat) : List Nat := (List.range 8).drop p ++ (List.range 8).take p
def nextP (p : Nat) : Nat := if p = 7 then 0 else p + 1
theorem rot_step : ∀ p, p < 8 → rot p = p :: (rot p).tail ∧ (rot p).tail ++ [p] = rot (nextP p) := by decide
/-- A class c, where the turn is p's, in the round that began with R given to each. -/
def St (q R : Int) (cur : Bool) (p c : Nat) (x : Cl) (h : Int) : Prop :=
  x.aw = true ∧ 0 ≤ x.de ∧ ((c < p ∧ x.fr = true ∧ x.de ≤ 9216 ∧ h = R + q - x.de) ∨ (c = p ∧ cur = true ∧ x.fr = false ∧ x.de ≤ 9216 + q ∧ h = R + q - x.de) ∨ (c = p ∧ cur = false ∧ x.fr = true ∧ x.de ≤ 9216 ∧ h = R - x.de) ∨ (p < c ∧ x.fr = true ∧ x.de ≤ 9216 ∧ h = R - x.de))
def FqAt (q : Int) (t : Tn) (H : Nat → Int) (p : Nat) (R : Int) (cur : Bool) : Prop := t.q = q ∧ t.l.length = 8 ∧ p < 8 ∧ t.line = rot p ∧ ∀ c, c < 8 → ∃ x : Cl, t.l[c]? = some x ∧ St q R cur p c x (H c)
def Fq (q : Int) (t : Tn) (H : Nat → Int) : Prop := ∃ p R cur, FqAt q t H p R cur
def Band (q : Int) (H : Nat → Int) : Prop := ∀ a b, a < b → b < 8 → -9216 ≤ H a - H b ∧ H a - H b ≤ q + 9216
def plus (H : Nat → Int) (c : Nat) (n : Int) : Nat → Int := fun d => if d = c then H d + n else H d
theorem Fq.band {q : Int} {t : Tn} {H : Nat → Int} (hq : 0 ≤ q) (h : Fq q t H) : Band q H := by
  obtain ⟨p, R, cur, h1, h2, h3, h4, h5⟩ := h
  intro a b hab hb
  obtain ⟨x, hx, hxa, hx0, hxs⟩ := h5 a (by omega)
  obtain ⟨y, hy, hya, hy0, hys⟩ := h5 b hb
  rcases hxs with ⟨e1, _, e2, e3⟩ | ⟨e1, ec, _, e2, e3⟩ | ⟨e1, ec, _, e2, e3⟩ | ⟨e1, _, e2, e3⟩ <;>
  rcases hys with ⟨f1, _, f2, f3⟩ | ⟨f1, fc, _, f2, f3⟩ | ⟨f1, fc, _, f2, f3⟩ | ⟨f1, _, f2, f3⟩ <;>
  omega
theorem FqAt.serve {q : Int} {t : Tn} {H : Nat → Int} {p : Nat} {R : Int} {cur : Bool} (h : FqAt q t H p R cur) {x : Cl} (hx : t.l[p]? = some x) {n : Int} (hn : n ≤ deNew t x) (h0 : 0 ≤ n) (hq : 0 ≤ q) :
    FqAt q (tnSet t p ⟨x.aw, false, deNew t x - n⟩) (plus H p n) p R true := by
  obtain ⟨h1, h2, h3, h4, h5⟩ := h
  refine ⟨h1, by simpa [tnSet] using h2, h3, h4, fun c hc => ?_⟩
  obtain ⟨y, hy, hya, hy0, hys⟩ := h5 c hc
  by_cases hcp : c = p
  · subst hcp
    rw [hx] at hy
    cases hy
    refine ⟨_, tnSet_at _ hx, hya, by show 0 ≤ deNew t x - n; omega, .inr (.inl ⟨rfl, rfl, rfl, ?_, ?_⟩)⟩
    · show deNew t x - n ≤ 9216 + q
      unfold deNew
      rw [h1]
      rcases hys with ⟨e1, _⟩ | ⟨_, _, ef, e2, e3⟩ | ⟨_, _, ef, e2, e3⟩ | ⟨e1, _⟩
      · omega
      · rw [ef]; simp; omega
      · rw [ef]; simp; omega
      · omega
    · show (if c = c then H c + n else H c) = R + q - (deNew t x - n)
      rw [if_pos rfl]
      unfold deNew
      rw [h1]
      rcases hys with ⟨e1, _⟩ | ⟨_, _, ef, e2, e3⟩ | ⟨_, _, ef, e2, e3⟩ | ⟨e1, _⟩
      · omega
      · rw [ef]; simp; omega
      · rw [ef]; simp; omega
      · omega
  · refine ⟨y, ?_, hya, hy0, ?_⟩
    · show (t.l.set p _)[c]? = some y
      rw [List.getElem?_set_ne (fun e => hcp e.symm)]
      exact hy
    · show _ ∨ _ ∨ _ ∨ _
      have e : plus H p n c = H c := if_neg hcp
      rw [e]
      rcases hys with hys | ⟨e1, _⟩ | ⟨e1, _⟩ | hys
      · exact .inl hys
      · exact absurd e1 hcp
      · exact absurd e1 hcp
      · exact .inr (.inr (.inr hys))
theorem FqAt.turn {q : Int} {t : Tn} {H : Nat → Int} {p : Nat} {R : Int} (h : FqAt q t H p R true) {x : Cl} (hx : t.l[p]? = some x) (hde : x.de ≤ 9216) :
    FqAt q (tnLast (tnSet t p ⟨x.aw, false, x.de⟩) p (rot p).tail ⟨x.aw, false, x.de⟩) H (nextP p) (if p = 7 then R + q else R) false := by
  obtain ⟨h1, h2, h3, h4, h5⟩ := h
  refine ⟨h1, by simpa [tnSet, tnLast] using h2, by unfold nextP; split <;> omega, (rot_step p h3).2, fun c hc => ?_⟩
  obtain ⟨y, hy, hya, hy0, hys⟩ := h5 c hc
  by_cases hcp : c = p
  · subst hcp
    rw [hx] at hy
    cases hy
    refine ⟨⟨x.aw, true, x.de⟩, ?_, hya, hy0, ?_⟩
    · show ((t.l.set c _).set c _)[c]? = _
      rw [List.set_set, List.getElem?_set_self (by omega)]
    · rcases hys with ⟨e1, _⟩ | ⟨_, _, ef, e2, e3⟩ | ⟨_, ec, _⟩ | ⟨e1, _⟩
      · omega
      · by_cases h7 : c = 7
        · subst h7
          exact .inr (.inr (.inr ⟨by decide, rfl, hde, by rw [if_pos rfl]; exact e3⟩))
        · exact .inl ⟨by unfold nextP; rw [if_neg h7]; omega, rfl, hde, by rw [if_neg h7]; exact e3⟩
      · cases ec
      · omega
  · refine ⟨y, ?_, hya, hy0, ?_⟩
    · show ((t.l.set p _).set p _)[c]? = _
      rw [List.set_set, List.getElem?_set_ne (fun e => hcp e.symm)]
      exact hy
    · rcases hys with ⟨e1, ef, e2, e3⟩ | ⟨e1, _⟩ | ⟨e1, _⟩ | ⟨e1, ef, e2, e3⟩
      · by_cases h7 : p = 7
        · subst h7
          by_cases hc0 : c = 0
          · exact .inr (.inr (.inl ⟨hc0, rfl, ef, e2, by rw [if_pos rfl]; exact e3⟩))
          · exact .inr (.inr (.inr ⟨by show nextP 7 < c; have : nextP 7 = 0 := rfl; omega, ef, e2, by rw [if_pos rfl]; exact e3⟩))
        · exact .inl ⟨by unfold nextP; rw [if_neg h7]; omega, ef, e2, by rw [if_neg h7]; exact e3⟩
      · exact absurd e1 hcp
      · exact absurd e1 hcp
      · have h7 : p ≠ 7 := by omega
        by_cases hc1 : c = p + 1
        · exact .inr (.inr (.inl ⟨by unfold nextP; rw [if_neg h7]; exact hc1, rfl, ef, e2, by rw [if_neg h7]; exact e3⟩))
        · exact .inr (.inr (.inr ⟨by unfold nextP; rw [if_neg h7]; omega, ef, e2, by rw [if_neg h7]; exact e3⟩))
theorem FqAt.pick0 {q : Int} {t t' : Tn} {H : Nat → Int} {p : Nat} {R : Int} {r : Option Nat} {hd : Nat → Int} (hq : 9216 ≤ q) (h : FqAt q t H p R false) (hhd : ∀ c, c < 8 → 1 ≤ hd c ∧ hd c ≤ 9216) (hp : Pk hd t t' r) :
    r = some p ∧ FqAt q t' (plus H p (hd p)) p R true := by
  obtain ⟨x, hx, hxa, hx0, hxs⟩ := h.2.2.2.2 p h.2.2.1
  have hb := hhd p h.2.2.1
  have hfr : x.fr = true := by
    rcases hxs with ⟨e1, _⟩ | ⟨_, ec, _⟩ | ⟨_, _, ef, _⟩ | ⟨e1, _⟩
    · omega
    · cases ec
    · exact ef
    · omega
  have hde : hd p ≤ deNew t x := by unfold deNew; rw [if_pos hfr, h.1]; omega
  obtain ⟨h1, h2⟩ := hp.served (h.2.2.2.1.trans (rot_step p h.2.2.1).1) hb.1 hx hde
  exact ⟨h1, by rw [h2]; exact h.serve hx hde (by omega) (by omega)⟩
theorem Fq.pick {q : Int} {t t' : Tn} {H : Nat → Int} {r : Option Nat} {hd : Nat → Int} (hq : 9216 ≤ q) (h : Fq q t H) (hhd : ∀ c, c < 8 → 1 ≤ hd c ∧ hd c ≤ 9216) (hp : Pk hd t t' r) :
    ∃ c, c < 8 ∧ r = some c ∧ Fq q t' (plus H c (hd c)) := by
  obtain ⟨p, R, cur, h⟩ := h
  cases cur with
  | false =>
    obtain ⟨h1, h2⟩ := h.pick0 hq hhd hp
    exact ⟨p, h.2.2.1, h1, p, R, true, h2⟩
  | true =>
    obtain ⟨x, hx, hxa, hx0, hxs⟩ := h.2.2.2.2 p h.2.2.1
    have hb := hhd p h.2.2.1
    have hfr : x.fr = false := by
      rcases hxs with ⟨e1, _⟩ | ⟨_, _, ef, _⟩ | ⟨_, ec, _⟩ | ⟨e1, _⟩
      · omega
      · exact ef
      · cases ec
      · omega
    have hdn : deNew t x = x.de := by unfold deNew; rw [hfr]; simp
    have hl := h.2.2.2.1.trans (rot_step p h.2.2.1).1
    by_cases hle : hd p ≤ deNew t x
    · obtain ⟨h1, h2⟩ := hp.served hl hb.1 hx hle
      exact ⟨p, h.2.2.1, h1, p, R, true, by rw [h2]; exact h.serve hx hle (by omega) (by omega)⟩
    · have h2 := hp.turned hl hb.1 hx hle
      rw [hdn] at h2 hle
      have h3 := h.turn hx (by omega)
      obtain ⟨h4, h5⟩ := h3.pick0 hq hhd h2
      exact ⟨nextP p, h3.2.2.1, h4, _, _, true, h5⟩
/-- Eight that have just woken, one after the other. -/
def tnEight (q : Int) (j : Nat) : Tn := ⟨q, List.replicate j ⟨true, true, 0⟩ ++ List.replicate (8 - j) c00, List.range j⟩
theorem tnEight_step (q : Int) : ∀ j, j < 8 → (tnEight q j).l[j]? = some c00 ∧ (tnWake (tnEight q j) j).l = (tnEight q (j + 1)).l ∧ (tnWake (tnEight q j) j).line = (tnEight q (j + 1)).line := by
  intro j hj
  match j, hj with
  | 0, _ => exact ⟨rfl, rfl, rfl⟩
  | 1, _ => exact ⟨rfl, rfl, rfl⟩
  | 2, _ => exact ⟨rfl, rfl, rfl⟩
  | 3, _ => exact ⟨rfl, rfl, rfl⟩
  | 4, _ => exact ⟨rfl, rfl, rfl⟩
  | 5, _ => exact ⟨rfl, rfl, rfl⟩
  | 6, _ => exact ⟨rfl, rfl, rfl⟩
  | 7, _ => exact ⟨rfl, rfl, rfl⟩
theorem tnEight_next (q : Int) {j : Nat} (hj : j < 8) : tnWake (tnEight q j) j = tnEight q (j + 1) := by
  obtain ⟨_, h1, h2⟩ := tnEight_step q j hj
  have h0 : (tnWake (tnEight q j) j).q = (tnEight q (j + 1)).q := rfl
  cases hx : tnWake (tnEight q j) j with
  | mk q1 l1 n1 =>
    cases hy : tnEight q (j + 1) with
    | mk q2 l2 n2 =>
      rw [hx] at h0 h1 h2
      rw [hy] at h0 h1 h2
      simp at h0 h1 h2
      rw [h0, h1, h2]
theorem Fq.start (q : Int) : Fq q (tnEight q 8) (fun _ => 0) := by
  refine ⟨0, 0, false, rfl, rfl, by omega, rfl, fun c hc => ⟨⟨true, true, 0⟩, ?_, rfl, Int.le_refl 0, ?_⟩⟩
  · show (List.replicate 8 (⟨true, true, 0⟩ : Cl) ++ List.replicate 0 c00)[c]? = _
    rw [List.getElem?_append_left (by simpa using hc), List.getElem?_replicate, if_pos hc]
  · by_cases h0 : c = 0
    · exact .inr (.inr (.inl ⟨h0, rfl, rfl, by show (0 : Int) ≤ 9216; omega, rfl⟩))
    · exact .inr (.inr (.inr ⟨by omega, rfl, by show (0 : Int) ≤ 9216; omega, rfl⟩))
/-- Eight numbers in a block. -/
def eight (f : Nat → Int) : List Value := (List.range 8).map fun c => Value.int .i64 (f c)
theorem eight_at (f : Nat → Int) {c : Nat} (hc : c < 8) : (eight f)[c]? = some (.int .i64 (f c)) := by
  unfold eight
  rw [List.getElem?_map, List.getElem?_range hc]
  rfl
theorem eight_length (f : Nat → Int) : (eight f).length = 8 := by simp [eight]
theorem eight_one (f : Nat → Int) : ∀ v ∈ eight f, v.oneCell' = true := by
  intro v hv
  simp only [eight, List.mem_map] at hv
  obtain ⟨c, _, rfl⟩ := hv
  rfl
theorem eight_set (f : Nat → Int) {c : Nat} (hc : c < 8) (n : Int) : (eight f).set c (.int .i64 (f c + n)) = eight (plus f c n) := by
  refine List.ext_getElem? (fun j => ?_)
  by_cases hj : j < 8
  · rw [List.getElem?_set, eight_at (plus f c n) hj, eight_at f hj]
    unfold plus
    by_cases hjc : c = j
    · subst hjc
      rw [if_pos rfl, if_pos (by rw [eight_length]; exact hc), if_pos rfl]
    · rw [if_neg hjc, if_neg (fun e => hjc e.symm)]
  · rw [List.getElem?_eq_none (by rw [List.length_set, eight_length]; omega), List.getElem?_eq_none (by rw [eight_length]; omega)]
def A8 (w : World) (B : Nat) (f : Nat → Int) (t : TypeId) : Prop := RoomO w B 8 8 1 (eight f) t
theorem A8.new (w : World) (t : TypeId) : A8 (w.alloc (.cells #[.int .i64 0, .int .i64 0, .int .i64 0, .int .i64 0, .int .i64 0, .int .i64 0, .int .i64 0, .int .i64 0] t)) w.heap.size (fun _ => 0) t :=
  ⟨eight_length _, Nat.le_refl _, [], rfl, by
    have := Obj1.new w #[.int .i64 0, .int .i64 0, .int .i64 0, .int .i64 0, .int .i64 0, .int .i64 0, .int .i64 0, .int .i64 0] t
    exact this⟩
theorem A8.cell {w : World} {B : Nat} {f : Nat → Int} {t : TypeId} (h : A8 w B f t) {c : Nat} (hc : c < 8) : w.cell? ⟨B, c, none⟩ = some (.int .i64 (f c)) := RoomO.cell h (eight_at f hc)
theorem A8.set {w : World} {B : Nat} {f : Nat → Int} {t : TypeId} (h : A8 w B f t) {c : Nat} (hc : c < 8) (n : Int) : A8 (w.setCell ⟨B, c, none⟩ (.int .i64 (f c + n))) B (plus f c n) t := by
  have := RoomO.set h c (by omega) (.int .i64 (f c + n))
  rw [eight_set f hc] at this
  exact this
end Go.Proofs.Ytlnfenjoagkpdaa
