/- The document's turns: whose turn it is, as a relation; it is what Pk says. -/
import Derived.Test.YtlnfenjoagkpdaaRtB
namespace Go.Proofs.Ytlnfenjoagkpdaa
open Go.RowKit
set_option linter.unusedVariables false
set_option linter.unusedSimpArgs false

/-- What is left behind a turn's beginning. -/
def rdn (q : Int) (x : RC) : Int := if x.fr = true then x.de + q else x.de
inductive RPk (hd : Nat → Int) (q : Int) : List RC → List RC → Option Nat → Prop
  | none : RPk hd q [] [] none
  | sleep {x : RC} {rest l' : List RC} {r : Option Nat} : hd x.n < 1 → RPk hd q rest l' r → RPk hd q (x :: rest) l' r
  | serve {x : RC} {rest : List RC} : 1 ≤ hd x.n → hd x.n ≤ rdn q x → RPk hd q (x :: rest) (⟨x.n, false, rdn q x - hd x.n⟩ :: rest) (some x.n)
  | last {x : RC} {rest l' : List RC} {r : Option Nat} : 1 ≤ hd x.n → ¬ hd x.n ≤ rdn q x → RPk hd q (rest ++ [⟨x.n, true, rdn q x⟩]) l' r → RPk hd q (x :: rest) l' r
theorem RPk.det {hd : Nat → Int} {q : Int} {l l1 l2 : List RC} {r1 r2 : Option Nat} (h1 : RPk hd q l l1 r1) (h2 : RPk hd q l l2 r2) : l1 = l2 ∧ r1 = r2 := by
  induction h1 with
  | none => cases h2; exact ⟨rfl, rfl⟩
  | sleep a _ ih =>
    cases h2 with
    | sleep _ b => exact ih b
    | serve b _ => omega
    | last b _ _ => omega
  | serve a b =>
    cases h2 with
    | sleep c _ => omega
    | serve _ _ => exact ⟨rfl, rfl⟩
    | last _ c _ => exact absurd b c
  | last a b _ ih =>
    cases h2 with
    | sleep c _ => omega
    | serve _ c => exact absurd c b
    | last _ _ c => exact ih c
/-- Those that are awake, as the document has them. -/
def rcOf (t : Tn) (c : Nat) : RC := match t.l[c]? with | some x => ⟨c, x.fr, x.de⟩ | none => ⟨c, false, 0⟩
def rcs (t : Tn) : List RC := t.line.map (rcOf t)
theorem rcOf_at {t : Tn} {c : Nat} {x : Cl} (h : t.l[c]? = some x) : rcOf t c = ⟨c, x.fr, x.de⟩ := by unfold rcOf; rw [h]
theorem rcOf_set {t : Tn} {c d : Nat} {y : Cl} {q : Int} {line : List Nat} (h : d ≠ c) : rcOf ⟨q, t.l.set c y, line⟩ d = rcOf t d := by
  unfold rcOf
  show (match (t.l.set c y)[d]? with | some x => _ | none => _) = _
  rw [List.getElem?_set_ne (fun e => h e.symm)]
theorem rcOf_self {t : Tn} {c : Nat} {y : Cl} {q : Int} {line : List Nat} (h : c < t.l.length) : rcOf ⟨q, t.l.set c y, line⟩ c = ⟨c, y.fr, y.de⟩ := rcOf_at (List.getElem?_set_self h)
theorem rcs_rest {t : Tn} {c : Nat} {y : Cl} {q : Int} {line rest : List Nat} (h : c ∉ rest) : rest.map (rcOf ⟨q, t.l.set c y, line⟩) = rest.map (rcOf t) :=
  List.map_congr_left (fun d hd => rcOf_set (fun e => h (e ▸ hd)))
theorem rcs_cons {t : Tn} (h : okTn t) {c : Nat} {rest : List Nat} {x : Cl} (hl : t.line = c :: rest) (hx : t.l[c]? = some x) : rcs t = ⟨c, x.fr, x.de⟩ :: rest.map (rcOf t) := by
  unfold rcs
  rw [hl, List.map_cons, rcOf_at hx]
theorem Pk.rpk {hd : Nat → Int} (hhd : ∀ c, hd c ≤ 9216) {t t' : Tn} {r : Option Nat} (h : Pk hd t t' r) : okTn t → RPk hd t.q (rcs t) (rcs t') r := by
  induction h with
  | none h1 =>
    intro _
    unfold rcs
    rw [h1]
    exact .none
  | @sleep t t' r c rest h1 h2 h3 ih =>
    intro hok
    obtain ⟨x, hx, hxa, hnc, hnd⟩ := hok.cl h1
    have ih := ih (hok.sleep h1)
    rw [rcs_cons hok h1 hx]
    refine .sleep h2 ?_
    rw [sleep_line h1] at ih
    unfold rcs at ih
    have e : rest.map (rcOf ⟨t.q, t.l.set c ⟨false, false, 0⟩, rest⟩) = rest.map (rcOf t) := rcs_rest hnc
    simp only [e] at ih
    exact ih
  | @serve t c rest x h1 h2 h3 h4 =>
    intro hok
    obtain ⟨x', hx, hxa, hnc, hnd⟩ := hok.cl h1
    rw [h3] at hx
    cases hx
    have hc := (List.getElem?_eq_some_iff.1 h3).1
    rw [rcs_cons hok h1 h3]
    have e : rcs (tnSet t c ⟨x.aw, false, deNew t x - hd c⟩) = ⟨c, false, deNew t x - hd c⟩ :: rest.map (rcOf t) := by
      unfold rcs tnSet
      show t.line.map _ = _
      rw [h1, List.map_cons, rcOf_self hc, rcs_rest hnc]
    rw [e]
    exact RPk.serve (x := ⟨c, x.fr, x.de⟩) h2 h4
  | @last t t' r c rest x h1 h2 h3 h4 h5 ih =>
    intro hok
    obtain ⟨x', hx, hxa, hnc, hnd⟩ := hok.cl h1
    rw [h3] at hx
    cases hx
    have hc := (List.getElem?_eq_some_iff.1 h3).1
    have hb := hok.2.2.2.2 x (List.mem_of_getElem? h3)
    have hq := hok.2.2.2.1
    have hde : 0 ≤ deNew t x ∧ deNew t x ≤ 9216 + t.q := by
      unfold deNew
      split
      · next hf => have := hb.2.2 hf; omega
      · omega
    have e : tnLast (tnSet t c ⟨x.aw, false, deNew t x⟩) c rest ⟨x.aw, false, deNew t x⟩ = ⟨t.q, t.l.set c ⟨x.aw, true, deNew t x⟩, rest ++ [c]⟩ := by
      unfold tnLast tnSet
      simp
    have hok2 : okTn (tnLast (tnSet t c ⟨x.aw, false, deNew t x⟩) c rest ⟨x.aw, false, deNew t x⟩) := by
      rw [e]
      refine hok.step h3 (List.nodup_append.2 ⟨hnd, by simp, fun a ha b hb => ?_⟩) (fun d => ?_) ⟨hde.1, hde.2, fun _ => ?_⟩
      · simp at hb
        rw [hb]
        rintro rfl
        exact hnc ha
      · by_cases hd : d = c
        · subst hd; simp [hxa]
        · rw [if_neg hd, h1]; simp [hd]
      · have := hhd c
        show deNew t x ≤ 9216
        omega
    have ih := ih hok2
    rw [rcs_cons hok h1 h3]
    refine .last h2 h4 ?_
    rw [e] at ih
    unfold rcs at ih
    show RPk hd t.q (rest.map (rcOf t) ++ [⟨c, true, deNew t x⟩]) _ _
    have e2 : (rest ++ [c]).map (rcOf ⟨t.q, t.l.set c ⟨x.aw, true, deNew t x⟩, rest ++ [c]⟩) = rest.map (rcOf t) ++ [⟨c, true, deNew t x⟩] := by
      rw [List.map_append, rcs_rest hnc, List.map_cons, List.map_nil, rcOf_self hc]
    simp only [e2] at ih
    exact ih
def okR (q : Int) (l : List RC) : Prop := ∀ x ∈ l, 0 ≤ x.de ∧ x.de ≤ 9216 + q ∧ (x.fr = true → x.de ≤ 9216)
theorem okTn.okR {t : Tn} (h : okTn t) : okR t.q (rcs t) := by
  intro x hx
  simp only [rcs, List.mem_map] at hx
  obtain ⟨c, hc, rfl⟩ := hx
  obtain ⟨y, hy, _⟩ := (h.2.2.1 c).1 hc
  rw [rcOf_at hy]
  exact h.2.2.2.2 y (List.mem_of_getElem? hy)
def rterm (hd : Nat → Int) (x : RC) : Nat := 1 + 2 * (hd x.n - x.de).toNat + (if x.fr = true then 0 else 1)
def rmeas (hd : Nat → Int) (l : List RC) : Nat := (l.map (rterm hd)).sum
theorem rmeas_sleep (hd : Nat → Int) (x : RC) (rest : List RC) : rmeas hd rest < rmeas hd (x :: rest) := by
  unfold rmeas
  rw [List.map_cons, List.sum_cons]
  have : 1 ≤ rterm hd x := by unfold rterm; omega
  omega
theorem rmeas_last (hd : Nat → Int) {q : Int} (hq : 1 ≤ q) (x : RC) (rest : List RC) (hno : ¬ hd x.n ≤ rdn q x) : rmeas hd (rest ++ [⟨x.n, true, rdn q x⟩]) < rmeas hd (x :: rest) := by
  unfold rmeas
  rw [List.map_append, List.sum_append, List.map_cons, List.sum_cons, List.map_cons, List.map_nil, List.sum_cons, List.sum_nil]
  have h1 : rterm hd ⟨x.n, true, rdn q x⟩ = 1 + 2 * (hd x.n - rdn q x).toNat := by unfold rterm; simp
  have h2 : rterm hd x = 1 + 2 * (hd x.n - x.de).toNat + (if x.fr = true then 0 else 1) := rfl
  rw [h1, h2]
  unfold rdn at hno ⊢
  by_cases hf : x.fr = true
  · rw [if_pos hf] at hno ⊢
    rw [if_pos hf]
    omega
  · rw [if_neg hf] at hno ⊢
    rw [if_neg hf]
    omega
end Go.Proofs.Ytlnfenjoagkpdaa
