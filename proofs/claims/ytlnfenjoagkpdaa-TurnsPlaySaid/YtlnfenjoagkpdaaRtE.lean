/- Both turns side by side: waking, sleeping, whose turn it is, deficits. -/
import Derived.Test.YtlnfenjoagkpdaaRtD
namespace Go.Proofs.Ytlnfenjoagkpdaa
open Go.RowKit
set_option linter.unusedVariables false
set_option linter.unusedSimpArgs false

/-- Who sleeps has nothing. -/
def tidy (t : Tn) : Prop := ∀ x ∈ t.l, x.aw = false → x.de = 0
theorem rcOf_n (t : Tn) (c : Nat) : (rcOf t c).n = c := by unfold rcOf; split <;> rfl
theorem rcs_length (t : Tn) : (rcs t).length = t.line.length := by simp [rcs]
theorem rcs_get {t : Tn} {j : Nat} {y : RC} (h : (rcs t)[j]? = some y) : t.line[j]? = some y.n := by
  simp only [rcs, List.getElem?_map, Option.map_eq_some_iff] at h
  obtain ⟨c, hc, rfl⟩ := h
  rw [rcOf_n]
  exact hc
theorem at_in {t : Tn} {k : Nat} (hk : k ∈ t.line) : atN (rcs t) (k : Int) = t.line.idxOf k := by
  have hlt : t.line.idxOf k < t.line.length := List.idxOf_lt_length_iff.2 hk
  have hg : t.line[t.line.idxOf k]? = some k := by rw [List.getElem?_eq_getElem hlt, List.getElem_idxOf]
  refine atN_found (x := rcOf t k) ?_ (by rw [rcOf_n]) (fun j y hj hy he => ?_)
  · simp only [rcs, List.getElem?_map, hg, Option.map_some]
  · have h1 := rcs_get hy
    have he' : y.n = k := by omega
    rw [he'] at h1
    obtain ⟨hjl, hje⟩ := List.getElem?_eq_some_iff.1 h1
    have h2 := List.not_of_lt_findIdx (p := (· == k)) (xs := t.line) hj
    simp only [hje, beq_self_eq_true] at h2
    cases h2
theorem at_out {t : Tn} {c : Int} (h : ∀ k : Nat, c = (k : Int) → k ∉ t.line) : atN (rcs t) c = (rcs t).length := by
  refine atN_none (fun j y hy he => ?_)
  exact h y.n he.symm (List.mem_of_getElem? (rcs_get hy))
theorem de_eq {t : Tn} (hok : okTn t) (ht : tidy t) (c : Int) : rdeV (rcs t) c = deOf t c := by
  by_cases hc : ∃ k : Nat, c = (k : Int) ∧ k ∈ t.line
  · obtain ⟨k, rfl, hk⟩ := hc
    obtain ⟨x, hx, _⟩ := (hok.2.2.1 k).1 hk
    have hlt := (List.getElem?_eq_some_iff.1 hx).1
    have hil : t.line.idxOf k < t.line.length := List.idxOf_lt_length_iff.2 hk
    have hg : t.line[t.line.idxOf k]? = some k := by rw [List.getElem?_eq_getElem hil, List.getElem_idxOf]
    have h1 : (rcs t)[atN (rcs t) (k : Int)]? = some (rcOf t k) := by
      rw [at_in hk]
      simp only [rcs, List.getElem?_map, hg, Option.map_some]
    unfold rdeV deOf
    rw [h1, if_pos ⟨by omega, by omega⟩, show ((k : Int)).toNat = k from rfl, hx, rcOf_at hx]
  · have hno : ∀ k : Nat, c = (k : Int) → k ∉ t.line := fun k e hk => hc ⟨k, e, hk⟩
    have e0 : rdeV (rcs t) c = 0 := by unfold rdeV; rw [at_out hno, List.getElem?_eq_none (Nat.le_refl _)]
    rw [e0]
    unfold deOf
    split
    · next h =>
      obtain ⟨k, rfl⟩ := Int.eq_ofNat_of_zero_le h.1
      rw [show ((k : Int)).toNat = k from rfl]
      cases hx : t.l[k]? with
      | none => rfl
      | some x =>
        show 0 = x.de
        cases ha : x.aw with
        | false => exact (ht x (List.mem_of_getElem? hx) ha).symm
        | true => exact absurd ((hok.2.2.1 k).2 ⟨x, hx, ha⟩) (hno k rfl)
    · rfl
theorem tidy.set {t : Tn} (h : tidy t) {c : Nat} {y : Cl} {q : Int} {line : List Nat} (hy : y.aw = false → y.de = 0) : tidy ⟨q, t.l.set c y, line⟩ := by
  intro x hx ha
  rcases List.mem_or_eq_of_mem_set hx with hx | rfl
  · exact h x hx ha
  · exact hy ha
theorem Pk.q {hd : Nat → Int} {t t' : Tn} {r : Option Nat} (h : Pk hd t t' r) : t'.q = t.q := by
  induction h with
  | none _ => rfl
  | sleep _ _ _ ih => exact ih
  | serve _ _ _ _ => rfl
  | last _ _ _ _ _ ih => exact ih
theorem Pk.tidy {hd : Nat → Int} {t t' : Tn} {r : Option Nat} (h : Pk hd t t' r) : okTn t → tidy t → Go.Proofs.Ytlnfenjoagkpdaa.tidy t' := by
  have key : ∀ {t t' : Tn} {r : Option Nat}, Pk hd t t' r → (t.line.Nodup ∧ ∀ c ∈ t.line, ∃ x, t.l[c]? = some x ∧ x.aw = true) → Go.Proofs.Ytlnfenjoagkpdaa.tidy t → Go.Proofs.Ytlnfenjoagkpdaa.tidy t' := by
    intro t t' r h
    induction h with
    | none _ => exact fun _ h => h
    | @sleep t t' r c rest h1 h2 h3 ih =>
      intro hok ht
      rw [sleep_line h1] at ih
      rw [h1] at hok
      have hnd := List.nodup_cons.1 hok.1
      refine ih ⟨hnd.2, fun d hd2 => ?_⟩ (ht.set (fun _ => rfl))
      obtain ⟨x, hx, ha⟩ := hok.2 d (List.mem_cons_of_mem _ hd2)
      have hne : c ≠ d := fun e => by
        subst e
        exact hnd.1 hd2
      exact ⟨x, by show (t.l.set c _)[d]? = _; rw [List.getElem?_set_ne hne]; exact hx, ha⟩
    | @serve t c rest x h1 h2 h3 h4 =>
      intro hok ht
      obtain ⟨y, hy, ha⟩ := hok.2 c (by rw [h1]; simp)
      rw [h3] at hy
      cases hy
      exact ht.set (fun e => by rw [ha] at e; cases e)
    | @last t t' r c rest x h1 h2 h3 h4 h5 ih =>
      intro hok ht
      obtain ⟨y, hy, ha⟩ := hok.2 c (by rw [h1]; simp)
      rw [h3] at hy
      cases hy
      have hc := (List.getElem?_eq_some_iff.1 h3).1
      have e : tnLast (tnSet t c ⟨x.aw, false, deNew t x⟩) c rest ⟨x.aw, false, deNew t x⟩ = ⟨t.q, t.l.set c ⟨x.aw, true, deNew t x⟩, rest ++ [c]⟩ := by
        unfold tnLast tnSet
        simp
      rw [e] at ih
      rw [h1] at hok
      have hnd := List.nodup_cons.1 hok.1
      refine ih ⟨List.nodup_append.2 ⟨hnd.2, by simp, fun a ha b hb => ?_⟩, fun d hd2 => ?_⟩ (ht.set (fun e => by
        have e' : x.aw = false := e
        rw [ha] at e'
        cases e'))
      · simp at hb
        rw [hb]
        rintro rfl
        exact hnd.1 ha
      · show ∃ z, (t.l.set c _)[d]? = some z ∧ z.aw = true
        by_cases hdc : d = c
        · subst hdc
          exact ⟨_, List.getElem?_set_self hc, ha⟩
        · have hdr : d ∈ rest := by
            rcases List.mem_append.1 hd2 with h | h
            · exact h
            · simp at h; exact absurd h hdc
          obtain ⟨z, hz, hza⟩ := hok.2 d (List.mem_cons_of_mem _ hdr)
          exact ⟨z, by rw [List.getElem?_set_ne (fun e => hdc e.symm)]; exact hz, hza⟩
  exact fun hok ht => key h ⟨hok.2.1, fun c hc => (hok.2.2.1 c).1 hc⟩ ht

/-- Does it wake? -/
def wkB (t : Tn) (c : Int) : Bool := decide (0 ≤ c) && (match t.l[c.toNat]? with | some x => !x.aw | none => false)
def wkT (t : Tn) (c : Int) : Tn := if wkB t c = true then tnWake t c.toNat else t
theorem wkB_yes {t : Tn} {c : Int} (h : wkB t c = true) : ∃ (k : Nat) (x : Cl), c = (k : Int) ∧ t.l[k]? = some x ∧ x.aw = false := by
  unfold wkB at h
  rw [Bool.and_eq_true, decide_eq_true_eq] at h
  obtain ⟨k, rfl⟩ := Int.eq_ofNat_of_zero_le h.1
  have h2 := h.2
  rw [show ((k : Int)).toNat = k from rfl] at h2
  cases hx : t.l[k]? with
  | none => rw [hx] at h2; cases h2
  | some x => rw [hx] at h2; exact ⟨k, x, rfl, hx, by simpa using h2⟩
theorem wkB_no {t : Tn} {c : Int} (h : ¬ wkB t c = true) : ¬ (0 ≤ c ∧ c < (t.l.length : Int)) ∨ ∃ x, t.l[c.toNat]? = some x ∧ x.aw = true := by
  by_cases hh : 0 ≤ c ∧ c < (t.l.length : Int)
  · obtain ⟨k, rfl⟩ := Int.eq_ofNat_of_zero_le hh.1
    obtain ⟨x, hx⟩ : ∃ x, t.l[k]? = some x := ⟨_, List.getElem?_eq_getElem (by omega)⟩
    refine .inr ⟨x, hx, ?_⟩
    unfold wkB at h
    rw [show ((k : Int)).toNat = k from rfl, hx] at h
    simp at h
    exact h
  · exact .inl hh
theorem wake2_w (T C L N m : Nat) (t : Tn) (hok : okTn t) (c : Int) (w : World) (h : TnO w T C L N m t) :
    Calls Try.prog 13 #[.pointer (some ⟨T, 0, none⟩), .int .i64 c] w fun e w' => e = .returned (.bool (wkB t c)) ∧ ∃ m', TnO w' T C L N m' (wkT t c) ∧ okTn (wkT t c) ∧ Upd3 T C L w w' := by
  have hN129 : N ≤ 129 := by rw [← h.1.1]; exact hok.1.2
  by_cases hb : wkB t c = true
  · obtain ⟨k, x, rfl, hx, ha⟩ := wkB_yes hb
    refine (wakeYes_w T C L N m t hok k x hx ha w h).mono ?_
    rintro e w' ⟨rfl, h1, h2⟩
    have ht : wkT t (k : Int) = tnWake t k := by unfold wkT; rw [if_pos hb]; rfl
    rw [hb, ht]
    exact ⟨rfl, m + 1, h1, hok.wake hx ha, h2⟩
  · refine (wakeNo_w T C L N m t c (by rw [← h.1.1]; exact wkB_no hb) hN129 w h).mono ?_
    rintro e w' ⟨rfl, rfl⟩
    have ht : wkT t c = t := by unfold wkT; rw [if_neg hb]
    rw [ht, show wkB t c = false by simpa using hb]
    exact ⟨rfl, m, h, hok, Upd3.refl _ _ _ _⟩
theorem rcs_wake {t : Tn} {k : Nat} {x : Cl} (hok : okTn t) (hx : t.l[k]? = some x) (ha : x.aw = false) : rcs (tnWake t k) = rcs t ++ [⟨k, true, 0⟩] := by
  have hno : k ∉ t.line := fun hk => by
    obtain ⟨y, hy, hya⟩ := (hok.2.2.1 k).1 hk
    rw [hx] at hy
    cases hy
    rw [ha] at hya
    cases hya
  have hc := (List.getElem?_eq_some_iff.1 hx).1
  unfold rcs tnWake
  show (t.line ++ [k]).map _ = _
  rw [List.map_append, rcs_rest hno, List.map_cons, List.map_nil, rcOf_self hc]
theorem rwake2_w (N : Nat) (q : Int) (A : Option Addr) (n cp : Nat) (t : Tn) (hok : okTn t) (hN : t.l.length = N) (c : Int) (hn : n ≤ 1000) (w : World) (h : SlR rcC w A n cp (rcs t)) :
    Calls Try.prog 17 #[.agg (rtC N q A n cp), .int .i64 c] w fun e w' => ∃ A1 n1 c1, e = .returned (.tuple #[.agg (rtC N q A1 n1 c1), .bool (wkB t c)]) ∧ SlR rcC w' A1 n1 c1 (rcs (wkT t c)) ∧ (A1 = A ∨ ∀ ad, A1 = some ad → w.heap.size ≤ ad.block) ∧ Below w.heap.size w w' := by
  by_cases hb : wkB t c = true
  · obtain ⟨k, x, rfl, hx, ha⟩ := wkB_yes hb
    have hk := (List.getElem?_eq_some_iff.1 hx).1
    have hat : ¬ atN (rcs t) (k : Int) < (rcs t).length := by
      rw [at_out (fun j e hj => ?_)]
      · omega
      · have : j = k := by omega
        subst this
        obtain ⟨y, hy, hya⟩ := (hok.2.2.1 j).1 hj
        rw [hx] at hy
        cases hy
        rw [ha] at hya
        cases hya
    refine (rwakeYes_w N q A n cp (rcs t) hn k (by omega) hat w h).mono ?_
    rintro e w' ⟨A1, c1, rfl, h1, h2, h3⟩
    have ht : wkT t (k : Int) = tnWake t k := by unfold wkT; rw [if_pos hb]; rfl
    rw [hb, ht, rcs_wake hok hx ha]
    exact ⟨A1, n + 1, c1, rfl, h1, .inr h2, h3⟩
  · have hno : ¬ (0 ≤ c ∧ c < (N : Int)) ∨ atN (rcs t) c < (rcs t).length := by
      rcases wkB_no hb with h' | ⟨x, hx, ha⟩
      · exact .inl (by rw [← hN]; exact h')
      · by_cases hh : 0 ≤ c ∧ c < (N : Int)
        · obtain ⟨k, rfl⟩ := Int.eq_ofNat_of_zero_le hh.1
          have hk : k ∈ t.line := (hok.2.2.1 k).2 ⟨x, hx, ha⟩
          refine .inr ?_
          rw [at_in hk, rcs_length]
          exact List.idxOf_lt_length_iff.2 hk
        · exact .inl hh
    refine (rwakeNo_w N q A n cp (rcs t) hn c hno w h).mono ?_
    rintro e w' ⟨rfl, hbl⟩
    have ht : wkT t c = t := by unfold wkT; rw [if_neg hb]
    rw [ht, show wkB t c = false by simpa using hb]
    exact ⟨A, n, cp, rfl, h.below hbl, .inl rfl, hbl⟩

/-- Does it sleep then? -/
def slB (t : Tn) (c : Int) : Bool := decide (0 ≤ c ∧ c.toNat ∈ t.line)
def slT (t : Tn) (c : Int) : Tn := if slB t c = true then tnSleep t c.toNat else t
theorem slB_yes {t : Tn} {c : Int} (h : slB t c = true) : ∃ k : Nat, c = (k : Int) ∧ k ∈ t.line := by
  have h := of_decide_eq_true h
  obtain ⟨k, rfl⟩ := Int.eq_ofNat_of_zero_le h.1
  exact ⟨k, rfl, h.2⟩
theorem slB_no {t : Tn} {c : Int} (h : ¬ slB t c = true) : ∀ k : Nat, c = (k : Int) → k ∉ t.line := fun k e hk => h (decide_eq_true ⟨by omega, by subst e; exact hk⟩)
theorem sleep2_w (T C L N m : Nat) (t : Tn) (hok : okTn t) (c : Int) (w : World) (h : TnO w T C L N m t) :
    Calls Try.prog 18 #[.pointer (some ⟨T, 0, none⟩), .int .i64 c] w fun e w' => e = .returned (.bool (slB t c)) ∧ ∃ m', TnO w' T C L N m' (slT t c) ∧ okTn (slT t c) ∧ Upd3 T C L w w' := by
  have hN129 : N ≤ 129 := by rw [← h.1.1]; exact hok.1.2
  by_cases hb : slB t c = true
  · obtain ⟨k, rfl, hk⟩ := slB_yes hb
    refine (sleepYes_w T C L N m t hok k hk w h).mono ?_
    rintro e w' ⟨rfl, h1, h2⟩
    have ht : slT t (k : Int) = tnSleep t k := by unfold slT; rw [if_pos hb]; rfl
    rw [hb, ht]
    exact ⟨rfl, m - 1, h1, hok.sleepAny hk, h2⟩
  · have hno := slB_no hb
    have hn : ¬ (0 ≤ c ∧ c < (N : Int)) ∨ ∃ x, t.l[c.toNat]? = some x ∧ x.aw = false := by
      by_cases hh : 0 ≤ c ∧ c < (N : Int)
      · obtain ⟨k, rfl⟩ := Int.eq_ofNat_of_zero_le hh.1
        obtain ⟨x, hx⟩ : ∃ x, t.l[k]? = some x := ⟨_, List.getElem?_eq_getElem (by rw [h.1.1]; omega)⟩
        refine .inr ⟨x, by simpa using hx, ?_⟩
        cases hxa : x.aw with
        | false => rfl
        | true => exact absurd ((hok.2.2.1 k).2 ⟨x, hx, hxa⟩) (hno k rfl)
      · exact .inl hh
    refine (sleepNo_w T C L N m t c hn hN129 w h).mono ?_
    rintro e w' ⟨rfl, rfl⟩
    have ht : slT t c = t := by unfold slT; rw [if_neg hb]
    rw [ht, show slB t c = false by simpa using hb]
    exact ⟨rfl, m, h, hok, Upd3.refl _ _ _ _⟩
theorem rcs_sleep {t : Tn} {k : Nat} (hok : okTn t) (hk : k ∈ t.line) : rcs (tnSleep t k) = (rcs t).eraseIdx (t.line.idxOf k) := by
  have hno : k ∉ t.line.eraseIdx (t.line.idxOf k) := by
    rw [← List.erase_eq_eraseIdx_of_idxOf (l := t.line) (a := k) rfl, hok.2.1.mem_erase_iff]
    simp
  unfold rcs tnSleep
  show (t.line.eraseIdx (t.line.idxOf k)).map (rcOf ⟨t.q, t.l.set k ⟨false, false, 0⟩, t.line.eraseIdx (t.line.idxOf k)⟩) = _
  rw [rcs_rest hno, List.eraseIdx_eq_take_drop_succ, List.eraseIdx_eq_take_drop_succ, List.map_append, List.map_take, List.map_drop]
theorem rsleep2_w (N : Nat) (q : Int) (A : Option Addr) (n cp : Nat) (t : Tn) (hok : okTn t) (c : Int) (hn : n ≤ 1000) (w : World) (h : SlR rcC w A n cp (rcs t)) :
    Calls Try.prog 19 #[.agg (rtC N q A n cp), .int .i64 c] w fun e w' => ∃ A1 n1 c1, e = .returned (.tuple #[.agg (rtC N q A1 n1 c1), .bool (slB t c)]) ∧ SlR rcC w' A1 n1 c1 (rcs (slT t c)) ∧ (A1 = A ∨ ∀ ad, A1 = some ad → w.heap.size ≤ ad.block) ∧ Below w.heap.size w w' := by
  by_cases hb : slB t c = true
  · obtain ⟨k, rfl, hk⟩ := slB_yes hb
    have hat : atN (rcs t) (k : Int) < (rcs t).length := by rw [at_in hk, rcs_length]; exact List.idxOf_lt_length_iff.2 hk
    refine (rsleepYes_w N q A n cp (rcs t) hn k hat w h).mono ?_
    rintro e w' ⟨A1, n1, c1, rfl, h1, h2, h3⟩
    have ht : slT t (k : Int) = tnSleep t k := by unfold slT; rw [if_pos hb]; rfl
    rw [hb, ht, rcs_sleep hok hk, ← at_in hk]
    exact ⟨A1, n1, c1, rfl, h1, .inr h2, h3⟩
  · have hat : ¬ atN (rcs t) c < (rcs t).length := by rw [at_out (slB_no hb)]; omega
    refine (rsleepNo_w N q A n cp (rcs t) hn c hat w h).mono ?_
    rintro e w' ⟨rfl, hbl⟩
    have ht : slT t c = t := by unfold slT; rw [if_neg hb]
    rw [ht, show slB t c = false by simpa using hb]
    exact ⟨A, n, cp, rfl, h.below hbl, .inl rfl, hbl⟩
theorem tidy.wk {t : Tn} (h : tidy t) (c : Int) : tidy (wkT t c) := by
  unfold wkT
  split
  · exact h.set (fun e => by cases e)
  · exact h
theorem tidy.sl {t : Tn} (h : tidy t) (c : Int) : tidy (slT t c) := by
  unfold slT
  split
  · exact h.set (fun _ => rfl)
  · exact h
theorem wkT_q (t : Tn) (c : Int) : (wkT t c).q = t.q := by unfold wkT; split <;> rfl
theorem slT_q (t : Tn) (c : Int) : (slT t c).q = t.q := by unfold slT; split <;> rfl
end Go.Proofs.Ytlnfenjoagkpdaa
