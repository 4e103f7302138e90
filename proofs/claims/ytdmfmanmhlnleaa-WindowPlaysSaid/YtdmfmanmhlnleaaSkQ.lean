/- Plain law of SketchBounds: what a slot may be wrong by. -/
import Derived.Test.YtdmfmanmhlnleaaSkP
namespace Go.Proofs.Ytdmfmanmhlnleaa
set_option linter.unusedVariables false
set_option linter.unusedSimpArgs false

/-- How much a prefix has sent. -/
def truthN (L : List Sn) (p : Px) : Int := L.foldl (fun t s => if s.p = p then t + s.n else t) 0
theorem truthN_append (L : List Sn) (x : Sn) (p : Px) : truthN (L ++ [x]) p = if x.p = p then truthN L p + x.n else truthN L p := by
  unfold truthN
  rw [List.foldl_append]
  rfl
theorem truthN_step {L : List Sn} {k : Nat} {x : Sn} (h : L[k]? = some x) (p : Px) : truthN (L.take (k + 1)) p = if x.p = p then truthN (L.take k) p + x.n else truthN (L.take k) p := by
  rw [take_snoc h, truthN_append]
theorem truthN_range {L : List Sn} (h : ∀ x ∈ L, 0 ≤ x.n) (p : Px) : 0 ≤ truthN L p ∧ truthN L p ≤ sentN L := by
  revert h
  refine rev_ind (M := fun L => (∀ x ∈ L, 0 ≤ x.n) → 0 ≤ truthN L p ∧ truthN L p ≤ sentN L) (fun _ => ⟨Int.le_refl _, Int.le_refl _⟩) (fun L x ih h => ?_) L
  have h1 := ih (fun y hy => h y (by simp [hy]))
  have h2 := h x (by simp)
  rw [truthN_append, sentN_append]
  split <;> omega

def Bd (R : Nat) (s : Sk) (L : List Sn) : Prop :=
  (∀ x ∈ s.l, truthN L x.p ≤ x.c ∧ x.c - x.e ≤ truthN L x.p ∧ x.e * (R : Int) ≤ sentN L) ∧ (∀ p, p ∉ pxs s.l → (∀ z ∈ s.l, truthN L p ≤ z.c) ∧ (s.l.length < R → truthN L p = 0)) ∧ (pxs s.l).Nodup
theorem pxs_ne {l : List Slo} (hd : (pxs l).Nodup) {k i : Nat} {y : Slo} (hy : l[k]? = some y) (hi : i < l.length) (hne : k ≠ i) : l[i].p ≠ y.p := by
  intro e
  have hk := (List.getElem?_eq_some_iff.1 hy).1
  have e2 : (pxs l)[k]'(by simpa [pxs] using hk) = (pxs l)[i]'(by simpa [pxs] using hi) := by
    simp only [pxs, List.getElem_map]
    rw [e, (List.getElem?_eq_some_iff.1 hy).2]
  exact hne ((List.getElem_inj hd).1 e2)
theorem nodup_set {l : List Px} (h : l.Nodup) {p : Px} (hp : p ∉ l) (k : Nat) : (l.set k p).Nodup := by
  induction l generalizing k with
  | nil => simp
  | cons a l ih =>
    have h1 := List.nodup_cons.1 h
    simp at hp
    cases k with
    | zero => exact List.nodup_cons.2 ⟨hp.2, h1.2⟩
    | succ k =>
      refine List.nodup_cons.2 ⟨fun hm => ?_, ih h1.2 hp.2 k⟩
      rcases List.mem_or_eq_of_mem_set hm with h | h
      · exact h1.1 h
      · exact hp.1 h.symm
theorem Bd.step {R : Nat} {s : Sk} {L : List Sn} (h : Bd R s L) (hok : okSk s) (hroom : s.room = R) (hsum : sumC s.l = sentN L) (hL : ∀ x ∈ L, 0 ≤ x.n) (hbig : sentN L ≤ 515396075520) (x : Sn) (hx : 0 ≤ x.n ∧ x.n ≤ 4294967296) : Bd R (skAdd s x.p x.n) (L ++ [x]) := by
  obtain ⟨h1, h2, h3⟩ := h
  have hs0 : 0 ≤ sentN L := by have := truthN_range hL x.p; omega
  have hse : sentN (L ++ [x]) = sentN L + x.n := sentN_append L x
  have hpl : ∀ y ∈ s.l, plus (cnt y.c) x.n = y.c + x.n := fun y hy => by
    have := sumC_ge hok.2.2.1 y hy
    have := (hok.2.2.1 y hy).2.1.1
    exact plus_in (by omega) hx.1 (by omega)
  by_cases hm : x.p ∈ pxs s.l
  · obtain ⟨k, y, hy, hp, he⟩ := skAdd_found x.n hm
    have hym := List.mem_of_getElem? hy
    have hpx : pxs (skAdd s x.p x.n).l = pxs s.l := by rw [he]; exact pxs_set hy rfl
    refine ⟨fun z hz => ?_, fun q hq => ?_, by rw [hpx]; exact h3⟩
    · rw [he] at hz
      obtain ⟨i, hi, rfl⟩ := List.getElem_of_mem hz
      rw [List.length_set] at hi
      rw [List.getElem_set]
      by_cases hik : k = i
      · rw [if_pos hik]
        show truthN (L ++ [x]) y.p ≤ plus (cnt y.c) x.n ∧ plus (cnt y.c) x.n - y.e ≤ truthN (L ++ [x]) y.p ∧ y.e * (R : Int) ≤ sentN (L ++ [x])
        have := h1 y hym
        rw [truthN_append, if_pos hp.symm, hpl y hym, hse]
        omega
      · rw [if_neg hik]
        have hne := pxs_ne h3 hy hi hik
        have := h1 _ (List.getElem_mem hi)
        rw [truthN_append, if_neg (by rw [← hp]; exact fun e => hne e.symm), hse]
        omega
    · rw [hpx] at hq
      rw [truthN_append, if_neg (by rintro rfl; exact hq hm)]
      have := h2 q hq
      refine ⟨fun z hz => ?_, fun hl => this.2 (by rw [he] at hl; simpa using hl)⟩
      rw [he] at hz
      rcases List.mem_or_eq_of_mem_set hz with h | h
      · exact this.1 z h
      · rw [h]
        have := this.1 y hym
        show truthN L q ≤ plus (cnt y.c) x.n
        rw [hpl y hym]
        omega
  · have hmx := h2 x.p hm
    by_cases hr : s.l.length < s.room
    · have he := skAdd_new x.n hm hr
      have hpx : pxs (skAdd s x.p x.n).l = pxs s.l ++ [x.p] := by rw [he]; simp [pxs]
      have h0 := hmx.2 (by omega)
      have hp0 : plus (cnt 0) x.n = x.n := by rw [plus_in (by omega) hx.1 (by omega)]; omega
      refine ⟨fun z hz => ?_, fun q hq => ?_, ?_⟩
      · rw [he] at hz
        rcases List.mem_append.1 hz with hz | hz
        · have hne : ¬ x.p = z.p := fun e => hm (by rw [e]; exact List.mem_map.2 ⟨z, hz, rfl⟩)
          have := h1 z hz
          rw [truthN_append, if_neg hne, hse]
          omega
        · simp at hz
          rw [hz]
          show truthN (L ++ [x]) x.p ≤ plus (cnt 0) x.n ∧ plus (cnt 0) x.n - 0 ≤ truthN (L ++ [x]) x.p ∧ 0 * (R : Int) ≤ sentN (L ++ [x])
          rw [truthN_append, if_pos rfl, hp0, h0, hse]
          omega
      · rw [hpx] at hq
        simp at hq
        have := h2 q hq.1
        have hq0 := this.2 (by omega)
        rw [truthN_append, if_neg (fun e => hq.2 e.symm)]
        refine ⟨fun z hz => ?_, fun _ => hq0⟩
        rw [he] at hz
        rcases List.mem_append.1 hz with hz | hz
        · exact this.1 z hz
        · simp at hz
          rw [hz, hq0]
          show (0 : Int) ≤ plus (cnt 0) x.n
          rw [hp0]
          exact hx.1
      · rw [hpx]
        refine List.nodup_append.2 ⟨h3, by simp, fun a ha b hb => ?_⟩
        simp at hb
        rw [hb]
        rintro rfl
        exact hm ha
    · obtain ⟨k, y, hy, hmin, he⟩ := skAdd_out x.n hok hm hr
      have hym := List.mem_of_getElem? hy
      have hlenR : s.l.length = R := by have := hok.2.1; omega
      have hyR : y.c * (R : Int) ≤ sentN L := by
        have := sumC_least hmin
        rw [hlenR] at this
        omega
      have hkl := (List.getElem?_eq_some_iff.1 hy).1
      have hpx : pxs (skAdd s x.p x.n).l = (pxs s.l).set k x.p := by rw [he]; simp [pxs, List.map_set]
      have ht0 := truthN_range hL x.p
      refine ⟨fun z hz => ?_, fun q hq => ?_, by rw [hpx]; exact nodup_set h3 hm k⟩
      · rw [he] at hz
        rcases List.mem_or_eq_of_mem_set hz with hz | hz
        · have hne : ¬ x.p = z.p := fun e => hm (by rw [e]; exact List.mem_map.2 ⟨z, hz, rfl⟩)
          have := h1 z hz
          rw [truthN_append, if_neg hne, hse]
          omega
        · rw [hz]
          have := hmx.1 y hym
          show truthN (L ++ [x]) x.p ≤ plus (cnt y.c) x.n ∧ plus (cnt y.c) x.n - y.c ≤ truthN (L ++ [x]) x.p ∧ y.c * (R : Int) ≤ sentN (L ++ [x])
          rw [truthN_append, if_pos rfl, hpl y hym, hse]
          omega
      · rw [hpx] at hq
        have hqx : ¬ x.p = q := by
          rintro rfl
          exact hq (List.mem_set (by simpa [pxs] using hkl) _)
        have hmain : ∀ z ∈ s.l, truthN L q ≤ z.c := by
          by_cases hqo : q ∈ pxs s.l
          · obtain ⟨z, hz, rfl⟩ := List.mem_map.1 hqo
            obtain ⟨i, hi, rfl⟩ := List.getElem_of_mem hz
            have hik : k = i := Decidable.byContradiction fun hik => hq (by
              have hi' : i < ((pxs s.l).set k x.p).length := by simpa [pxs] using hi
              have : ((pxs s.l).set k x.p)[i] = s.l[i].p := by rw [List.getElem_set, if_neg hik]; simp [pxs]
              rw [← this]
              exact List.getElem_mem hi')
            subst hik
            have hyk : s.l[k] = y := (List.getElem?_eq_some_iff.1 hy).2
            rw [hyk]
            intro z hz
            have := (h1 y hym).1
            have := hmin z hz
            omega
          · exact (h2 q hqo).1
        rw [truthN_append, if_neg hqx]
        refine ⟨fun z hz => ?_, fun hl => by rw [he] at hl; simp at hl; omega⟩
        rw [he] at hz
        rcases List.mem_or_eq_of_mem_set hz with hz | hz
        · exact hmain z hz
        · rw [hz]
          have := hmain y hym
          show truthN L q ≤ plus (cnt y.c) x.n
          rw [hpl y hym]
          omega
theorem bounds_law (R : Nat) (hR : 1 ≤ R ∧ R ≤ 64) (L : List Sn) (hL : ∀ x ∈ L, okPx x.p ∧ 0 ≤ x.n ∧ x.n ≤ 4294967296) (hlen : L.length ≤ 120) : Bd R (skRun (skNew R) L) L := by
  revert hL hlen
  refine rev_ind (M := fun L => (∀ x ∈ L, okPx x.p ∧ 0 ≤ x.n ∧ x.n ≤ 4294967296) → L.length ≤ 120 → Bd R (skRun (skNew R) L) L) (fun _ _ => ⟨fun x hx => by simp [skRun, skNew] at hx, fun p _ => ⟨fun z hz => by simp [skRun, skNew] at hz, fun _ => rfl⟩, by simp [skRun, skNew, pxs]⟩) (fun L x ih hL hlen => ?_) L
  simp at hlen
  have hL' : ∀ y ∈ L, okPx y.p ∧ 0 ≤ y.n ∧ y.n ≤ 4294967296 := fun y hy => hL y (by simp [hy])
  have hs := sums_law R hR L hL' (by omega)
  have hr := sentN_range (L := L) (M := 4294967296) (fun y hy => (hL' y hy).2)
  rw [skRun_append]
  exact (ih hL' (by omega)).step (skRun_ok (skNew_ok hR) (fun y hy => (hL' y hy).1)) (by rw [skRun_room]; rfl) hs.1 (fun y hy => (hL' y hy).2.1) (by omega) x (hL x (by simp)).2
theorem minC_ge {l : List Slo} {m : Int} (h0 : m ≤ 1152921504606846976) (h : ∀ z ∈ l, m ≤ z.c) : m ≤ minC l := by
  revert h
  refine rev_ind (M := fun l => (∀ z ∈ l, m ≤ z.c) → m ≤ minC l) (fun _ => h0) (fun l y ih h => ?_) l
  have e : minC (l ++ [y]) = if minC l ≤ y.c then minC l else y.c := by unfold minC; rw [List.foldl_append]; rfl
  have h1 := ih (fun x hx => h x (by simp [hx]))
  have h2 := h y (by simp)
  rw [e]
  split <;> omega
end Go.Proofs.Ytdmfmanmhlnleaa
