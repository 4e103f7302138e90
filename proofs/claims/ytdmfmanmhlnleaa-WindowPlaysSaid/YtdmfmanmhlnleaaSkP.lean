/- Plain laws of the sketch: what one counting changes; sums; what is exact. -/
import Derived.Test.YtdmfmanmhlnleaaSkG
namespace Go.Proofs.Ytdmfmanmhlnleaa
open Go.RowKit
set_option linter.unusedVariables false
set_option linter.unusedSimpArgs false

theorem own_cells {w : World} {B : Nat} {A : Option Addr} {n c : Nat} {l : List Slo} {t : TypeId} (h : w.ownsRow B t 10 (.slice A n c) n (slosC l)) (hl : ∀ x ∈ l, okPx x.p) :
    ∀ k x, l[k]? = some x → ∃ g, B ≤ g ∧ A = some ⟨g, 0, none⟩ ∧ CellsAt w g (k * 10) (sloC x) := by
  obtain ⟨A', c', e, _, _, h2⟩ := own_read h hl
  cases e
  exact h2
theorem RoomO.midAny {w : World} {L n cap : Nat} {xs : List Value} {t : TypeId} (h : RoomO w L n cap 10 xs t) {k : Nat} (hk : k < n) {cs : List Value} (hc : cs.length = 10) :
    ∃ ys, RoomO (w.setCells L (k * 10) cs) L n cap 10 ys t ∧ Upd L w (w.setCells L (k * 10) cs) := by
  obtain ⟨h1, h2, junk, h3, h4⟩ := h
  have hm := setCells_mid L t cs (k * 10) _ w h4 (by simp [h1, hc]; omega)
  refine ⟨xs.take (k * 10) ++ (cs ++ xs.drop (k * 10 + 10)), ⟨?_, h2, junk, h3, ?_⟩, hm.2⟩
  · simp [h1, hc]
    omega
  · have hm1 := hm.1
    rw [show (xs ++ junk).toArray.toList = xs ++ junk from rfl, hc, List.take_append_of_le_length (by omega), List.drop_append_of_le_length (by omega)] at hm1
    simpa [List.append_assoc] using hm1
theorem RoomO.there {w : World} {L n cap : Nat} {xs : List Value} {t : TypeId} (h : RoomO w L n cap 10 xs t) {k : Nat} (hk : k < n) : w.there L (k * 10) 10 := by
  intro j hj
  refine ⟨?_, h.free _⟩
  have hlt : k * 10 + j < xs.length := by rw [h.1]; omega
  rw [h.cell (List.getElem?_eq_getElem hlt)]
  rfl
section
variable {P : Program} {ops : Array Oper} {rest : List Oper} {o : Oper} {a : Act} {Q : Exit → Act → World → Prop} {w : World}
/-- A slot of a row of the call's own is written. -/
theorem store_room (hgd : o.guard = none) (ty : TypeId) (x y : Operand) (ho : o.op = .store ty x y) (g n cap k : Nat) (xs : List Value) (t : TypeId) (h : RoomO w g n cap 10 xs t) (hk : k < n) (cs : List Value) (hc : cs.length = 10)
    (hx : a.eval x = .pointer (some ⟨g, k * 10, none⟩)) (hy : a.eval y = .agg cs.toArray) (hi : (P.info? ty).map (·.size) = some cs.toArray.size) (h1 : ∀ v ∈ cs, v.oneCell' = true)
    (hK : ∀ w5 ys, RoomO w5 g n cap 10 ys t → Upd g w w5 → wpList P ops Q rest (a.put o.dst undef) w5) : wpList P ops Q (o :: rest) a w := by
  refine wpList_store_mid hgd ty x y ho g (k * 10) cs.toArray hx hy ?_ hi (all_oneCell_toArray h1) ?_
  · have : cs.toArray.size = 10 := by simpa using hc
    rw [this]
    exact h.there hk
  · obtain ⟨ys, h2, h3⟩ := h.midAny hk hc
    exact hK _ ys h2 h3
end

def pxs (l : List Slo) : List Px := l.map (·.p)
theorem fnd_mem {l : List Slo} {p : Px} : fnd l p < l.length ↔ p ∈ pxs l := by
  constructor
  · intro h
    obtain ⟨s, h1, h2⟩ := fnd_at h
    exact List.mem_map.2 ⟨s, List.mem_of_getElem? h1, h2⟩
  · intro h
    obtain ⟨s, h1, h2⟩ := List.mem_map.1 h
    unfold fnd
    rw [List.findIdx_lt_length]
    exact ⟨s, h1, by simpa using h2⟩
theorem skAdd_found {s : Sk} {p : Px} (n : Int) (h : p ∈ pxs s.l) : ∃ k y, s.l[k]? = some y ∧ y.p = p ∧ (skAdd s p n).l = s.l.set k { y with c := plus (cnt y.c) n } := by
  have h1 := fnd_mem.2 h
  obtain ⟨y, hy, hp⟩ := fnd_at h1
  refine ⟨fnd s.l p, y, hy, hp, ?_⟩
  have e1 : skBase s p = s.l := by unfold skBase; rw [if_pos h1]
  have e2 : skAt s p = fnd s.l p := by unfold skAt; rw [if_pos h1]
  rw [skAdd_eq e1 e2 hy]
theorem skAdd_new {s : Sk} {p : Px} (n : Int) (h : p ∉ pxs s.l) (hr : s.l.length < s.room) : (skAdd s p n).l = s.l ++ [⟨p, plus (cnt 0) n, 0⟩] := by
  have h1 : ¬ fnd s.l p < s.l.length := fun h2 => h (fnd_mem.1 h2)
  have e1 : skBase s p = s.l ++ [⟨p, 0, 0⟩] := by unfold skBase; rw [if_neg h1, if_pos hr]
  have e2 : skAt s p = s.l.length := by unfold skAt; rw [if_neg h1, if_pos hr]
  rw [skAdd_eq e1 e2 (x := ⟨p, 0, 0⟩) (by simp)]
  simp
theorem skAdd_out {s : Sk} {p : Px} (n : Int) (hok : okSk s) (h : p ∉ pxs s.l) (hr : ¬ s.l.length < s.room) : ∃ k y, s.l[k]? = some y ∧ (∀ z ∈ s.l, y.c ≤ z.c) ∧ (skAdd s p n).l = s.l.set k ⟨p, plus (cnt y.c) n, y.c⟩ := by
  have h1 : ¬ fnd s.l p < s.l.length := fun h2 => h (fnd_mem.1 h2)
  obtain ⟨k, hk⟩ : ∃ k, lst s.l s.l.length = k := ⟨_, rfl⟩
  have hlen : 0 < s.l.length := by have := hok.1.1; omega
  have hkl : k < s.l.length := by
    rw [← hk]
    rcases lst_lt s.l s.l.length with h | h <;> omega
  obtain ⟨y, hy⟩ : ∃ y, s.l[k]? = some y := ⟨_, List.getElem?_eq_getElem hkl⟩
  have hc : cntAt s.l k = y.c := cntAt_of hy
  refine ⟨k, y, hy, fun z hz => ?_, ?_⟩
  · obtain ⟨j, hj, rfl⟩ := List.getElem_of_mem hz
    have := lst_le s.l s.l.length j hj
    rw [hk, hc, cntAt_of (List.getElem?_eq_getElem hj)] at this
    exact this
  · have e1 : skBase s p = s.l.set k ⟨p, y.c, y.c⟩ := by unfold skBase; rw [if_neg h1, if_neg hr, hk, hc]
    have e2 : skAt s p = k := by unfold skAt; rw [if_neg h1, if_neg hr, hk]
    rw [skAdd_eq e1 e2 (x := ⟨p, y.c, y.c⟩) (by rw [List.getElem?_set_self hkl])]
    simp
theorem pxs_set {l : List Slo} {k : Nat} {y z : Slo} (h : l[k]? = some y) (hp : z.p = y.p) : pxs (l.set k z) = pxs l := by
  unfold pxs
  rw [List.map_set]
  apply List.ext_getElem?
  intro i
  rw [List.getElem?_set]
  by_cases hi : k = i
  · subst hi
    rw [if_pos rfl, if_pos (by simpa using (List.getElem?_eq_some_iff.1 h).1), List.getElem?_map, h, hp]
    rfl
  · rw [if_neg hi]

/-- How much a prefix has sent, as a count. -/
def truthP (L : List Sn) (p : Px) : Int := L.foldl (fun t s => if s.p = p then plus (cnt t) s.n else t) 0
theorem truthP_append (L : List Sn) (x : Sn) (p : Px) : truthP (L ++ [x]) p = if x.p = p then plus (cnt (truthP L p)) x.n else truthP L p := by
  unfold truthP
  rw [List.foldl_append]
  rfl
theorem take_snoc {α : Type} {L : List α} {k : Nat} {x : α} (h : L[k]? = some x) : L.take (k + 1) = L.take k ++ [x] := by
  obtain ⟨hk, rfl⟩ := List.getElem?_eq_some_iff.1 h
  rw [List.take_succ_eq_append_getElem hk]
theorem truthP_step {L : List Sn} {k : Nat} {x : Sn} (h : L[k]? = some x) (p : Px) : truthP (L.take (k + 1)) p = if x.p = p then plus (cnt (truthP (L.take k) p)) x.n else truthP (L.take k) p := by
  rw [take_snoc h, truthP_append]
theorem skRun_append (s : Sk) (L : List Sn) (x : Sn) : skRun s (L ++ [x]) = skAdd (skRun s L) x.p x.n := by
  unfold skRun
  rw [List.foldl_append]
  rfl
theorem rev_ind {α : Type} {M : List α → Prop} (h0 : M []) (h1 : ∀ L x, M L → M (L ++ [x])) : ∀ L, M L := by
  intro L
  generalize hn : L.length = n
  induction n generalizing L with
  | zero => rw [List.eq_nil_of_length_eq_zero hn]; exact h0
  | succ n ih =>
    obtain ⟨K, x, rfl⟩ : ∃ K x, L = K ++ [x] := ⟨L.dropLast, L.getLast (by intro h; simp [h] at hn), (List.dropLast_concat_getLast _).symm⟩
    exact h1 K x (ih K (by simp at hn; exact hn))

def Ex (s : Sk) (L : List Sn) : Prop := s.l.length ≤ L.length ∧ (∀ x ∈ s.l, truthP L x.p = x.c ∧ x.e = 0) ∧ (∀ p, p ∉ pxs s.l → truthP L p = 0) ∧ (pxs s.l).Nodup
theorem Ex.step {s : Sk} {L : List Sn} (h : Ex s L) (x : Sn) (hr : L.length < s.room) : Ex (skAdd s x.p x.n) (L ++ [x]) := by
  obtain ⟨h1, h2, h3, h4⟩ := h
  by_cases hm : x.p ∈ pxs s.l
  · obtain ⟨k, y, hy, hp, he⟩ := skAdd_found x.n hm
    have hpx : pxs (skAdd s x.p x.n).l = pxs s.l := by rw [he]; exact pxs_set hy rfl
    refine ⟨by rw [he]; simp; omega, fun z hz => ?_, fun p hp2 => ?_, by rw [hpx]; exact h4⟩
    · rw [he] at hz
      obtain ⟨i, hi, rfl⟩ := List.getElem_of_mem hz
      rw [List.length_set] at hi
      rw [List.getElem_set]
      by_cases hik : k = i
      · rw [if_pos hik]
        show truthP (L ++ [x]) y.p = plus (cnt y.c) x.n ∧ y.e = 0
        have := h2 y (List.mem_of_getElem? hy)
        rw [truthP_append, if_pos hp.symm, this.1]
        exact ⟨rfl, this.2⟩
      · rw [if_neg hik]
        have hne : ¬ x.p = s.l[i].p := by
          intro e
          have hk := (List.getElem?_eq_some_iff.1 hy).1
          have e2 : (pxs s.l)[k]'(by simpa [pxs] using hk) = (pxs s.l)[i]'(by simpa [pxs] using hi) := by
            simp only [pxs, List.getElem_map]
            rw [← e, (List.getElem?_eq_some_iff.1 hy).2, hp]
          exact hik ((List.getElem_inj h4).1 e2)
        rw [truthP_append, if_neg hne]
        exact h2 _ (List.getElem_mem hi)
    · rw [hpx] at hp2
      rw [truthP_append, if_neg (by rintro rfl; exact hp2 hm)]
      exact h3 p hp2
  · have he := skAdd_new x.n hm (by omega)
    have hpx : pxs (skAdd s x.p x.n).l = pxs s.l ++ [x.p] := by rw [he]; simp [pxs]
    refine ⟨by rw [he]; simp; omega, fun z hz => ?_, fun p hp2 => ?_, ?_⟩
    · rw [he] at hz
      rcases List.mem_append.1 hz with hz | hz
      · have hne : ¬ x.p = z.p := fun e => hm (by rw [e]; exact List.mem_map.2 ⟨z, hz, rfl⟩)
        rw [truthP_append, if_neg hne]
        exact h2 z hz
      · simp at hz
        rw [hz]
        show truthP (L ++ [x]) x.p = plus (cnt 0) x.n ∧ (0 : Int) = 0
        rw [truthP_append, if_pos rfl, h3 x.p hm]
        exact ⟨rfl, rfl⟩
    · rw [hpx] at hp2
      simp at hp2
      rw [truthP_append, if_neg (fun e => hp2.2 e.symm)]
      exact h3 p hp2.1
    · rw [hpx]
      refine List.nodup_append.2 ⟨h4, by simp, fun a ha b hb => ?_⟩
      simp at hb
      rw [hb]
      rintro rfl
      exact hm ha
theorem exact_law (R : Nat) (L : List Sn) (h : L.length ≤ R) : Ex (skRun (skNew R) L) L := by
  revert h
  refine rev_ind (M := fun L => L.length ≤ R → Ex (skRun (skNew R) L) L) (fun _ => ⟨Nat.le_refl _, fun x hx => by simp [skRun, skNew] at hx, fun p _ => rfl, by simp [skRun, skNew, pxs]⟩) (fun L x ih h => ?_) L
  rw [List.length_append] at h
  simp at h
  rw [skRun_append]
  exact (ih (by omega)).step x (by rw [skRun_room]; exact h)

/-- All counts. -/
def sumC (l : List Slo) : Int := (l.map (·.c)).sum
theorem sumC_append (l m : List Slo) : sumC (l ++ m) = sumC l + sumC m := by simp [sumC]
theorem sumC_set : ∀ {l : List Slo} {k : Nat} {y : Slo} (z : Slo), l[k]? = some y → sumC (l.set k z) = sumC l - y.c + z.c
  | x :: l, 0, y, z, h => by
    simp at h
    subst h
    simp [sumC]
    omega
  | x :: l, k + 1, y, z, h => by
    have := sumC_set (l := l) (k := k) z (by simpa using h)
    simp [sumC] at this ⊢
    omega
theorem sumC_ge : ∀ {l : List Slo}, (∀ x ∈ l, okSlo x) → ∀ x ∈ l, x.c ≤ sumC l ∧ 0 ≤ sumC l
  | y :: l, h, x, hx => by
    have h0 : 0 ≤ sumC l := by
      cases l with
      | nil => simp [sumC]
      | cons z l => exact (sumC_ge (l := z :: l) (fun a ha => h a (by simp [ha])) z (by simp)).2
    have hy := (h y (by simp)).2.1.1
    have e : sumC (y :: l) = y.c + sumC l := by simp [sumC]
    rcases List.mem_cons.1 hx with rfl | hx
    · omega
    · have := sumC_ge (l := l) (fun a ha => h a (by simp [ha])) x hx
      omega
theorem sumC_least : ∀ {l : List Slo} {m : Int}, (∀ x ∈ l, m ≤ x.c) → m * (l.length : Int) ≤ sumC l
  | [], m, h => by simp [sumC]
  | y :: l, m, h => by
    have h1 := h y (by simp)
    have h2 := sumC_least (l := l) (fun x hx => h x (by simp [hx]))
    have e : sumC (y :: l) = y.c + sumC l := by simp [sumC]
    have e2 : m * ((y :: l).length : Int) = m * (l.length : Int) + m := by
      rw [List.length_cons]
      push_cast
      rw [Int.mul_add, Int.mul_one]
    omega
/-- The least count, 2^60 at most. -/
def minC (l : List Slo) : Int := l.foldl (fun a x => if a ≤ x.c then a else x.c) 1152921504606846976
theorem minC_step {l : List Slo} {k : Nat} {x : Slo} (h : l[k]? = some x) : minC (l.take (k + 1)) = if minC (l.take k) ≤ x.c then minC (l.take k) else x.c := by
  rw [take_snoc h]
  unfold minC
  rw [List.foldl_append]
  rfl
theorem minC_le (l : List Slo) : minC l ≤ 1152921504606846976 ∧ ∀ x ∈ l, minC l ≤ x.c := by
  refine rev_ind (M := fun l => minC l ≤ 1152921504606846976 ∧ ∀ x ∈ l, minC l ≤ x.c) ⟨Int.le_refl _, fun x hx => by cases hx⟩ (fun l y ih => ?_) l
  have e : minC (l ++ [y]) = if minC l ≤ y.c then minC l else y.c := by unfold minC; rw [List.foldl_append]; rfl
  rw [e]
  refine ⟨by split <;> omega, fun x hx => ?_⟩
  rcases List.mem_append.1 hx with h | h
  · have := ih.2 x h
    split <;> omega
  · simp at h
    subst h
    split <;> omega
theorem minC_pos {l : List Slo} (h : ∀ x ∈ l, okSlo x) : 0 ≤ minC l := by
  revert h
  refine rev_ind (M := fun l => (∀ x ∈ l, okSlo x) → 0 ≤ minC l) (fun _ => by decide) (fun l y ih h => ?_) l
  have e : minC (l ++ [y]) = if minC l ≤ y.c then minC l else y.c := by unfold minC; rw [List.foldl_append]; rfl
  have h1 := ih (fun x hx => h x (by simp [hx]))
  have h2 := (h y (by simp)).2.1.1
  rw [e]
  split <;> omega
theorem sumC_step {l : List Slo} {k : Nat} {x : Slo} (h : l[k]? = some x) : sumC (l.take (k + 1)) = sumC (l.take k) + x.c := by
  rw [take_snoc h, sumC_append]
  simp [sumC]
theorem sumC_nonneg {l : List Slo} (h : ∀ x ∈ l, okSlo x) : 0 ≤ sumC l := by
  cases l with
  | nil => simp [sumC]
  | cons y l => exact (sumC_ge h y (by simp)).2
theorem sumC_take {l : List Slo} (h : ∀ x ∈ l, okSlo x) (k : Nat) : 0 ≤ sumC (l.take k) ∧ sumC (l.take k) ≤ sumC l := by
  have e : sumC l = sumC (l.take k) + sumC (l.drop k) := by rw [← sumC_append, List.take_append_drop]
  have h1 := sumC_nonneg (l := l.take k) (fun x hx => h x (List.mem_of_mem_take hx))
  have h2 := sumC_nonneg (l := l.drop k) (fun x hx => h x (List.mem_of_mem_drop hx))
  omega
theorem plus_in {a b : Int} (ha : 0 ≤ a) (hb : 0 ≤ b) (h : a + b ≤ 4611686018427387904) : plus (cnt a) b = a + b := by
  rw [cnt_id a ha (by omega)]
  unfold plus
  rw [cnt_id b hb (by omega), if_neg (by omega)]
/-- The sum of what was sent. -/
def sentN (L : List Sn) : Int := (L.map (·.n)).sum
theorem sentN_append (L : List Sn) (x : Sn) : sentN (L ++ [x]) = sentN L + x.n := by simp [sentN]
theorem sentN_step {L : List Sn} {k : Nat} {x : Sn} (h : L[k]? = some x) : sentN (L.take (k + 1)) = sentN (L.take k) + x.n := by rw [take_snoc h, sentN_append]
theorem sentN_range : ∀ {L : List Sn} {M : Int}, (∀ x ∈ L, 0 ≤ x.n ∧ x.n ≤ M) → 0 ≤ sentN L ∧ sentN L ≤ (L.length : Int) * M
  | [], M, h => by simp [sentN]
  | y :: L, M, h => by
    have h1 := h y (by simp)
    have h2 := sentN_range (L := L) (fun x hx => h x (by simp [hx]))
    have e : sentN (y :: L) = y.n + sentN L := by simp [sentN]
    have e2 : ((y :: L).length : Int) * M = (L.length : Int) * M + M := by
      rw [List.length_cons]
      push_cast
      rw [Int.add_mul, Int.one_mul]
    omega
/-- All counts together are the total, and that is what was sent. -/
theorem sums_law (R : Nat) (hR : 1 ≤ R ∧ R ≤ 64) (L : List Sn) (hL : ∀ x ∈ L, okPx x.p ∧ 0 ≤ x.n ∧ x.n ≤ 4294967296) (hlen : L.length ≤ 120) :
    sumC (skRun (skNew R) L).l = sentN L ∧ (skRun (skNew R) L).total = sentN L := by
  revert hL hlen
  refine rev_ind (M := fun L => (∀ x ∈ L, okPx x.p ∧ 0 ≤ x.n ∧ x.n ≤ 4294967296) → L.length ≤ 120 → sumC (skRun (skNew R) L).l = sentN L ∧ (skRun (skNew R) L).total = sentN L) (fun _ _ => ⟨rfl, rfl⟩) (fun L x ih hL hlen => ?_) L
  have hLx := hL x (by simp)
  have hL' : ∀ y ∈ L, okPx y.p ∧ 0 ≤ y.n ∧ y.n ≤ 4294967296 := fun y hy => hL y (by simp [hy])
  simp at hlen
  obtain ⟨h1, h2⟩ := ih hL' (by omega)
  have hok : okSk (skRun (skNew R) L) := skRun_ok (skNew_ok hR) (fun y hy => (hL' y hy).1)
  have hs := sentN_range (L := L) (M := 4294967296) (fun y hy => (hL' y hy).2)
  rw [skRun_append, sentN_append]
  generalize skRun (skNew R) L = s at *
  refine ⟨?_, ?_⟩
  · by_cases hm : x.p ∈ pxs s.l
    · obtain ⟨k, y, hy, hp, he⟩ := skAdd_found x.n hm
      have hyb := sumC_ge hok.2.2.1 y (List.mem_of_getElem? hy)
      have hy0 := (hok.2.2.1 y (List.mem_of_getElem? hy)).2.1.1
      rw [he, sumC_set _ hy]
      show sumC s.l - y.c + plus (cnt y.c) x.n = _
      rw [plus_in hy0 hLx.2.1 (by omega)]
      omega
    · by_cases hr : s.l.length < s.room
      · rw [skAdd_new x.n hm hr, sumC_append, plus_in (by omega) hLx.2.1 (by omega)]
        simp [sumC] at h1 ⊢
        omega
      · obtain ⟨k, y, hy, hmin, he⟩ := skAdd_out x.n hok hm hr
        have hyb := sumC_ge hok.2.2.1 y (List.mem_of_getElem? hy)
        have hy0 := (hok.2.2.1 y (List.mem_of_getElem? hy)).2.1.1
        rw [he, sumC_set _ hy]
        show sumC s.l - y.c + plus (cnt y.c) x.n = _
        rw [plus_in hy0 hLx.2.1 (by omega)]
        omega
  · show plus (cnt s.total) x.n = _
    rw [h2, plus_in (by omega) hLx.2.1 (by omega)]
end Go.Proofs.Ytdmfmanmhlnleaa
