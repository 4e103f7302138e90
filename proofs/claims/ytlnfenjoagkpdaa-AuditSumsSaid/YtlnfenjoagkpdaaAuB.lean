/- All classes together were given all. -/
import Derived.Test.YtlnfenjoagkpdaaAuA
namespace Go.Proofs.Ytlnfenjoagkpdaa
open Go.RowKit
set_option linter.unusedVariables false
set_option linter.unusedSimpArgs false

def lenS (l : List Dp) : Int := (l.map (·.ln)).sum
def clS (l : List Dp) (c : Int) : Int := (l.map fun d => if d.cl = c then d.ln else 0).sum
def partS (l : List Dp) (cs : List Int) : Int := (l.map fun d => if d.cl ∈ cs then d.ln else 0).sum
def okLen (l : List Dp) : Prop := ∀ d ∈ l, 0 ≤ d.ln ∧ d.ln ≤ 9216
theorem lenS_bound : ∀ {l : List Dp}, okLen l → 0 ≤ lenS l ∧ lenS l ≤ 9216 * (l.length : Int)
  | [], _ => by simp [lenS]
  | d :: l, h => by
    have h1 := h d (by simp)
    have h2 := lenS_bound (l := l) (fun x hx => h x (by simp [hx]))
    unfold lenS at *
    rw [List.map_cons, List.sum_cons, List.length_cons]
    omega
theorem partS_bound : ∀ {l : List Dp} (cs : List Int), okLen l → 0 ≤ partS l cs ∧ partS l cs ≤ 9216 * (l.length : Int)
  | [], _, _ => by simp [partS]
  | d :: l, cs, h => by
    have h1 := h d (by simp)
    have h2 := partS_bound (l := l) cs (fun x hx => h x (by simp [hx]))
    unfold partS at *
    rw [List.map_cons, List.sum_cons, List.length_cons]
    split <;> omega
theorem partS_nil : ∀ (l : List Dp), partS l [] = 0
  | [] => rfl
  | d :: l => by
    have := partS_nil l
    unfold partS at *
    rw [List.map_cons, List.sum_cons, this]
    simp
theorem partS_new : ∀ (l : List Dp) {cs : List Int} {c : Int}, c ∉ cs → partS l (cs ++ [c]) = partS l cs + clS l c
  | [], _, _, _ => rfl
  | d :: l, cs, c, h => by
    have h2 := partS_new l h
    unfold partS clS at *
    simp only [List.map_cons, List.sum_cons, h2]
    by_cases hc : d.cl = c
    · have h3 : d.cl ∉ cs := by rw [hc]; exact h
      rw [if_pos (by simp [hc]), if_neg h3, if_pos hc]
      omega
    · rw [if_neg hc]
      by_cases h3 : d.cl ∈ cs
      · rw [if_pos (by simp [h3]), if_pos h3]
        omega
      · rw [if_neg (by simp [h3, hc]), if_neg h3]
        omega
theorem partS_old {l : List Dp} {cs : List Int} {c : Int} (h : c ∈ cs) : partS l (cs ++ [c]) = partS l cs := by
  unfold partS
  congr 1
  refine List.map_congr_left (fun d _ => ?_)
  have : d.cl ∈ cs ++ [c] ↔ d.cl ∈ cs := by
    constructor
    · intro hm
      rcases List.mem_append.1 hm with hm | hm
      · exact hm
      · simp at hm; rw [hm]; exact h
    · intro hm
      simp [hm]
  by_cases hm : d.cl ∈ cs
  · rw [if_pos hm, if_pos (this.2 hm)]
  · rw [if_neg hm, if_neg (fun e => hm (this.1 e))]
theorem partS_all {l : List Dp} {cs : List Int} (h : ∀ d ∈ l, d.cl ∈ cs) : partS l cs = lenS l := by
  unfold partS lenS
  congr 1
  exact List.map_congr_left (fun d hd => if_pos (h d hd))
theorem fold_cl (c : Int) : ∀ (l : List Dp) (s : Int), okLen l → 0 ≤ s → s + 9216 * (l.length : Int) ≤ 4611686018427387904 → l.foldl (addS c) s = s + clS l c
  | [], s, _, _, _ => by simp [clS]
  | d :: l, s, h, h0, h1 => by
    have hd := h d (by simp)
    have hl : okLen l := fun x hx => h x (by simp [hx])
    rw [List.length_cons] at h1
    rw [List.foldl_cons]
    have e : addS c s d = s + (if d.cl = c then d.ln else 0) := by
      unfold addS
      split
      · unfold plus
        rw [cnt_id s h0 (by omega), cnt_id d.ln hd.1 (by omega), if_neg (by omega)]
      · omega
    rw [e, fold_cl c l _ hl (by split <;> omega) (by split <;> omega)]
    unfold clS
    rw [List.map_cons, List.sum_cons]
    omega
theorem served_cl {l : List Dp} (h : okLen l) (hn : l.length ≤ 1000) (c : Int) : servedV l c = clS l c := by
  have := fold_cl c l 0 h (Int.le_refl 0) (by omega)
  unfold servedV
  omega
/-- The classes of the first k. -/
def clsT (l : List Dp) (k : Nat) : List Int := (l.take k).map (·.cl)
theorem clsT_step {l : List Dp} {k : Nat} {d : Dp} (h : l[k]? = some d) : clsT l (k + 1) = clsT l k ++ [d.cl] := by
  obtain ⟨hk, rfl⟩ := List.getElem?_eq_some_iff.1 h
  unfold clsT
  rw [List.take_succ_eq_append_getElem hk, List.map_append]
  rfl
/-- What was given to the classes of the first k, as the machine reckons. -/
def byV (l : List Dp) : Nat → Int
  | 0 => 0
  | k + 1 => match l[k]? with
    | some d => if d.cl ∈ clsT l k then byV l k else IntKind.i64.wrap (byV l k + servedV l d.cl)
    | none => byV l k
theorem byV_step {l : List Dp} {k : Nat} {d : Dp} (h : l[k]? = some d) : byV l (k + 1) = if d.cl ∈ clsT l k then byV l k else IntKind.i64.wrap (byV l k + servedV l d.cl) := by
  show (match l[k]? with | some d => _ | none => _) = _
  rw [h]
theorem byV_part {l : List Dp} (h : okLen l) (hn : l.length ≤ 1000) : ∀ k, k ≤ l.length → byV l k = partS l (clsT l k)
  | 0, _ => by
    show 0 = partS l []
    rw [partS_nil]
  | k + 1, hk => by
    obtain ⟨d, hd⟩ : ∃ d, l[k]? = some d := ⟨_, List.getElem?_eq_getElem (by omega)⟩
    have ih := byV_part h hn k (by omega)
    rw [byV_step hd, clsT_step hd, ih]
    by_cases hm : d.cl ∈ clsT l k
    · rw [if_pos hm, partS_old hm]
    · rw [if_neg hm, partS_new l hm, served_cl h hn]
      have h1 := partS_bound (clsT l k ++ [d.cl]) h
      rw [partS_new l hm] at h1
      exact IntWalk.i64_in _ (by omega)
theorem byV_all {l : List Dp} (h : okLen l) (hn : l.length ≤ 1000) : byV l l.length = lenS l := by
  rw [byV_part h hn l.length (Nat.le_refl _)]
  refine partS_all (fun d hd => ?_)
  unfold clsT
  rw [List.take_length]
  exact List.mem_map_of_mem hd
theorem lenS_take {l : List Dp} {k : Nat} {d : Dp} (h : l[k]? = some d) : lenS (l.take (k + 1)) = lenS (l.take k) + d.ln := by
  obtain ⟨hk, rfl⟩ := List.getElem?_eq_some_iff.1 h
  unfold lenS
  rw [List.take_succ_eq_append_getElem hk, List.map_append, List.sum_append]
  simp
theorem served_zero {l : List Dp} {c : Int} (h : ∀ d ∈ l, ¬ d.cl = c) : servedV l c = 0 := by
  unfold servedV
  have : ∀ (l : List Dp) (s : Int), (∀ d ∈ l, ¬ d.cl = c) → l.foldl (addS c) s = s := by
    intro l
    induction l with
    | nil => intro s _; rfl
    | cons d l ih =>
      intro s h
      rw [List.foldl_cons]
      unfold addS
      rw [if_neg (h d (by simp))]
      exact ih s (fun x hx => h x (by simp [hx]))
  exact this l 0 h
/-! ### A sorted list -/
theorem sorted_nodup : ∀ {l : List Int}, l.Pairwise (· ≤ ·) → (∀ k x y, l[k]? = some x → l[k + 1]? = some y → x ≠ y) → l.Nodup
  | [], _, _ => List.nodup_nil
  | [x], _, _ => by simp
  | x :: y :: l, h, h2 => by
    have hp := List.pairwise_cons.1 h
    refine List.nodup_cons.2 ⟨fun hm => ?_, sorted_nodup hp.2 (fun k a b ha hb => h2 (k + 1) a b (by simpa using ha) (by simpa using hb))⟩
    have hxy : x ≠ y := h2 0 x y rfl rfl
    have h1 := hp.1 y (by simp)
    have hp2 := List.pairwise_cons.1 hp.2
    rcases List.mem_cons.1 hm with rfl | hm
    · exact hxy rfl
    · have := hp2.1 x hm
      omega
theorem nodup_next {l : List Int} (h : l.Nodup) {k : Nat} {x y : Int} (hx : l[k]? = some x) (hy : l[k + 1]? = some y) : x ≠ y := by
  rintro rfl
  obtain ⟨h1, e1⟩ := List.getElem?_eq_some_iff.1 hx
  obtain ⟨h2, e2⟩ := List.getElem?_eq_some_iff.1 hy
  have := (List.getElem_inj h).1 (e1.trans e2.symm)
  omega
end Go.Proofs.Ytlnfenjoagkpdaa
