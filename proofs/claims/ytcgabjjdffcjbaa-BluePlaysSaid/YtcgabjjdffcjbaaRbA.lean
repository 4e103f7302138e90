/- The document's Blue: levels of bins, each a row of its own. -/
import Derived.Test.YtcgabjjdffcjbaaRow
import Derived.Test.YtcgabjjdffcjbaaBlueB
namespace Go.Proofs.Ytcgabjjdffcjbaa
open Go.RowKit
set_option linter.unusedVariables false
set_option linter.unusedSimpArgs false

def bnC (b : Bn) : List Value := [.int .i64 b.n, .int .i64 b.c, .int .i64 b.p]
theorem bnC_len (l : List Bn) : ∀ x ∈ l, (bnC x).length = 3 := fun _ _ => rfl
def rbC (A : Option Addr) (n c : Nat) (target hold up down : Int) : Array Value := #[.slice A n c, .int .i64 target, .int .i64 hold, .int .i64 up, .int .i64 down]
theorem SlR.bn {w : World} {A : Option Addr} {n cp : Nat} {l : List Bn} (h : SlR bnC w A n cp l) {j : Nat} {x : Bn} (hj : l[j]? = some x) : ∃ b o, A = some ⟨b, o, none⟩ ∧ w.cell? ⟨b, o + j * 3, none⟩ = some (.int .i64 x.n) ∧ w.cell? ⟨b, o + j * 3 + 1, none⟩ = some (.int .i64 x.c) ∧ w.cell? ⟨b, o + j * 3 + 2, none⟩ = some (.int .i64 x.p) := by
  obtain ⟨b, o, rfl, hc⟩ := h.cells (bnC_len l) hj (by omega)
  exact ⟨b, o, rfl, hc 0 _ rfl, hc 1 _ rfl, hc 2 _ rfl⟩

/-- A row of bins in a block of its own. -/
def OwnB (lo : Nat) (w : World) (a : Option Addr) (m d : Nat) (l : List Bn) : Prop := SlR bnC w a m d l ∧ ∀ ad, a = some ad → lo ≤ ad.block ∧ ∃ cs : Array Value, Obj1 w ad.block cs 87
theorem OwnB.below {lo : Nat} {w W : World} {a : Option Addr} {m d : Nat} {l : List Bn} (h : OwnB lo w a m d l) (hb : Below w.heap.size w W) : OwnB lo W a m d l :=
  ⟨h.1.below hb, fun ad e => let ⟨h1, cs, h2⟩ := h.2 ad e; ⟨h1, cs, h2.below hb⟩⟩
theorem OwnB.grown {lo : Nat} {w W : World} {a : Option Addr} {m d : Nat} {l : List Bn} {row : Option Nat} (h : OwnB lo w a m d l) (hg : w.grownBy W row) (hne : ∀ b cs, lo ≤ b → Obj1 w b cs 87 → some b ≠ row) : OwnB lo W a m d l :=
  ⟨⟨h.1.1, h.1.2.1, h.1.2.2.1, h.1.2.2.2.1, h.1.2.2.2.2.grown hg (fun ad e => let ⟨h1, cs, h2⟩ := h.2 ad e; hne _ cs h1 h2)⟩, fun ad e => let ⟨h1, cs, h2⟩ := h.2 ad e; ⟨h1, cs, h2.of_grown hg (hne _ cs h1 h2)⟩⟩
/-- Slices as values, each of a row of bins. -/
def RowsB (lo : Nat) (w : World) (xs : List Value) (ls : List (List Bn)) : Prop := xs.length = ls.length ∧ ∀ (j : Nat) (l : List Bn), ls[j]? = some l → ∃ a m d, xs[j]? = some (.slice a m d) ∧ OwnB lo w a m d l
theorem RowsB.nil (lo : Nat) (w : World) : RowsB lo w [] [] := ⟨rfl, fun j l h => by simp at h⟩
theorem RowsB.below {lo : Nat} {w W : World} {xs : List Value} {ls : List (List Bn)} (h : RowsB lo w xs ls) (hb : Below w.heap.size w W) : RowsB lo W xs ls :=
  ⟨h.1, fun j l hj => let ⟨a, m, d, h1, h2⟩ := h.2 j l hj; ⟨a, m, d, h1, h2.below hb⟩⟩
theorem RowsB.grown {lo : Nat} {w W : World} {xs : List Value} {ls : List (List Bn)} {row : Option Nat} (h : RowsB lo w xs ls) (hg : w.grownBy W row) (hne : ∀ b cs, lo ≤ b → Obj1 w b cs 87 → some b ≠ row) : RowsB lo W xs ls :=
  ⟨h.1, fun j l hj => let ⟨a, m, d, h1, h2⟩ := h.2 j l hj; ⟨a, m, d, h1, h2.grown hg hne⟩⟩
theorem RowsB.snoc {lo : Nat} {w : World} {xs : List Value} {ls : List (List Bn)} (h : RowsB lo w xs ls) {a : Option Addr} {m d : Nat} {l : List Bn} (hl : OwnB lo w a m d l) : RowsB lo w (xs ++ [.slice a m d]) (ls ++ [l]) := by
  refine ⟨by simp [h.1], fun j x hj => ?_⟩
  rcases Nat.lt_or_ge j ls.length with hlt | hge
  · rw [List.getElem?_append_left hlt] at hj
    obtain ⟨a', m', d', h1, h2⟩ := h.2 j x hj
    exact ⟨a', m', d', by rw [List.getElem?_append_left (by rw [h.1]; exact hlt)]; exact h1, h2⟩
  · rw [List.getElem?_append_right hge] at hj
    have hj0 : j = ls.length := by
      have := (List.getElem?_eq_some_iff.1 hj).1
      simp at this
      omega
    subst hj0
    simp at hj
    subst hj
    exact ⟨a, m, d, by rw [← h.1]; simp, hl⟩
theorem RowsB.one {lo : Nat} {w : World} {xs : List Value} {ls : List (List Bn)} (h : RowsB lo w xs ls) : ∀ v ∈ xs, v.oneCell' = true := by
  intro v hv
  obtain ⟨j, hj⟩ := List.getElem?_of_mem hv
  have hlt : j < ls.length := by rw [← h.1]; exact (List.getElem?_eq_some_iff.1 hj).1
  obtain ⟨a, m, d, h1, _⟩ := h.2 j _ (List.getElem?_eq_getElem hlt)
  rw [h1] at hj
  cases hj
  rfl

/-- A slice of slices of bins that is read; all of it lies at lo or above. -/
def SlB (lo : Nat) (w : World) (A : Option Addr) (n c : Nat) (ls : List (List Bn)) : Prop := ∃ xs : List Value, xs.length = n ∧ n ≤ c ∧ c ≤ 9223372036854775807 ∧ (∀ ad, A = some ad → ad.spot = none ∧ lo ≤ ad.block) ∧ Rd w A xs ∧ RowsB lo w xs ls
theorem SlB.len {lo : Nat} {w : World} {A : Option Addr} {n c : Nat} {ls : List (List Bn)} (h : SlB lo w A n c ls) : ls.length = n := by
  obtain ⟨xs, h1, _, _, _, _, h2⟩ := h
  rw [← h2.1, h1]
theorem SlB.below {lo : Nat} {w W : World} {A : Option Addr} {n c : Nat} {ls : List (List Bn)} (h : SlB lo w A n c ls) (hb : Below w.heap.size w W) : SlB lo W A n c ls := by
  obtain ⟨xs, h1, h2, h3, h4, h5, h6⟩ := h
  exact ⟨xs, h1, h2, h3, h4, h5.below hb, h6.below hb⟩
theorem SlB.upd {lo D : Nat} {w W : World} {A : Option Addr} {n c : Nat} {ls : List (List Bn)} (h : SlB lo w A n c ls) (hu : Upd D w W) (hD : D < lo) : SlB lo W A n c ls := by
  obtain ⟨xs, h1, h2, h3, h4, h5, h6⟩ := h
  exact ⟨xs, h1, h2, h3, h4, h5.upd hu (fun ad e => by have := (h4 ad e).2; omega), h6.grown hu (fun b cs hb _ e => by cases e; omega)⟩
theorem SlB.mono {lo lo' : Nat} {w : World} {A : Option Addr} {n c : Nat} {ls : List (List Bn)} (h : SlB lo w A n c ls) (hl : lo' ≤ lo) : SlB lo' w A n c ls := by
  obtain ⟨xs, h1, h2, h3, h4, h5, h6, h7⟩ := h
  refine ⟨xs, h1, h2, h3, fun ad e => ⟨(h4 ad e).1, Nat.le_trans hl (h4 ad e).2⟩, h5, h6, fun j l hj => ?_⟩
  obtain ⟨a, m, d, h8, h9⟩ := h7 j l hj
  exact ⟨a, m, d, h8, h9.1, fun ad e => ⟨Nat.le_trans hl (h9.2 ad e).1, (h9.2 ad e).2⟩⟩
theorem SlB.at {lo : Nat} {w : World} {A : Option Addr} {n c : Nat} {ls : List (List Bn)} (h : SlB lo w A n c ls) {j : Nat} {l : List Bn} (hj : ls[j]? = some l) : ∃ b o a m d, A = some ⟨b, o, none⟩ ∧ w.cell? ⟨b, o + j, none⟩ = some (.slice a m d) ∧ SlR bnC w a m d l := by
  obtain ⟨xs, h1, h2, h3, h4, h5, h6⟩ := h
  obtain ⟨a, m, d, hx, hs⟩ := h6.2 j l hj
  obtain ⟨ad, rfl, hc⟩ := h5 j _ hx
  have hs0 := (h4 ad rfl).1
  obtain ⟨b, o, sp⟩ := ad
  simp at hs0
  subst hs0
  refine ⟨b, o, a, m, d, rfl, ?_, hs.1⟩
  rwa [add_flat] at hc
theorem SlB.of_own {lo : Nat} {w : World} {e : TypeId} {v : Value} {n : Nat} {xs : List Value} {ls : List (List Bn)} (h : w.ownsRow lo e 1 v n xs) (hr : RowsB lo w xs ls) : ∃ A c, v = .slice A n c ∧ SlB lo w A n c ls := by
  have hn : xs.length = n := by simpa using h.1
  obtain ⟨A, c, hv, hrd⟩ := own_Rd h
  subst hv
  refine ⟨A, c, rfl, xs, hn, ?_⟩
  rcases own_room h with ⟨h0, e, _⟩ | ⟨g, cap, e, hg, hm, hr2⟩
  · cases e
    exact ⟨by omega, by omega, (fun _ h => by cases h), hrd, hr⟩
  · cases e
    exact ⟨hr2.2.1, hm, (fun _ h => by cases h; exact ⟨rfl, hg⟩), hrd, hr⟩
theorem OwnB.of_own {lo : Nat} {w : World} {v : Value} {n : Nat} {l : List Bn} (h : w.ownsRow lo 87 3 v n (fl bnC l)) (hl : l.length = n) : ∃ A c, v = .slice A n c ∧ OwnB lo w A n c l := by
  obtain ⟨A, c, hv, hs, hb⟩ := SlR.of_ownB h hl
  exact ⟨A, c, hv, hs, hb⟩
section
variable {P : Program} {o : Oper} {a : Act} {Q : Exit → Act → World → Prop} {w : World}
theorem wp_rowAt {K : Act → World → Prop} (ty : TypeId) (x y : Operand) (ho : o.op = .store ty x y) (g n cap sz i : Nat) (xs : List Value) (t : TypeId) (h : RoomO w g n cap sz xs t) (cs : List Value) (hi : i + cs.length ≤ n * sz)
    (hx : a.eval x = .pointer (some ⟨g, i, none⟩)) (hy : a.eval y = .agg cs.toArray) (hs : (P.info? ty).map (·.size) = some cs.toArray.size) (h1 : ∀ v ∈ cs, v.oneCell' = true)
    (hK : ∀ w5, RoomO w5 g n cap sz (xs.take i ++ (cs ++ xs.drop (i + cs.length))) t → Upd g w w5 → K (a.put o.dst undef) w5) : o.wp P a w K Q := by
  refine wp_store_mid ty x y ho g i cs.toArray hx hy ?_ hs (all_oneCell_toArray h1) ?_
  · have : cs.toArray.size = cs.length := by simp
    rw [this]
    exact h.thereAt hi
  · obtain ⟨h2, h3⟩ := h.midAt hi
    exact hK _ h2 h3
end

/-- The j-th bin of a flow. -/
def binAt (ls : List (List Bn)) (ks : List Int) (j : Nat) : Bn := ((ls[j]?.getD [])[(nth ks j).toNat]?).getD ⟨0, 0, 0⟩
def ofN (ls : List (List Bn)) (ks : List Int) : Nat → List Bn
  | 0 => []
  | j + 1 => ofN ls ks j ++ [binAt ls ks j]
theorem ofN_length (ls : List (List Bn)) (ks : List Int) : ∀ j, (ofN ls ks j).length = j
  | 0 => rfl
  | j + 1 => by simp [ofN, ofN_length ls ks j]
theorem ofN_at (ls : List (List Bn)) (ks : List Int) : ∀ (n j : Nat), j < n → (ofN ls ks n)[j]? = some (binAt ls ks j)
  | 0, j, h => by omega
  | n + 1, j, h => by
    rcases Nat.lt_or_ge j n with hlt | hge
    · rw [ofN, List.getElem?_append_left (by rw [ofN_length]; exact hlt)]
      exact ofN_at ls ks n j hlt
    · obtain rfl : j = n := by omega
      rw [ofN, List.getElem?_append_right (by rw [ofN_length]; exact Nat.le_refl _), ofN_length]
      simp
/-- The rows with other bins of a flow, the first j of them. -/
def changeN (ls : List (List Bn)) (ks : List Int) (tb : List Bn) : Nat → List (List Bn)
  | 0 => []
  | j + 1 => changeN ls ks tb j ++ [(ls[j]?.getD []).set (nth ks j).toNat (tb[j]?.getD ⟨0, 0, 0⟩)]
theorem changeN_length (ls : List (List Bn)) (ks : List Int) (tb : List Bn) : ∀ j, (changeN ls ks tb j).length = j
  | 0 => rfl
  | j + 1 => by simp [changeN, changeN_length ls ks tb j]
theorem changeN_rows (ls : List (List Bn)) (ks : List Int) (tb : List Bn) (nb : Nat) (h : ∀ l ∈ ls, l.length = nb) : ∀ j, j ≤ ls.length → ∀ l ∈ changeN ls ks tb j, l.length = nb
  | 0, _, l, hl => by simp [changeN] at hl
  | j + 1, hj, l, hl => by
    simp only [changeN, List.mem_append, List.mem_singleton] at hl
    rcases hl with hl | rfl
    · exact changeN_rows ls ks tb nb h j (by omega) l hl
    · rw [List.length_set, List.getElem?_eq_getElem (by omega)]
      exact h _ (List.getElem_mem _)
theorem flat_len {ls : List (List Bn)} {nb : Nat} (h : ∀ l ∈ ls, l.length = nb) : ls.flatten.length = ls.length * nb := by
  induction ls with
  | nil => simp
  | cons l ls ih =>
    rw [List.flatten_cons, List.length_append, h l (by simp), ih (fun x hx => h x (by simp [hx])), List.length_cons, Nat.add_mul]
    omega
theorem flat_at {nb : Nat} : ∀ {ls : List (List Bn)} {j i : Nat}, (∀ l ∈ ls, l.length = nb) → i < nb → ls.flatten[j * nb + i]? = (ls[j]?.getD [])[i]?
  | [], j, i, _, _ => by simp
  | l :: ls, 0, i, h, hi => by
    rw [List.flatten_cons, Nat.zero_mul, Nat.zero_add, List.getElem?_append_left (by rw [h l (by simp)]; exact hi)]
    rfl
  | l :: ls, j + 1, i, h, hi => by
    have hl := h l (by simp)
    rw [List.flatten_cons, List.getElem?_append_right (by rw [hl, Nat.add_mul]; omega), hl, show (j + 1) * nb + i - nb = j * nb + i by rw [Nat.add_mul]; omega, flat_at (fun x hx => h x (by simp [hx])) hi]
    simp
/-- What the program does with each of a flow's bins, the document does row by row. -/
theorem upd_change (f : Bn → Bn) (ls : List (List Bn)) (ks : List Int) (nb : Nat) (h : ∀ l ∈ ls, l.length = nb) (tb : List Bn) (hto : ∀ j, j < ls.length → tb[j]? = some (f (binAt ls ks j))) (hk : ∀ j, j < ls.length → (nth ks j).toNat < nb) :
    ∀ j, j ≤ ls.length → updN f nb ks j ls.flatten = (changeN ls ks tb j ++ ls.drop j).flatten
  | 0, _ => by simp [updN, changeN]
  | j + 1, hj => by
    have hjl : j < ls.length := by omega
    rw [updN, upd_change f ls ks nb h tb hto hk j (by omega), changeN, List.flatten_append, List.drop_eq_getElem_cons hjl, List.flatten_cons]
    have hlen : (changeN ls ks tb j).flatten.length = j * nb := by
      rw [flat_len (changeN_rows ls ks tb nb h j (by omega)), changeN_length]
    have hrow : (ls[j]'hjl).length = nb := h _ (List.getElem_mem _)
    have hb : ls[j]? = some (ls[j]'hjl) := List.getElem?_eq_getElem hjl
    have hkj := hk j hjl
    have hbin : (ls[j]'hjl)[(nth ks j).toNat]? = some (binAt ls ks j) := by
      unfold binAt
      rw [hb]
      simp only [Option.getD_some]
      rw [List.getElem?_eq_getElem (by rw [hrow]; exact hkj)]
      rfl
    rw [hto j hjl, hb]
    simp only [Option.getD_some]
    have hm : ((ls[j]'hjl) ++ (ls.drop (j + 1)).flatten).modify (nth ks j).toNat f = (ls[j]'hjl).set (nth ks j).toNat (f (binAt ls ks j)) ++ (ls.drop (j + 1)).flatten := by
      rw [modify_at f (by rw [List.getElem?_append_left (by rw [hrow]; exact hkj)]; exact hbin), List.set_append_left _ _ (by rw [hrow]; exact hkj)]
    rw [List.append_assoc, List.flatten_append, List.flatten_append, List.flatten_cons, List.flatten_nil, List.append_nil, ← hm]
    have hmod : ∀ (a b : List Bn) (i : Nat), (a ++ b).modify (a.length + i) f = a ++ b.modify i f := by
      intro a b i
      apply List.ext_getElem?
      intro q
      rw [List.getElem?_modify]
      rcases Nat.lt_or_ge q a.length with hq | hq
      · rw [List.getElem?_append_left hq, List.getElem?_append_left hq]
        have hn : ¬ a.length + i = q := by omega
        simp [hn]
      · rw [List.getElem?_append_right hq, List.getElem?_append_right hq, List.getElem?_modify]
        by_cases hi : a.length + i = q
        · have hi2 : i = q - a.length := by omega
          simp only [hi, hi2.symm]
        · have hi2 : ¬ i = q - a.length := by omega
          simp only [hi, hi2]
    rw [← hlen, hmod]
theorem upd_change_all (f : Bn → Bn) (ls : List (List Bn)) (ks : List Int) (nb nl : Nat) (hl : ls.length = nl) (h : ∀ l ∈ ls, l.length = nb) (hk : ∀ j, j < nl → 0 ≤ nth ks j ∧ nth ks j < (nb : Int)) :
    updN f nb ks nl ls.flatten = (changeN ls ks ((ofN ls ks nl).map f) nl).flatten := by
  have := upd_change f ls ks nb h ((ofN ls ks nl).map f) (fun j hj => by rw [List.getElem?_map, ofN_at ls ks nl j (by omega)]; rfl) (fun j hj => by have := hk j (by omega); omega) nl (by omega)
  rw [this, List.drop_eq_nil_of_le (by omega), List.append_nil]

/-- Are the first j of them a flow's? -/
def flowsP (nl nb : Nat) (ks : List Int) (n : Nat) : Nat → Bool
  | 0 => decide (n = nl) && decide (0 < n)
  | j + 1 => flowsP nl nb ks n j && decide (j < nl) && decide (0 ≤ nth ks j) && decide (nth ks j < (nb : Int))
theorem flowsP_no (nl nb : Nat) (ks : List Int) (n : Nat) {i : Nat} (h : flowsP nl nb ks n i = false) : ∀ j, i ≤ j → flowsP nl nb ks n j = false
  | 0, hj => by obtain rfl : i = 0 := by omega
                exact h
  | j + 1, hj => by
    rcases Nat.lt_or_ge j i with h1 | h1
    · obtain rfl : i = j + 1 := by omega
      exact h
    · simp [flowsP, flowsP_no nl nb ks n h j h1]
theorem flowsP_yes {nl nb : Nat} {ks : List Int} {n : Nat} : ∀ {j : Nat}, flowsP nl nb ks n j = true → (n = nl ∧ 0 < n) ∧ ∀ i, i < j → 0 ≤ nth ks i ∧ nth ks i < (nb : Int)
  | 0, h => by simp [flowsP] at h; exact ⟨h, fun i hi => by omega⟩
  | j + 1, h => by
    simp [flowsP] at h
    obtain ⟨h1, h2⟩ := flowsP_yes (j := j) h.1.1.1
    refine ⟨h1, fun i hi => ?_⟩
    rcases Nat.lt_or_ge i j with hij | hij
    · exact h2 i hij
    · obtain rfl : i = j := by omega
      exact ⟨h.1.2, h.2⟩
theorem flowsP_all {nl nb : Nat} {ks : List Int} (h0 : 0 < nl) : flowsP nl nb ks ks.length ks.length = flowsB nl nb ks := by
  cases h : flowsP nl nb ks ks.length ks.length with
  | true =>
    obtain ⟨h1, h2⟩ := flowsP_yes h
    exact (flowsB_all h1.1 (fun j hj => h2 j (by omega))).symm
  | false =>
    cases h2 : flowsB nl nb ks with
    | false => rfl
    | true =>
      obtain ⟨h3, h4⟩ := flowsB_at h2
      have : ∀ j, j ≤ nl → flowsP nl nb ks ks.length j = true := by
        intro j
        induction j with
        | zero => intro _; simp [flowsP, h3, h0]
        | succ j ih =>
          intro hj
          have := h4 j (by omega)
          simp [flowsP, ih (by omega), this]
          omega
      rw [h3] at h
      rw [h3] at this
      rw [this nl (Nat.le_refl _)] at h
      cases h
end Go.Proofs.Ytcgabjjdffcjbaa
