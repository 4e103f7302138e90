/- Rows of the call's own; what an act leaves of each bin. -/
import Derived.Test.YtcgabjjdffcjbaaBlueH
namespace Go.Proofs.Ytcgabjjdffcjbaa
open Go.RowKit
set_option linter.unusedVariables false
set_option linter.unusedSimpArgs false

theorem own_RdB {w : World} {base : Nat} {e : TypeId} {sz : Nat} {v : Value} {n : Nat} {vs : List Value} (h : w.ownsRow base e sz v n vs) :
    ∃ A c, v = .slice A n c ∧ Rd w A vs ∧ ∀ ad, A = some ad → base ≤ ad.block := by
  obtain ⟨A, c, rfl, hr⟩ := own_Rd h
  refine ⟨A, c, rfl, hr, fun ad e => ?_⟩
  subst e
  exact (h.lt ad.block rfl).1
theorem Rd.alloc {w : World} {A : Option Addr} {vs : List Value} (h : Rd w A vs) (o : Obj) : Rd (w.alloc o) A vs := h.below (bl_alloc (Below.refl _ _) o)
/-- The cells of a new block, as they are read. -/
theorem Rd.new (w : World) (vs : List Value) (t : TypeId) : Rd (w.alloc (.cells vs.toArray t)) (some ⟨w.heap.size, 0, none⟩) vs := by
  intro j v hj
  refine ⟨_, rfl, ?_⟩
  have hb : (⟨w.heap.size, 0, none⟩ : Addr).add j = ⟨w.heap.size, j, none⟩ := by
    unfold Addr.add
    split
    · next h => rw [h]
    · simp
  rw [hb, new_cell]
  simpa using hj

/-- An act leaves of each bin the bytes, or the probability. -/
def keepR (tf : Bool) (l l' : List Bn) : Prop := l'.length = l.length ∧ (∀ b ∈ l', okBn b) ∧ ∀ (i : Nat) (b : Bn), l[i]? = some b → ∃ b' : Bn, l'[i]? = some b' ∧ (tf = true → b.n = b'.n) ∧ (tf = false → b.p = b'.p)
theorem keep_refl (tf : Bool) (l : List Bn) (hok : ∀ b ∈ l, okBn b) : keepR tf l l := ⟨rfl, hok, fun i b h => ⟨b, h, fun _ => rfl, fun _ => rfl⟩⟩
theorem keep_if {tf : Bool} {l m : List Bn} (cc : Bool) (h : keepR tf l m) (h0 : keepR tf l l) : keepR tf l (if cc = true then m else l) := by
  cases cc
  · exact h0
  · exact h
theorem keep_put (v : Int) (nb : Nat) (ks : List Int) (l : List Bn) (j : Nat) (cc : Bool) (hok : ∀ b ∈ l, okBn b) : keepR false l (if cc = true then updN (putF v) nb ks j l else l) :=
  keep_if cc ⟨updN_length _ nb ks j l, ok_updN (ok_put v) nb ks j l hok, fun i b h => let ⟨b', h1, h2⟩ := put_keeps v nb ks l j i b h; ⟨b', h1, fun e => (by cases e), fun _ => h2⟩⟩ (keep_refl _ l hok)
theorem keep_take (v : Int) (nb : Nat) (ks : List Int) (l : List Bn) (j : Nat) (cc : Bool) (hok : ∀ b ∈ l, okBn b) : keepR false l (if cc = true then updN (takeF v) nb ks j l else l) :=
  keep_if cc ⟨updN_length _ nb ks j l, ok_updN (ok_take v) nb ks j l hok, fun i b h => let ⟨b', h1, h2⟩ := take_keeps v nb ks l j i b h; ⟨b', h1, fun e => (by cases e), fun _ => h2⟩⟩ (keep_refl _ l hok)
theorem keep_touch (now target hold up down : Int) (o9 : 0 ≤ up) (o11 : 0 ≤ down) (nb : Nat) (ks : List Int) (l : List Bn) (j : Nat) (cc : Bool) (hok : ∀ b ∈ l, okBn b) : keepR true l (if cc = true then updN (touchF now target hold up down) nb ks j l else l) :=
  keep_if cc ⟨updN_length _ nb ks j l, ok_updN (ok_touch now target hold up down o9 o11) nb ks j l hok, fun i b h => let ⟨b', h1, h2⟩ := touch_keeps now target hold up down nb ks l j i b h; ⟨b', h1, fun _ => h2, fun e => (by cases e)⟩⟩ (keep_refl _ l hok)

/-- What a round of the comparison reads. -/
theorem still_at {w : World} {A : Option Addr} {l l' : List Bn} {tf : Bool} (hk : keepR tf l l') (hr : Rd w A (vals (wasL l))) (M : Nat) (hM : M < l.length) :
    ∃ b' ad, l'[M]? = some b' ∧ (0 ≤ b'.p ∧ b'.p ≤ 65536) ∧ A = some ad ∧ (tf = true → w.cell? (ad.add (2 * M)) = some (.int .i64 b'.n)) ∧ (tf = false → w.cell? (ad.add (2 * M + 1)) = some (.int .i64 b'.p)) := by
  have hb : l[M]? = some l[M] := List.getElem?_eq_getElem hM
  obtain ⟨b', h1, h2, h3⟩ := hk.2.2 M _ hb
  obtain ⟨e1, e2⟩ := wasL_at l M _ hb
  obtain ⟨ad, rfl, c1⟩ := hr (2 * M) _ (vals_at _ _ (by rw [wasL_length]; omega))
  obtain ⟨ad', e', c2⟩ := hr (2 * M + 1) _ (vals_at _ _ (by rw [wasL_length]; omega))
  cases e'
  refine ⟨b', ad, h1, (hk.2.1 b' (List.mem_of_getElem? h1)).2.2, rfl, fun e => ?_, fun e => ?_⟩
  · rw [c1, e1, h2 e]
  · rw [c2, e2, h3 e]
theorem bin_at {l : List Bn} {N nl nb j i : Nat} (hl : l.length = N) (hN : N = nl * nb) (hj : j < nl) (hi : i < nb) : ∃ b, l[j * nb + i]? = some b ∧ j * nb + i < l.length := by
  have h1 : (j + 1) * nb ≤ nl * nb := Nat.mul_le_mul_right nb hj
  rw [Nat.succ_mul] at h1
  have : j * nb + i < l.length := by omega
  exact ⟨_, List.getElem?_eq_getElem this, this⟩
theorem was_append (l : List Bn) (M : Nat) (b : Bn) (h : l[M]? = some b) : vals (wasL (l.take M)) ++ [.int .i64 b.n, .int .i64 b.p] = vals (wasL (l.take (M + 1))) := by
  rw [wasL_step l M b h]
  simp [vals]
end Go.Proofs.Ytcgabjjdffcjbaa
