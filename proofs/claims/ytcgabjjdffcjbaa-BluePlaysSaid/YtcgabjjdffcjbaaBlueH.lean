/- What a change of a flow's bins leaves of each bin; the numbers of all bins. -/
import Derived.Test.YtcgabjjdffcjbaaBlueG
namespace Go.Proofs.Ytcgabjjdffcjbaa
open Go.RowKit
set_option linter.unusedVariables false
set_option linter.unusedSimpArgs false

theorem updN_rel (R : Bn → Bn → Prop) (hr : ∀ b, R b b) (ht : ∀ a b c, R a b → R b c → R a c) {f : Bn → Bn} (hf : ∀ b, R b (f b)) (nb : Nat) (ks : List Int) (l : List Bn) :
    ∀ (j i : Nat) (b : Bn), l[i]? = some b → ∃ b', (updN f nb ks j l)[i]? = some b' ∧ R b b'
  | 0, i, b, h => ⟨b, h, hr b⟩
  | j + 1, i, b, h => by
    obtain ⟨b', h1, h2⟩ := updN_rel R hr ht hf nb ks l j i b h
    rw [updN_step, List.getElem?_modify, h1]
    by_cases hx : j * nb + (nth ks j).toNat = i
    · exact ⟨f b', by simp [hx], ht _ _ _ h2 (hf b')⟩
    · exact ⟨b', by simp [hx], h2⟩

theorem touch_n (now target hold up down : Int) (b : Bn) : b.n = (touchF now target hold up down b).n := by
  unfold touchF
  repeat' split
  all_goals rfl

/-- Putting and taking leaves a probability as it is; touching leaves bytes. -/
theorem put_keeps (v : Int) (nb : Nat) (ks : List Int) (l : List Bn) (j i : Nat) (b : Bn) (h : l[i]? = some b) : ∃ b', (updN (putF v) nb ks j l)[i]? = some b' ∧ b.p = b'.p :=
  updN_rel (f := putF v) (fun a b => a.p = b.p) (fun _ => rfl) (fun _ _ _ h k => h.trans k) (fun _ => rfl) nb ks l j i b h
theorem take_keeps (v : Int) (nb : Nat) (ks : List Int) (l : List Bn) (j i : Nat) (b : Bn) (h : l[i]? = some b) : ∃ b', (updN (takeF v) nb ks j l)[i]? = some b' ∧ b.p = b'.p :=
  updN_rel (f := takeF v) (fun a b => a.p = b.p) (fun _ => rfl) (fun _ _ _ h k => h.trans k) (fun _ => rfl) nb ks l j i b h
theorem touch_keeps (now target hold up down : Int) (nb : Nat) (ks : List Int) (l : List Bn) (j i : Nat) (b : Bn) (h : l[i]? = some b) : ∃ b', (updN (touchF now target hold up down) nb ks j l)[i]? = some b' ∧ b.n = b'.n :=
  updN_rel (f := touchF now target hold up down) (fun a b => a.n = b.n) (fun _ => rfl) (fun _ _ _ h k => h.trans k) (fun b => touch_n now target hold up down b) nb ks l j i b h

/-- All bins' bytes and probabilities, one behind the other. -/
def wasL : List Bn → List Int
  | [] => []
  | b :: l => b.n :: b.p :: wasL l
theorem wasL_length : ∀ l : List Bn, (wasL l).length = l.length * 2
  | [] => rfl
  | b :: l => by simp [wasL, wasL_length l]; omega
theorem wasL_at : ∀ (l : List Bn) (i : Nat) (b : Bn), l[i]? = some b → nth (wasL l) (2 * i) = b.n ∧ nth (wasL l) (2 * i + 1) = b.p
  | [], i, b, h => by simp at h
  | x :: l, 0, b, h => by simp at h; subst h; simp [wasL, nth]
  | x :: l, i + 1, b, h => by
    have := wasL_at l i b (by simpa using h)
    rw [show 2 * (i + 1) = 2 * i + 2 by omega, show 2 * i + 2 + 1 = 2 * i + 1 + 2 by omega]
    simpa [wasL, nth] using this
theorem wasL_append (l m : List Bn) : wasL (l ++ m) = wasL l ++ wasL m := by
  induction l with
  | nil => rfl
  | cons b l ih => simp [wasL, ih]
theorem wasL_step (l : List Bn) (i : Nat) (b : Bn) (h : l[i]? = some b) : wasL (l.take (i + 1)) = wasL (l.take i) ++ [b.n, b.p] := by
  rw [List.take_add_one, h, wasL_append]
  rfl
end Go.Proofs.Ytcgabjjdffcjbaa
