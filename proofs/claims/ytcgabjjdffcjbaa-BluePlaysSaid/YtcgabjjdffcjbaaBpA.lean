/- What changes only some blocks and new ones; the frame of BluePlays. -/
import Derived.Test.YtcgabjjdffcjbaaRbO
namespace Go.Proofs.Ytcgabjjdffcjbaa
open Go.RowKit
set_option linter.unusedVariables false
set_option linter.unusedSimpArgs false

def UpdS (S : Nat → Prop) (w w' : World) : Prop := w'.os = w.os ∧ w'.tape = w.tape ∧ w'.output = w.output ∧ w.heap.size ≤ w'.heap.size ∧ ∀ k, k < w.heap.size → ¬ S k → w'.heap[k]? = w.heap[k]?
theorem UpdS.refl (S : Nat → Prop) (w : World) : UpdS S w w := ⟨rfl, rfl, rfl, Nat.le_refl _, fun _ _ _ => rfl⟩
theorem UpdS.of_below {S : Nat → Prop} {w w' : World} (h : Below w.heap.size w w') : UpdS S w w' := ⟨h.os, h.tape, h.output, h.size, fun k hk _ => h.block k hk⟩
theorem UpdS.trans {S : Nat → Prop} {a b c : World} (h : UpdS S a b) (k : UpdS S b c) : UpdS S a c :=
  ⟨k.1.trans h.1, k.2.1.trans h.2.1, k.2.2.1.trans h.2.2.1, Nat.le_trans h.2.2.2.1 k.2.2.2.1, fun j hj h1 => (k.2.2.2.2 j (Nat.lt_of_lt_of_le hj h.2.2.2.1) h1).trans (h.2.2.2.2 j hj h1)⟩
theorem UpdS.of_upd {S : Nat → Prop} {B : Nat} {w w' : World} (h : Upd B w w') (hB : S B) : UpdS S w w' := ⟨h.os, h.tape, h.output, h.size, fun k hk h1 => h.block k hk (by simp; intro e; exact h1 (e ▸ hB))⟩
theorem UpdS.cell {S : Nat → Prop} {w w' : World} (h : UpdS S w w') {a : Addr} {v : Value} (hc : w.cell? a = some v) (hS : ¬ S a.block) : w'.cell? a = some v := by
  have := h.2.2.2.2 a.block (cell_lt hc) hS
  unfold World.cell? at hc ⊢
  rw [this]
  exact hc
theorem UpdS.rd {S : Nat → Prop} {w w' : World} (h : UpdS S w w') {A : Option Addr} {vs : List Value} (hr : Rd w A vs) (hS : ∀ ad, A = some ad → ad.block < w.heap.size → ¬ S ad.block) : Rd w' A vs := by
  intro j v hj
  obtain ⟨ad, e, hc⟩ := hr j v hj
  have hb : (ad.add j).block = ad.block := by unfold Addr.add; split <;> rfl
  exact ⟨ad, e, h.cell hc (by rw [hb]; exact hS ad e (by have := cell_lt hc; rwa [hb] at this))⟩
theorem UpdS.obj {S : Nat → Prop} {w w' : World} (h : UpdS S w w') {B : Nat} {cs : Array Value} {t : TypeId} (ho : Obj1 w B cs t) (hS : ¬ S B) : Obj1 w' B cs t := (h.2.2.2.2 B ho.lt hS).trans ho
theorem SlB.updS {lo : Nat} {S : Nat → Prop} {w w' : World} {A : Option Addr} {n c : Nat} {ls : List (List Bn)} (h : SlB lo w A n c ls) (hu : UpdS S w w') (hS : ∀ k, lo ≤ k → k < w.heap.size → ¬ S k) : SlB lo w' A n c ls := by
  obtain ⟨xs, h1, h2, h3, h4, h5, h6, h7⟩ := h
  refine ⟨xs, h1, h2, h3, h4, hu.rd h5 (fun ad e hlt => hS _ (h4 ad e).2 hlt), h6, fun j l hj => ?_⟩
  obtain ⟨a, m, d, h8, h9, h10⟩ := h7 j l hj
  refine ⟨a, m, d, h8, ⟨h9.1, h9.2.1, h9.2.2.1, h9.2.2.2.1, hu.rd h9.2.2.2.2 (fun ad e hlt => hS _ (h10 ad e).1 hlt)⟩, fun ad e => ?_⟩
  obtain ⟨h11, cs, h12⟩ := h10 ad e
  exact ⟨h11, cs, hu.obj h12 (hS _ h11 h12.lt)⟩
end Go.Proofs.Ytcgabjjdffcjbaa
