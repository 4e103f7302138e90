/- BluePlays' state: the program's blue and the document's. -/
import Derived.Test.YtcgabjjdffcjbaaBpA
namespace Go.Proofs.Ytcgabjjdffcjbaa
open Go.RowKit
set_option linter.unusedVariables false
set_option linter.unusedSimpArgs false

def Sx (D R : Nat) : Nat → Prop := fun k => k = D ∨ k = D + 1 ∨ k = R
def TunedP (target up down : Int) : Prop := 0 ≤ target ∧ target ≤ 1073741824 ∧ 0 ≤ up ∧ up ≤ 65536 ∧ 0 ≤ down ∧ down ≤ 65536
def RowsN (nl nb : Nat) (ls : List (List Bn)) : Prop := ls.length = nl ∧ (∀ l ∈ ls, l.length = nb) ∧ ∀ b ∈ ls.flatten, okBn b
def BpSt (w wr : World) (D R nl nb : Nat) (hold target up down : Int) (A : Option Addr) (c : Nat) (ls : List (List Bn)) : Prop :=
  RowsN nl nb ls ∧ TunedP target up down ∧ Obj1 wr D (binsC ls.flatten) 82 ∧ Obj1 wr (D + 1) (blueC D (nl * nb) nl nb target hold up down) 77 ∧ Obj1 wr R (rbC A nl c target hold up down) 65 ∧ (∀ w', UpdS (Sx D R) wr w' → SlB (D + 2) w' A nl c ls) ∧ Below w.heap.size w wr ∧ w.heap.size ≤ D ∧ D + 1 < R
theorem BpSt.slb {w wr : World} {D R nl nb : Nat} {hold target up down : Int} {A : Option Addr} {c : Nat} {ls : List (List Bn)} (h : BpSt w wr D R nl nb hold target up down A c ls) : SlB (D + 2) wr A nl c ls := h.2.2.2.2.2.1 wr (UpdS.refl _ _)
theorem BpSt.below {w wr W : World} {D R nl nb : Nat} {hold target up down : Int} {A : Option Addr} {c : Nat} {ls : List (List Bn)} (h : BpSt w wr D R nl nb hold target up down A c ls) (hb : Below wr.heap.size wr W) : BpSt w W D R nl nb hold target up down A c ls :=
  ⟨h.1, h.2.1, h.2.2.1.below hb, h.2.2.2.1.below hb, h.2.2.2.2.1.below hb, fun w' hu => h.2.2.2.2.2.1 w' ((UpdS.of_below hb).trans hu), bl_next h.2.2.2.2.2.2.1 hb, h.2.2.2.2.2.2.2⟩
/-- The program has changed its bins, the document made its own anew, and that is stored. -/
theorem BpSt.step {w wr w1 w2 w3 : World} {D R nl nb : Nat} {hold target up down : Int} {A A' : Option Addr} {c c' : Nat} {ls ls' : List (List Bn)} (h : BpSt w wr D R nl nb hold target up down A c ls) (hr : RowsN nl nb ls')
    (hD : Obj1 w1 D (binsC ls'.flatten) 82) (hu : Upd D wr w1) (hs : SlB w1.heap.size w2 A' nl c' ls') (hb : Below w1.heap.size w1 w2) (hR : Obj1 w3 R (rbC A' nl c' target hold up down) 65) (hu3 : Upd R w2 w3) : BpSt w w3 D R nl nb hold target up down A' c' ls' := by
  obtain ⟨h1, h2, h3, h4, h5, h6, h7, h8, h9⟩ := h
  have hRlt : R < w1.heap.size := by have := h5.lt; have := hu.size; omega
  have hB1 := h4.of_grown hu (by simp)
  refine ⟨hr, h2, (hD.below hb).of_grown hu3 (by simp; omega), (hB1.below hb).of_grown hu3 (by simp; omega), hR, fun w' hw => ?_, bl_upd (bl_next (bl_upd h7 hu h8) hb) hu3 (by omega), h8, h9⟩
  have hlo : D + 2 ≤ w1.heap.size := by omega
  exact (hs.updS (S := Sx D R) ((UpdS.of_upd hu3 (Or.inr (Or.inr rfl))).trans hw) (fun k hk _ hS => by rcases hS with e | e | e <;> omega)).mono hlo
/-- Behind Tune. -/
theorem BpSt.tune {w wr w1 w2 : World} {D R nl nb : Nat} {hold target up down t u d : Int} {A : Option Addr} {c : Nat} {ls : List (List Bn)} (h : BpSt w wr D R nl nb hold target up down A c ls) (ht : TunedP t u d)
    (hB : Obj1 w1 (D + 1) (blueC D (nl * nb) nl nb t hold u d) 77) (hu : Upd (D + 1) wr w1) (hR : Obj1 w2 R (rbC A nl c t hold u d) 65) (hu2 : Upd R w1 w2) : BpSt w w2 D R nl nb hold t u d A c ls := by
  obtain ⟨h1, h2, h3, h4, h5, h6, h7, h8, h9⟩ := h
  exact ⟨h1, ht, (h3.of_grown hu (by simp)).of_grown hu2 (by simp; omega), hB.of_grown hu2 (by simp; omega), hR, fun w' hw => h6 w' ((UpdS.of_upd hu (Or.inr (Or.inl rfl))).trans ((UpdS.of_upd hu2 (Or.inr (Or.inr rfl))).trans hw)), bl_upd (bl_upd h7 hu (by omega)) hu2 (by omega), h8, h9⟩
/-- A change of a flow's bins keeps rows. -/
theorem RowsN.upd {nl nb : Nat} {ls : List (List Bn)} (h : RowsN nl nb ls) {f : Bn → Bn} (hf : ∀ b, okBn b → okBn (f b)) {ks : List Int} (hk : flowsB nl nb ks = true) : RowsN nl nb (changeN ls ks ((ofN ls ks nl).map f) nl) ∧ updN f nb ks nl ls.flatten = (changeN ls ks ((ofN ls ks nl).map f) nl).flatten := by
  have he := upd_change_all f ls ks nb nl h.1 h.2.1 (flowsB_at hk).2
  refine ⟨⟨changeN_length _ _ _ _, changeN_rows ls ks _ nb h.2.1 nl (by rw [h.1]; exact Nat.le_refl _), ?_⟩, he⟩
  rw [← he]
  exact ok_updN hf nb ks nl _ h.2.2
theorem RowsN.bin {nl nb : Nat} {ls : List (List Bn)} (h : RowsN nl nb ls) {ks : List Int} (hk : flowsB nl nb ks = true) : ∀ j, j < nl → okBn (binAt ls ks j) := by
  intro j hj
  have hx := (flowsB_at hk).2 j hj
  have hb := bin_flat h.2.1 hx
  obtain ⟨b, hbb⟩ : ∃ b, ls.flatten[j * nb + (nth ks j).toNat]? = some b := by
    refine ⟨_, List.getElem?_eq_getElem ?_⟩
    rw [flat_len h.2.1, h.1]
    have : j * nb + nb ≤ nl * nb := by rw [← Nat.succ_mul]; exact Nat.mul_le_mul_right _ hj
    omega
  rw [hbb] at hb
  simp at hb
  rw [← hb]
  exact h.2.2 b (List.mem_of_getElem? hbb)
theorem RowsN.new (nl nb : Nat) : RowsN nl nb (List.replicate nl (List.replicate nb ⟨0, 0, 0⟩)) := by
  refine ⟨by simp, fun l hl => by rw [List.mem_replicate] at hl; rw [hl.2]; simp, fun b hb => ?_⟩
  obtain ⟨l, hl, hb⟩ := List.mem_flatten.1 hb
  rw [List.mem_replicate] at hl
  rw [hl.2, List.mem_replicate] at hb
  rw [hb.2]
  exact ⟨by decide, by decide, by decide⟩
theorem flat_new (nl nb : Nat) : (List.replicate nl (List.replicate nb (⟨0, 0, 0⟩ : Bn))).flatten = List.replicate (nl * nb) ⟨0, 0, 0⟩ := by
  rw [List.flatten_replicate_replicate]
end Go.Proofs.Ytcgabjjdffcjbaa
