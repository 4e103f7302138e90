/- The document's turns: at, Deficit, Awake, with. -/
import Derived.Test.YtlnfenjoagkpdaaTuI
import Derived.Test.YtlnfenjoagkpdaaRow
namespace Go.Proofs.Ytlnfenjoagkpdaa
open Go.RowKit
set_option linter.unusedVariables false
set_option linter.unusedSimpArgs false

/-- One that is awake. -/
structure RC where
  n : Nat
  fr : Bool
  de : Int
def rcC (c : RC) : List Value := [.int .i64 (c.n : Int), .bool c.fr, .int .i64 c.de]
theorem rcC_len (l : List RC) : ∀ x ∈ l, (rcC x).length = 3 := fun _ _ => rfl
def rtC (N q : Int) (A : Option Addr) (n cp : Nat) : Array Value := #[.int .i64 N, .int .i64 q, .slice A n cp]
/-- The place of a class. -/
def atN (l : List RC) (c : Int) : Nat := l.findIdx fun x => decide ((x.n : Int) = c)
def atV (l : List RC) (c : Int) : Int := if atN l c < l.length then (atN l c : Int) else -1
theorem atN_found {l : List RC} {c : Int} {k : Nat} {x : RC} (h : l[k]? = some x) (hx : (x.n : Int) = c) (hall : ∀ (j : Nat) (y : RC), j < k → l[j]? = some y → ¬ (y.n : Int) = c) : atN l c = k := by
  obtain ⟨hk, rfl⟩ := List.getElem?_eq_some_iff.1 h
  unfold atN
  rw [List.findIdx_eq hk]
  refine ⟨decide_eq_true hx, fun j hj => decide_eq_false (hall j _ hj (List.getElem?_eq_getElem (by omega)))⟩
theorem atN_none {l : List RC} {c : Int} (hall : ∀ (j : Nat) (y : RC), l[j]? = some y → ¬ (y.n : Int) = c) : atN l c = l.length := by
  unfold atN
  rw [List.findIdx_eq_length]
  intro x hx
  obtain ⟨j, hj, rfl⟩ := List.getElem_of_mem hx
  exact decide_eq_false (hall j _ (List.getElem?_eq_getElem hj))
theorem SlR.rc {w : World} {A : Option Addr} {n cp : Nat} {l : List RC} (h : SlR rcC w A n cp l) {j : Nat} {x : RC} (hj : l[j]? = some x) : ∃ b o, A = some ⟨b, o, none⟩ ∧ w.cell? ⟨b, o + j * 3, none⟩ = some (.int .i64 (x.n : Int)) ∧ w.cell? ⟨b, o + j * 3 + 1, none⟩ = some (.bool x.fr) ∧ w.cell? ⟨b, o + j * 3 + 2, none⟩ = some (.int .i64 x.de) := by
  obtain ⟨b, o, rfl, hc⟩ := h.cells (rcC_len l) hj (by omega)
  exact ⟨b, o, rfl, hc 0 _ rfl, hc 1 _ rfl, hc 2 _ rfl⟩

set_option maxRecDepth 100000 in
set_option maxHeartbeats 1000000 in
theorem rat_w (N q : Int) (A : Option Addr) (n cp : Nat) (l : List RC) (c : Int) (hn : n ≤ 1000) (w : World) (h : SlR rcC w A n cp l) :
    Calls Try.prog 35 #[.agg (rtC N q A n cp), .int .i64 c] w fun e w' => e = .returned (.int .i64 (atV l c)) ∧ Below w.heap.size w w' := by
  have HS := Lib.hid (h.below (bl_alloc (Below.refl w.heap.size w) (.cells (rtC N q A n cp) 44)))
  have HB := Lib.hid (bl_alloc (Below.refl w.heap.size w) (.cells (rtC N q A n cp) 44))
  have HO := Lib.hid (Obj1.new w (rtC N q A n cp) 44)
  clear h
  obtain ⟨W1, hW1⟩ : ∃ W1, W1 = w.alloc (.cells (rtC N q A n cp) 44) := ⟨_, rfl⟩
  rw [← hW1] at HS HB HO
  have HW1 := Lib.hid hW1
  clear hW1
  have c2 : W1.cell? ⟨w.heap.size, 2, none⟩ = some (.slice A n cp) := HO.out.cell 2
  go_enter Try.func35, Try.ntmps35
  go_upto_region 1 with (fail)
  rw [← HW1.out]
  go_wp2_with fail
  go_loopw [9] (fun i wr => ∃ (k : Nat), k ≤ n ∧ i = .int .i64 k ∧ (∀ (j : Nat) (y : RC), j < k → l[j]? = some y → ¬ (y.n : Int) = c) ∧ W1 = wr) (fun i _ => n - (intOf i).toNat)
  case atStart => exact ⟨0, Nat.zero_le _, rfl, fun j y hj => absurd hj (by omega), rfl⟩
  case round =>
    obtain ⟨k, hk, rfl, hall, rfl⟩ := hrel
    have HA := Lib.hid hall
    clear hall
    by_cases hlt : k < n
    · have hlt' : k < l.length := by rw [HS.out.1]; exact hlt
      obtain ⟨x, hx⟩ : ∃ x, l[k]? = some x := ⟨_, List.getElem?_eq_getElem hlt'⟩
      obtain ⟨b, o, rfl, r0, _, _⟩ := HS.out.rc hx
      have hk0 : (0 : Int) ≤ (k : Int) := Int.natCast_nonneg k
      have hk1 : (k : Int) < (n : Int) := by omega
      have HX := Lib.hid hx
      clear hx
      by_cases hc : (x.n : Int) = c
      · have he := atN_found HX.out hc HA.out
        have he2 : atV l c = (k : Int) := by unfold atV; rw [he, if_pos hlt']
        have HE := Lib.hid he2
        clear he he2
        have d1 : decide ((x.n : Int) = c) = true := decide_eq_true hc
        have d2 : ((x.n : Int) == c) = true := by simp [hc]
        clear hc
        go_wp2
        go_ret
        exact ⟨by rw [HE.out]; rfl, HB.out⟩
      · have d1 : decide ((x.n : Int) = c) = false := decide_eq_false hc
        have d2 : ((x.n : Int) == c) = false := by simp [hc]
        have HC := Lib.hid hc
        clear hc
        go_wp2_with fail
        go_roundw
        case rel => exact ⟨k + 1, by omega, by go_num, fun j y hj hy => by
          rcases Nat.lt_or_ge j k with hjk | hjk
          · exact HA.out j y hjk hy
          · obtain rfl : j = k := by omega
            rw [HX.out] at hy
            cases hy
            exact HC.out, trivial⟩
        case measure => simp [intOf]; omega
    · obtain rfl : k = n := by omega
      have he := atN_none (l := l) (c := c) (fun j y hy => HA.out j y (by have := (List.getElem?_eq_some_iff.1 hy).1; rw [HS.out.1] at this; exact this) hy)
      have he2 : atV l c = -1 := by unfold atV; rw [he, if_neg (by omega)]
      have HE := Lib.hid he2
      clear he he2
      go_wp2
      go_ret
      exact ⟨by rw [HE.out]; rfl, HB.out⟩

/-- A class's deficit. -/
def rdeV (l : List RC) (c : Int) : Int := match l[atN l c]? with | some x => x.de | none => 0
set_option maxRecDepth 100000 in
set_option maxHeartbeats 1000000 in
theorem rde_w (N q : Int) (A : Option Addr) (n cp : Nat) (l : List RC) (c : Int) (hn : n ≤ 1000) (w : World) (h : SlR rcC w A n cp l) :
    Calls Try.prog 24 #[.agg (rtC N q A n cp), .int .i64 c] w fun e w' => e = .returned (.int .i64 (rdeV l c)) ∧ Below w.heap.size w w' := by
  have HS := Lib.hid (h.below (bl_alloc (Below.refl w.heap.size w) (.cells (rtC N q A n cp) 44)))
  have HB := Lib.hid (bl_alloc (Below.refl w.heap.size w) (.cells (rtC N q A n cp) 44))
  have HO := Lib.hid (Obj1.new w (rtC N q A n cp) 44)
  clear h
  obtain ⟨W1, hW1⟩ : ∃ W1, W1 = w.alloc (.cells (rtC N q A n cp) 44) := ⟨_, rfl⟩
  rw [← hW1] at HS HB HO
  have HW1 := Lib.hid hW1
  clear hW1
  go_enter Try.func24, Try.ntmps24
  go_upto_region 1 with (fail)
  rw [← HW1.out]
  go_wp2_with (refine load_obj rfl 44 (.tmp 2) rfl w.heap.size 44 (rtC N q A n cp) _ rfl HO.out Try.underlying44 rfl rfl ?_)
  refine (rat_w N q A n cp l c hn _ HS.out).mono ?_
  rintro e w2 ⟨rfl, hb2⟩
  have HS2 := Lib.hid (HS.out.below hb2)
  have HO2 := Lib.hid (HO.out.below hb2)
  have HB2 := Lib.hid (bl_next HB.out hb2)
  clear hb2
  have c2 : w2.cell? ⟨w.heap.size, 2, none⟩ = some (.slice A n cp) := HO2.out.cell 2
  by_cases hlt : atN l c < l.length
  · obtain ⟨k, hk⟩ : ∃ k, atN l c = k := ⟨_, rfl⟩
    have hv : atV l c = (k : Int) := by unfold atV; rw [if_pos hlt, hk]
    rw [hk] at hlt
    obtain ⟨x, hx⟩ : ∃ x, l[k]? = some x := ⟨_, List.getElem?_eq_getElem hlt⟩
    have hr : rdeV l c = x.de := by unfold rdeV; rw [hk, hx]
    obtain ⟨b, o, rfl, _, _, r2⟩ := HS2.out.rc hx
    have hk0 : (0 : Int) ≤ (k : Int) := Int.natCast_nonneg k
    have hkn : k < n := by have := HS2.out.1; omega
    have hk1 : (k : Int) < (n : Int) := by omega
    have HR := Lib.hid hr
    rw [hv]
    clear hr hv hk hx hlt
    go_wp2
    go_ret
    exact ⟨by rw [HR.out]; rfl, HB2.out⟩
  · have hv : atV l c = -1 := by unfold atV; rw [if_neg hlt]
    have hr : rdeV l c = 0 := by unfold rdeV; rw [List.getElem?_eq_none (by omega)]
    have HR := Lib.hid hr
    rw [hv]
    clear hr hv hlt
    go_wp2
    go_ret
    exact ⟨by rw [HR.out]; rfl, HB2.out⟩

set_option maxRecDepth 100000 in
set_option maxHeartbeats 1000000 in
theorem rwith_w (N q : Int) (A A1 : Option Addr) (n cp n1 cp1 : Nat) (w : World) :
    Calls Try.prog 36 #[.agg (rtC N q A n cp), .slice A1 n1 cp1] w fun e w' => e = .returned (.agg (rtC N q A1 n1 cp1)) ∧ Below w.heap.size w w' := by
  have HO := Lib.hid ((Obj1.new w (rtC N q A n cp) 44).alloc (.cells #[.int .i64 0, .int .i64 0, .slice none 0 0] 44))
  have HO2 := Lib.hid (Obj1.new (w.alloc (.cells (rtC N q A n cp) 44)) #[.int .i64 0, .int .i64 0, .slice none 0 0] 44)
  have HB := Lib.hid (bl_alloc (bl_alloc (Below.refl w.heap.size w) (.cells (rtC N q A n cp) 44)) (.cells #[.int .i64 0, .int .i64 0, .slice none 0 0] 44))
  obtain ⟨W1, hW1⟩ : ∃ W1, W1 = (w.alloc (.cells (rtC N q A n cp) 44)).alloc (.cells #[.int .i64 0, .int .i64 0, .slice none 0 0] 44) := ⟨_, rfl⟩
  rw [← hW1] at HB HO HO2
  rw [World.size_alloc] at HO2
  have HW1 := Lib.hid hW1
  clear hW1
  have c0 : W1.cell? ⟨w.heap.size, 0, none⟩ = some (.int .i64 N) := HO.out.cell 0
  have c1 : W1.cell? ⟨w.heap.size, 1, none⟩ = some (.int .i64 q) := HO.out.cell 1
  go_enter Try.func36, Try.ntmps36
  go_upto_region 1 with (fail)
  rw [← HW1.out]
  go_wp2_with ((refine store_obj rfl 44 (.tmp 4) (.tmp 10) rfl (w.heap.size + 1) 44 _ (rtC N q A1 n1 cp1) rfl rfl HO2.out rfl rfl (by simp [rtC, Value.oneCell']) ?_; intro w3 ho3 hu3; have HO3 := Lib.hid ho3; have HB3 := Lib.hid (bl_upd HB.out hu3 (by omega)); clear ho3 hu3))
  refine bodyPost_ret (results_cell_row rfl _ _ (w.heap.size + 1) 44 (rtC N q A1 n1 cp1) (0, 0) _ rfl HO3.out Try.underlying44 rfl rfl) rfl ?_
  exact ⟨rfl, HB3.out⟩
end Go.Proofs.Ytlnfenjoagkpdaa
