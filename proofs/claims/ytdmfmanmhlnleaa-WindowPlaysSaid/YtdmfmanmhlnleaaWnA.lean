/- The window: what it is, and what each of its functions does. -/
import Derived.Test.YtdmfmanmhlnleaaSkP
import Derived.Deep.CutRange
import Derived.Deep.Cut
namespace Go.Proofs.Ytdmfmanmhlnleaa
open Go.RowKit
set_option linter.unusedVariables false
set_option linter.unusedSimpArgs false

/-- A window. -/
structure Wd where
  s : Sk
  ns : Int
  thr : Int
  num : Int
def wdC (S : Nat) (d : Wd) : Array Value := #[.pointer (some ⟨S, 0, none⟩), .int .i64 d.ns, .int .i64 d.thr, .int .i64 d.num]
def WdO (w : World) (B S L m : Nat) (d : Wd) : Prop := Obj1 w B (wdC S d) 82 ∧ SkO w S L m d.s
theorem WdO.below {w w' : World} {B S L m : Nat} {d : Wd} (h : WdO w B S L m d) (hb : Below w.heap.size w w') : WdO w' B S L m d := ⟨h.1.below hb, h.2.below hb⟩
theorem WdO.ne {w : World} {B S L m : Nat} {d : Wd} (h : WdO w B S L m d) : B ≠ S ∧ B ≠ L := by
  obtain ⟨h1, _, h2, _, _, junk, _, h3⟩ := h
  refine ⟨?_, ?_⟩
  · rintro rfl
    have := h1.symm.trans h2
    simp [wdC] at this
  · rintro rfl
    have := h1.symm.trans h3
    simp at this
def MT : Int := 4611686018427387903
def okWd (d : Wd) : Prop := okSk d.s ∧ (1 ≤ d.ns ∧ d.ns ≤ 4611686018427387903) ∧ (1 ≤ d.thr ∧ d.thr ≤ 4611686018427387903) ∧ 0 ≤ d.num ∧ d.num ≤ 4611686018427387903
/-- What may have been written is the window, its sketch, and new blocks. -/
def Upd3 (A B D : Nat) (w w' : World) : Prop := w'.os = w.os ∧ w'.tape = w.tape ∧ w'.output = w.output ∧ w.heap.size ≤ w'.heap.size ∧ ∀ k, k < w.heap.size → k ≠ A → k ≠ B → k ≠ D → w'.heap[k]? = w.heap[k]?
theorem Upd3.refl (A B D : Nat) (w : World) : Upd3 A B D w w := ⟨rfl, rfl, rfl, Nat.le_refl _, fun _ _ _ _ _ => rfl⟩
theorem Upd3.of_below {A B D : Nat} {w w' : World} (h : Below w.heap.size w w') : Upd3 A B D w w' := ⟨h.os, h.tape, h.output, h.size, fun k hk _ _ _ => h.block k hk⟩
theorem Upd3.trans {A B D : Nat} {a b c : World} (h : Upd3 A B D a b) (k : Upd3 A B D b c) : Upd3 A B D a c :=
  ⟨k.1.trans h.1, k.2.1.trans h.2.1, k.2.2.1.trans h.2.2.1, Nat.le_trans h.2.2.2.1 k.2.2.2.1, fun j hj h1 h2 h3 => (k.2.2.2.2 j (Nat.lt_of_lt_of_le hj h.2.2.2.1) h1 h2 h3).trans (h.2.2.2.2 j hj h1 h2 h3)⟩
theorem Upd3.of1 {A B D : Nat} {w w' : World} (h : Upd A w w') : Upd3 A B D w w' := ⟨h.os, h.tape, h.output, h.size, fun k hk h1 _ _ => h.block k hk (by simpa using h1)⟩
theorem Upd3.of2 {A B D : Nat} {w w' : World} (h : Upd2 B D w w') : Upd3 A B D w w' := ⟨h.1, h.2.1, h.2.2.1, h.2.2.2.1, fun k hk _ h1 h2 => h.2.2.2.2 k hk h1 h2⟩
theorem Upd3.next {A B D : Nat} {w W W' : World} (h : Upd3 A B D w W) (k : Below W.heap.size W W') : Upd3 A B D w W' := h.trans (Upd3.of_below k)
theorem Upd3.aside {A B D R : Nat} {w W W' : World} (h : Upd3 A B D w W) (k : Upd R W W') (hR : w.heap.size ≤ R) : Upd3 A B D w W' :=
  ⟨k.os.trans h.1, k.tape.trans h.2.1, k.output.trans h.2.2.1, Nat.le_trans h.2.2.2.1 k.size, fun j hj h1 h2 h3 => (k.block j (Nat.lt_of_lt_of_le hj h.2.2.2.1) (by simp; omega)).trans (h.2.2.2.2 j hj h1 h2 h3)⟩
theorem bl_upd3 {w W W' : World} {A B D : Nat} (h : Below w.heap.size w W) (k : Upd3 A B D W W') (hA : w.heap.size ≤ A) (hB : w.heap.size ≤ B) (hD : w.heap.size ≤ D) : Below w.heap.size w W' :=
  ⟨k.1.trans h.os, k.2.1.trans h.tape, k.2.2.1.trans h.output, Nat.le_trans h.size k.2.2.2.1, fun j hj => (k.2.2.2.2 j (Nat.lt_of_lt_of_le hj h.size) (by omega) (by omega) (by omega)).trans (h.block j hj)⟩
theorem WdO.upd2 {w w' : World} {B S L m m' : Nat} {d : Wd} {s : Sk} (h : WdO w B S L m d) (hs : SkO w' S L m' s) (hu : Upd2 S L w w') : WdO w' B S L m' { d with s := s } :=
  ⟨(hu.2.2.2.2 B h.1.lt h.ne.1 h.ne.2).trans h.1, hs⟩
theorem WdO.aside {w w' : World} {B S L m R : Nat} {d : Wd} (h : WdO w B S L m d) (hu : Upd R w w') (h1 : B ≠ R) (h2 : S ≠ R) (h3 : L ≠ R) : WdO w' B S L m d :=
  ⟨h.1.of_grown hu (by simpa using h1), h.2.grown hu (by simpa using h2) (by simpa using h3)⟩

def mayB (n : Int) : Bool := decide (1 ≤ n ∧ n ≤ 4611686018427387903)
theorem may_w (n : Int) (w : World) : Calls Try.prog 39 #[.int .i64 n] w fun e w' => e = .returned (.bool (mayB n)) ∧ w = w' := by
  by_cases h1 : 1 ≤ n
  · by_cases h2 : n ≤ 4611686018427387903
    · have hd : mayB n = true := decide_eq_true ⟨h1, h2⟩
      have HD := Lib.hid hd
      clear hd
      go_enter Try.func39, Try.ntmps39
      go_wp2
      go_ret
      exact ⟨by rw [HD.out]; rfl, rfl⟩
    · have hd : mayB n = false := decide_eq_false (by omega)
      have HD := Lib.hid hd
      clear hd
      go_enter Try.func39, Try.ntmps39
      go_wp2
      go_ret
      exact ⟨by rw [HD.out]; rfl, rfl⟩
  · have hd : mayB n = false := decide_eq_false (by omega)
    have HD := Lib.hid hd
    clear hd
    go_enter Try.func39, Try.ntmps39
    go_wp2
    go_ret
    exact ⟨by rw [HD.out]; rfl, rfl⟩

def wdNew (n : Nat) (ns thr : Int) : Wd := ⟨skNew n, ns, thr, 0⟩
theorem wdNew_ok {n : Nat} {ns thr : Int} (hn : 1 ≤ n ∧ n ≤ 64) (h1 : 1 ≤ ns ∧ ns ≤ 4611686018427387903) (h2 : 1 ≤ thr ∧ thr ≤ 4611686018427387903) : okWd (wdNew n ns thr) := ⟨skNew_ok hn, h1, h2, Int.le_refl 0, show (0 : Int) ≤ 4611686018427387903 by decide⟩
set_option maxHeartbeats 1000000 in
theorem wdNew_w (n : Nat) (hn : 1 ≤ n ∧ n ≤ 64) (ns thr : Int) (h1 : 1 ≤ ns ∧ ns ≤ 4611686018427387903) (h2 : 1 ≤ thr ∧ thr ≤ 4611686018427387903) (w : World) :
    Calls Try.prog 26 #[.int .i64 n, .int .i64 ns, .int .i64 thr] w fun e w' => ∃ B S L, e = .returned (.tuple #[.pointer (some ⟨B, 0, none⟩), .int .i64 0]) ∧ w.heap.size ≤ L ∧ L < S ∧ S < B ∧ WdO w' B S L 0 (wdNew n ns thr) ∧ Below w.heap.size w w' := by
  have H1 := Lib.hid (show mayB ns = true from decide_eq_true h1)
  have H2 := Lib.hid (show mayB thr = true from decide_eq_true h2)
  go_enter Try.func26, Try.ntmps26
  go_wp2_with fail
  refine (skNew_w n hn _).mono ?_
  rintro e w1 ⟨S, L, rfl, hL, hLS, hS, hb⟩
  have HS := Lib.hid hS
  have HB := Lib.hid hb
  clear hS hb
  go_wp2_with fail
  refine (may_w ns _).mono ?_
  rintro e w' ⟨rfl, rfl⟩
  rw [H1.out]
  go_wp2_with fail
  refine (may_w thr _).mono ?_
  rintro e w' ⟨rfl, rfl⟩
  rw [H2.out]
  go_wp2
  go_ret2
  refine ⟨_, S, L, rfl, hL, hLS, HS.out.2.1.lt, ⟨?_, ?_⟩, bl_alloc HB.out _⟩
  · exact Obj1.new w1 (wdC S (wdNew n ns thr)) 82
  · exact HS.out.below (bl_alloc (Below.refl _ _) _)
theorem wdNewBad_w (n ns thr : Int) (h : ¬ (1 ≤ n ∧ n ≤ 64) ∨ ¬ (1 ≤ ns ∧ ns ≤ 4611686018427387903) ∨ ¬ (1 ≤ thr ∧ thr ≤ 4611686018427387903)) (w : World) :
    Calls Try.prog 26 #[.int .i64 n, .int .i64 ns, .int .i64 thr] w fun e w' => e = .returned (.tuple #[.pointer none, .int .i64 1]) ∧ Below w.heap.size w w' := by
  by_cases hn : 1 ≤ n ∧ n ≤ 64
  · obtain ⟨k, rfl⟩ := Int.eq_ofNat_of_zero_le (show 0 ≤ n by omega)
    have hk : 1 ≤ k ∧ k ≤ 64 := by omega
    by_cases h1 : 1 ≤ ns ∧ ns ≤ 4611686018427387903
    · have h2 : ¬ (1 ≤ thr ∧ thr ≤ 4611686018427387903) := by
        rcases h with h | h | h
        · exact absurd hn h
        · exact absurd h1 h
        · exact h
      have H1 := Lib.hid (show mayB ns = true from decide_eq_true h1)
      have H2 := Lib.hid (show mayB thr = false from decide_eq_false h2)
      clear h h1 h2 hn
      go_enter Try.func26, Try.ntmps26
      go_wp2_with fail
      refine (skNew_w k hk _).mono ?_
      rintro e w1 ⟨S, L, rfl, hL, hLS, hS, hb⟩
      have HB := Lib.hid hb
      clear hS hb
      go_wp2_with fail
      refine (may_w ns _).mono ?_
      rintro e w' ⟨rfl, rfl⟩
      rw [H1.out]
      go_wp2_with fail
      refine (may_w thr _).mono ?_
      rintro e w' ⟨rfl, rfl⟩
      rw [H2.out]
      go_wp2
      go_ret2
      exact ⟨rfl, HB.out⟩
    · have H1 := Lib.hid (show mayB ns = false from decide_eq_false h1)
      clear h h1 hn
      go_enter Try.func26, Try.ntmps26
      go_wp2_with fail
      refine (skNew_w k hk _).mono ?_
      rintro e w1 ⟨S, L, rfl, hL, hLS, hS, hb⟩
      have HB := Lib.hid hb
      clear hS hb
      go_wp2_with fail
      refine (may_w ns _).mono ?_
      rintro e w' ⟨rfl, rfl⟩
      rw [H1.out]
      go_wp2
      go_ret2
      exact ⟨rfl, HB.out⟩
  · have hn2 : n < 1 ∨ 64 < n := by omega
    clear h hn
    go_enter Try.func26, Try.ntmps26
    go_wp2_with fail
    refine (skNewBad_w n hn2 _).mono ?_
    rintro e w1 ⟨rfl, hb⟩
    have HB := Lib.hid hb
    clear hb
    go_wp2
    go_ret2
    exact ⟨rfl, HB.out⟩
theorem wdNumber_w (B S L m : Nat) (d : Wd) (w : World) (h : WdO w B S L m d) :
    Calls Try.prog 28 #[.pointer (some ⟨B, 0, none⟩)] w fun e w' => e = .returned (.int .i64 d.num) ∧ w = w' := by
  have c3 : w.cell? ⟨B, 3, none⟩ = some (.int .i64 d.num) := h.1.cell 3
  clear h
  go_enter Try.func28, Try.ntmps28
  go_wp2
  go_ret
  exact ⟨rfl, rfl⟩
theorem wdSlots_w (B S L m : Nat) (d : Wd) (hd : okSk d.s) (w : World) (h : WdO w B S L m d) :
    Calls Try.prog 29 #[.pointer (some ⟨B, 0, none⟩)] w fun e w' => ∃ v, e = .returned v ∧ w'.ownsRow w.heap.size 32 10 v m (slosC d.s.l) ∧ Below w.heap.size w w' := by
  have c0 : w.cell? ⟨B, 0, none⟩ = some (.pointer (some ⟨S, 0, none⟩)) := h.1.cell 0
  have H := Lib.hid h
  clear h
  go_enter Try.func29, Try.ntmps29
  go_wp2_with fail
  refine (skSlots_w S L m d.s hd _ H.out.2).mono ?_
  rintro e w2 ⟨v, rfl, ho, hb2⟩
  have HO := Lib.hid ho
  have HB2 := Lib.hid hb2
  clear ho hb2
  go_wp2
  go_ret
  exact ⟨_, rfl, HO.out, HB2.out⟩

/-- Which window a moment is in. -/
def wdAt (d : Wd) (now : Int) : Int := max 0 (min now 4611686018427387903) / d.ns
def wdTurn (d : Wd) (now : Int) : Wd := if d.num < wdAt d now then { d with s := { d.s with l := [], total := 0 }, num := wdAt d now } else d
/-- With n counted for a prefix at a moment. -/
def wdAdd (d : Wd) (now : Int) (p : Px) (n : Int) : Wd := { wdTurn d now with s := skAdd (wdTurn d now).s p n }
theorem wdAt_range {d : Wd} (h : okWd d) (now : Int) : 0 ≤ wdAt d now ∧ wdAt d now ≤ 4611686018427387903 := by
  have h1 : 0 ≤ max 0 (min now 4611686018427387903) := by omega
  have h2 : max 0 (min now 4611686018427387903) ≤ 4611686018427387903 := by omega
  unfold wdAt
  generalize max 0 (min now 4611686018427387903) = a at *
  refine ⟨Int.ediv_nonneg h1 (by have := h.2.1; omega), ?_⟩
  have := Int.ediv_le_self d.ns h1
  omega
theorem wdTurn_ok {d : Wd} (h : okWd d) (now : Int) : okWd (wdTurn d now) := by
  unfold wdTurn
  split
  · exact ⟨⟨h.1.1, Nat.zero_le _, (fun x hx => by cases hx), Int.le_refl 0, show (0 : Int) ≤ 4611686018427387904 by decide⟩, h.2.1, h.2.2.1, wdAt_range h now⟩
  · exact h
theorem wdAdd_ok {d : Wd} (h : okWd d) (now : Int) {p : Px} (hp : okPx p) (n : Int) : okWd (wdAdd d now p n) :=
  ⟨skAdd_ok (wdTurn_ok h now).1 hp n, (wdTurn_ok h now).2⟩
theorem wdTurn_ns (d : Wd) (now : Int) : (wdTurn d now).ns = d.ns ∧ (wdTurn d now).thr = d.thr := by unfold wdTurn; split <;> exact ⟨rfl, rfl⟩

section
variable {P : Program} {o : Oper} {a : Act} {Q : Exit → Act → World → Prop} {w : World}
theorem wp_store_obj {K : Act → World → Prop} (ty : TypeId) (x y : Operand) (ho : o.op = .store ty x y) (p : Nat) (t : TypeId) (old cs : Array Value) (hx : a.eval x = .pointer (some ⟨p, 0, none⟩)) (hy : a.eval y = .agg cs)
    (HO : Obj1 w p old t) (hs : cs.size = old.size) (hi : (P.info? ty).map (·.size) = some cs.size) (h1 : cs.all (·.oneCell') = true)
    (h : ∀ w', Obj1 w' p cs t → Upd p w w' → K (a.put o.dst undef) w') : o.wp P a w K Q := by
  have hk := setCells_obj p t cs.toList 0 old w HO (by simp [hs])
  refine wp_store_mid ty x y ho p 0 cs hx hy (fun j hj => ?_) hi h1 (h _ (by simpa using hk.1) hk.2)
  rw [Nat.zero_add, HO.cell j, HO.free j]
  exact ⟨by rw [Array.getElem?_eq_getElem (by omega)]; rfl, rfl⟩
end

set_option maxRecDepth 100000 in
set_option maxHeartbeats 4000000 in
theorem wdAddKeep_w (B S L m : Nat) (d : Wd) (hd : okWd d) (now : Int) (p : Px) (hp : okPx p) (n : Int) (w : World) (h : WdO w B S L m d) (hc : ¬ d.num < wdAt d now) :
    Calls Try.prog 27 #[.pointer (some ⟨B, 0, none⟩), .int .i64 now, .agg (pxC p).toArray, .int .i64 n] w fun e w' => ∃ x m', (wdAdd d now p n).s.l[skAt (wdTurn d now).s p]? = some x ∧ e = .returned (.bool (decide (d.thr ≤ x.c - x.e))) ∧ WdO w' B S L m' (wdAdd d now p n) ∧ Upd3 B S L w w' := by
  have HPA := Lib.hid (px_sizeA hp)
  have hb1 := bl_alloc (Below.refl w.heap.size w) (.cells (pxC p).toArray 30)
  have HLT := Lib.hid (show B < w.heap.size ∧ S < w.heap.size ∧ L < w.heap.size from ⟨h.1.lt, h.2.2.1.lt, h.2.2.2.lt⟩)
  have H1 := Lib.hid (h.below hb1)
  have HU1 := Lib.hid (Upd3.of_below (A := B) (B := S) (D := L) hb1)
  have HK1 := Lib.hid (Obj1.new w (pxC p).toArray 30)
  have hokt := wdTurn_ok hd now
  have HTN := Lib.hid (wdTurn_ns d now)
  have HAT := wdAt_range hd now
  obtain ⟨nu, hnu⟩ : ∃ nu, wdAt d now = nu := ⟨_, rfl⟩
  obtain ⟨cl, hcl⟩ : ∃ cl, max 0 (min now 4611686018427387903) = cl := ⟨_, rfl⟩
  have hq : cl / d.ns = nu := by rw [← hcl, ← hnu]; rfl
  have hcl0 : 0 ≤ cl := by omega
  have hqt : cl.tdiv d.ns = nu := by rw [Int.tdiv_eq_ediv_of_nonneg hcl0]; exact hq
  rw [hnu] at hc HAT
  have hn0 : ¬ d.ns = 0 := by have := hd.2.1; omega
  have hnm : ¬ d.ns = -1 := by have := hd.2.1; omega
  have a0 : IntKind.i64.wrap nu = nu := IntWalk.i64_in _ (by omega)
  have HTU := Lib.hid (show wdTurn d now = d by unfold wdTurn; rw [hnu, if_neg hc])
  have HNU := Lib.hid hnu
  have HCL := Lib.hid hcl
  have c1 : (w.alloc (.cells (pxC p).toArray 30)).cell? ⟨B, 1, none⟩ = some (.int .i64 d.ns) := H1.out.1.cell 1
  have HQT := Lib.hid hqt
  have HQ0 := Lib.hid hcl
  have HA0 := Lib.hid a0
  clear h hb1 hnu hcl hqt hq hcl0 a0
  go_enter Try.func27, Try.ntmps27
  go_upto_region 3 with (fail)
  go_cut [9] from 13 to 20 (fun s9 wx => s9 = .int .i64 nu ∧ wx = w.alloc (.cells (pxC p).toArray 30))
  case first =>
    by_cases h1 : now ≤ 4611686018427387903
    · by_cases h2 : now ≤ 0
      · have hnu0 : nu = 0 := by
          have := HQT.out
          rw [← HQ0.out, show max 0 (min now 4611686018427387903) = 0 by omega] at this
          simpa using this.symm
        have HN0 := Lib.hid hnu0
        clear hnu0
        go_wp2_with fail
        go_meet
        case rel => exact ⟨by rw [HN0.out], rfl⟩
      · have hqn : now.tdiv d.ns = nu := by
          have := HQT.out
          rw [← HQ0.out, show max 0 (min now 4611686018427387903) = now by omega] at this
          exact this
        have a0 := HA0.out
        go_wp2_with fail
        go_meet
        case rel => exact ⟨rfl, rfl⟩
    · have hqn : (4611686018427387903 : Int).tdiv d.ns = nu := by
        have := HQT.out
        rw [← HQ0.out, show max 0 (min now 4611686018427387903) = 4611686018427387903 by omega] at this
        exact this
      have a0 := HA0.out
      go_wp2_with fail
      go_meet
      case rel => exact ⟨rfl, rfl⟩
  case rest =>
    obtain ⟨rfl, rfl⟩ := hcut
    clear c1
    generalize hW1 : World.alloc w _ = W1 at H1 HU1 HK1 ⊢
    clear hW1
    have c3 : W1.cell? ⟨B, 3, none⟩ = some (.int .i64 d.num) := H1.out.1.cell 3
    have f3 : W1.frozen? ⟨B, 3, none⟩ = false := H1.out.1.free 3
    
    go_wp2_with fail
    obtain ⟨mm, hmm⟩ : ∃ mm, mm = m := ⟨_, rfl⟩
    obtain ⟨WW, hWW⟩ : ∃ WW, WW = W1 := ⟨_, rfl⟩
    have HDT := Lib.hid (show WdO WW B S L mm (wdTurn d now) by rw [hWW, hmm, HTU.out]; exact H1.out)
    have HU := Lib.hid (show Upd3 B S L w WW by rw [hWW]; exact HU1.out)
    have HK := Lib.hid (show Obj1 WW w.heap.size (pxC p).toArray 30 by rw [hWW]; exact HK1.out)
    rw [← hWW]
    clear hWW hmm
    obtain ⟨d1, hd1⟩ : ∃ d1, wdTurn d now = d1 := ⟨_, rfl⟩
    have HADD := Lib.hid (show wdAdd d now p n = { d1 with s := skAdd d1.s p n } by rw [← hd1]; rfl)
    have HD1 := Lib.hid hd1
    have HOK1 := Lib.hid (show okWd d1 by rw [← hd1]; exact hokt)
    have HTH := Lib.hid (show d1.thr = d.thr by rw [← hd1]; exact HTN.out.2)
    have HD := Lib.hid (show WdO WW B S L mm d1 by rw [← hd1]; exact HDT.out)
    clear hd1 hokt
    refine wp_region_held_drew (S := (fun w' => w'.cell? ⟨B, 0, none⟩ = some (.pointer (some ⟨S, 0, none⟩)) ∧ w'.cell? ⟨B, 1, none⟩ = some (.int .i64 d1.ns) ∧ Obj1 w' w.heap.size (pxC p).toArray 30)) (by kernel_rfl) (⟨HD.out.1.cell 0, HD.out.1.cell 1, HK.out⟩) (fun hHeld => ?_)
    generalize hW0 : World.drew _ = W0 at hHeld ⊢
    have HD0 := Lib.hid (show WdO W0 B S L mm d1 by rw [← hW0]; exact HD.out)
    have HU0 := Lib.hid (show Upd3 B S L w W0 by rw [← hW0]; exact HU.out)
    have HK0 := Lib.hid (show Obj1 W0 w.heap.size (pxC p).toArray 30 by rw [← hW0]; exact HK.out)
    have HX := Lib.hid hHeld
    clear hW0 hHeld
    refine wpAnyH_take (i := 0) (v := ?_) rfl (by kernel_rfl) (by kernel_rfl) (by kernel_rfl) (fun _ _ _ h => h) (Or.inl ⟨by rfl, ?_⟩) HX.out ?_
    rotate_left
    · intro w hSw; have hSw1 := hSw.1; have hSw2 := hSw.2.1; go_simp
      try with_reducible rfl
    go_simp
    refine wpAnyH_take (i := 1) (v := ?_) rfl (by kernel_rfl) (by kernel_rfl) (by kernel_rfl) (fun _ _ _ h => h) (Or.inl ⟨by rfl, ?_⟩) HX.out ?_
    rotate_left
    · intro w hSw; have hSw1 := hSw.1; have hSw2 := hSw.2.1; go_simp
      try with_reducible rfl
    go_simp
    refine wpAnyH_take (i := 2) (v := ?_) rfl (by kernel_rfl) (by kernel_rfl) (by kernel_rfl) (fun _ _ _ h => h) (Or.inl ⟨by rfl, ?_⟩) HX.out ?_
    rotate_left
    · intro w hSw; have hSw1 := hSw.1; have hSw2 := hSw.2.1; go_simp
      try with_reducible rfl
    go_simp
    refine wpAnyH_take (i := 3) (v := ?_) rfl (by kernel_rfl) (by kernel_rfl) (by kernel_rfl) (fun _ _ _ h => h) (Or.inl ⟨by rfl, ?_⟩) HX.out ?_
    rotate_left
    · intro w hSw; have hSw1 := hSw.1; have hSw2 := hSw.2.1; go_simp
      try with_reducible rfl
    go_simp
    refine wpAnyH_take (i := 4) (v := .agg (pxC p).toArray) rfl (by kernel_rfl) (by kernel_rfl) (by kernel_rfl) (fun _ _ _ h => h) (Or.inl ⟨by rfl, ?_⟩) HX.out ?_
    · intro w' hSw
      have hld := run_loadVar_row (P := Try.prog) w' w.heap.size 30 30 (pxC p).toArray (0, 0) _ hSw.2.2 Try.underlying30 rfl HPA.out
      simp [execOp, Act.eval, Instr.loadAt, Instr.sureAddr, Sem.run_bind, hld, Result.andThen]
    go_simp
    refine wpAnyH_take (i := 5) (v := ?_) rfl (by kernel_rfl) (by kernel_rfl) (by kernel_rfl) (fun _ _ _ h => h) (Or.inl ⟨by rfl, ?_⟩) HX.out ?_
    rotate_left
    · intro w hSw; have hSw1 := hSw.1; have hSw2 := hSw.2.1; go_simp
      try with_reducible rfl
    go_simp
    refine wpAnyH_ready (rs := [6, 7]) (by kernel_rfl) (by simp) ?_
    refine AllReadyH.cons rfl (fun K hK => ?_) ?_
    · go_simp
      refine (skAdd_w S L mm d1.s HOK1.out.1 p hp n _ HD0.out.2).mono ?_
      rintro e w5 ⟨x, m5, hx, rfl, hS5, hu5⟩
      dsimp only
      have HXA := Lib.hid hx
      have HD5 := Lib.hid (HD0.out.upd2 hS5 hu5)
      have HU5 := Lib.hid (HU0.out.trans (Upd3.of2 hu5))
      have HK5 := Lib.hid (HK0.out.upd2 hu5 (by have := HLT.out; omega) (by have := HLT.out; omega))
      clear hS5 hu5 hx
      refine hK.out _ _ ⟨HD5.out.1.cell 0, HD5.out.1.cell 1, HK5.out⟩ (fun hHeld => ?_)
      clear hK K
      refine wpAnyH_ready (rs := [7]) (by kernel_rfl) (by simp) ?_
      refine AllReadyH.cons rfl (fun K hK => ?_) AllReadyH.nil
      go_simp
      have HD6 := Lib.hid (HD5.out.below (bl_alloc (Below.refl _ _) (.cells #[.bool false, .int .u8 0, .int .u8 0, .int .u8 0, .int .u8 0, .int .u8 0, .int .u8 0, .int .u8 0, .int .i64 0, .int .i64 0] 32)))
      have HU6 := Lib.hid (HU5.out.next (bl_alloc (Below.refl _ _) (.cells #[.bool false, .int .u8 0, .int .u8 0, .int .u8 0, .int .u8 0, .int .u8 0, .int .u8 0, .int .u8 0, .int .i64 0, .int .i64 0] 32)))
      have HK6 := Lib.hid (HK5.out.alloc (.cells #[.bool false, .int .u8 0, .int .u8 0, .int .u8 0, .int .u8 0, .int .u8 0, .int .u8 0, .int .u8 0, .int .i64 0, .int .i64 0] 32))
      have HR6 := Lib.hid (Obj1.new w5 #[.bool false, .int .u8 0, .int .u8 0, .int .u8 0, .int .u8 0, .int .u8 0, .int .u8 0, .int .u8 0, .int .i64 0, .int .i64 0] 32)
      have hXX : w.heap.size ≤ w5.heap.size := HU5.out.2.2.2.1
      have HNX := Lib.hid (show B ≠ w5.heap.size ∧ S ≠ w5.heap.size ∧ L ≠ w5.heap.size ∧ w.heap.size ≠ w5.heap.size from ⟨Nat.ne_of_lt HD5.out.1.lt, Nat.ne_of_lt HD5.out.2.2.1.lt, Nat.ne_of_lt HD5.out.2.2.2.lt, Nat.ne_of_lt HK5.out.lt⟩)
      generalize hXb : w5.heap.size = X at HR6 hXX HNX ⊢
      refine hK.out _ _ ⟨HD6.out.1.cell 0, HD6.out.1.cell 1, HK6.out⟩ (fun hHeld => ?_)
      clear hK K
      refine wpAnyH_ready (rs := [8]) (by kernel_rfl) (by simp) ?_
      refine AllReadyH.cons rfl (fun K hK => ?_) AllReadyH.nil
      refine gwanted rfl ?_
      have hxo : okSlo x := (skAdd_ok HOK1.out.1 hp n).2.2.1 x (List.mem_of_getElem? HXA.out)
      have hlen := sloC_length hxo.1
      refine wp_store_obj 32 (.tmp 10) (.tmp 42) rfl X 32 #[.bool false, .int .u8 0, .int .u8 0, .int .u8 0, .int .u8 0, .int .u8 0, .int .u8 0, .int .u8 0, .int .i64 0, .int .i64 0] (sloC x).toArray rfl rfl HR6.out (by simp [hlen]) (slo_sizeA hxo.1) (all_oneCell_toArray (sloC_one x)) ?_
      intro w9 hob9 hup9
      have HD9 := Lib.hid (HD6.out.aside hup9 HNX.out.1 HNX.out.2.1 HNX.out.2.2.1)
      have HU9 := Lib.hid (HU6.out.aside hup9 hXX)
      have HK9 := Lib.hid (HK6.out.of_grown hup9 (by have := HNX.out.2.2.2; simpa using this))
      have r8 : w9.cell? ⟨X, 8, none⟩ = some (.int .i64 x.c) := (by rw [hob9.cell 8, List.getElem?_toArray]; exact (sloC_tail hxo.1).1)
      have r9 : w9.cell? ⟨X, 9, none⟩ = some (.int .i64 x.e) := (by rw [hob9.cell 9, List.getElem?_toArray]; exact (sloC_tail hxo.1).2)
      clear hob9 hup9 hXb
      refine hK.out _ _ ⟨HD9.out.1.cell 0, HD9.out.1.cell 1, HK9.out⟩ (fun hHeld => ?_)
      clear hK K hHeld
      refine wpAnyH_done (by kernel_rfl) ?_ _
      have r2 : w9.cell? ⟨B, 2, none⟩ = some (.int .i64 d1.thr) := HD9.out.1.cell 2
      have a5 : IntKind.i64.wrap (x.c - x.e) = x.c - x.e := IntWalk.i64_in _ (by have := hxo.2; omega)
      rw [HTH.out] at r2
      go_wp2_with fail
      go_quiet (fail)
      go_wp2
      go_ret
      rw [HADD.out, HD1.out]
      exact ⟨x, m5, HXA.out, rfl, HD9.out, HU9.out⟩
    · refine AllReadyH.cons rfl (fun K hK => ?_) AllReadyH.nil
      go_simp
      have HD6 := Lib.hid (HD0.out.below (bl_alloc (Below.refl _ _) (.cells #[.bool false, .int .u8 0, .int .u8 0, .int .u8 0, .int .u8 0, .int .u8 0, .int .u8 0, .int .u8 0, .int .i64 0, .int .i64 0] 32)))
      have HU6A := Lib.hid (HU0.out.next (bl_alloc (Below.refl _ _) (.cells #[.bool false, .int .u8 0, .int .u8 0, .int .u8 0, .int .u8 0, .int .u8 0, .int .u8 0, .int .u8 0, .int .i64 0, .int .i64 0] 32)))
      have HK6A := Lib.hid (HK0.out.alloc (.cells #[.bool false, .int .u8 0, .int .u8 0, .int .u8 0, .int .u8 0, .int .u8 0, .int .u8 0, .int .u8 0, .int .i64 0, .int .i64 0] 32))
      have HR6A := Lib.hid (Obj1.new W0 #[.bool false, .int .u8 0, .int .u8 0, .int .u8 0, .int .u8 0, .int .u8 0, .int .u8 0, .int .u8 0, .int .i64 0, .int .i64 0] 32)
      have hXX : w.heap.size ≤ W0.heap.size := HU0.out.2.2.2.1
      have HNX := Lib.hid (show B ≠ W0.heap.size ∧ S ≠ W0.heap.size ∧ L ≠ W0.heap.size ∧ w.heap.size ≠ W0.heap.size from ⟨Nat.ne_of_lt HD0.out.1.lt, Nat.ne_of_lt HD0.out.2.2.1.lt, Nat.ne_of_lt HD0.out.2.2.2.lt, Nat.ne_of_lt HK0.out.lt⟩)
      generalize hXb : W0.heap.size = X at HR6A hXX HNX ⊢
      refine hK.out _ _ ⟨HD6.out.1.cell 0, HD6.out.1.cell 1, HK6A.out⟩ (fun hHeld => ?_)
      clear hK K
      refine wpAnyH_ready (rs := [6]) (by kernel_rfl) (by simp) ?_
      refine AllReadyH.cons rfl (fun K hK => ?_) AllReadyH.nil
      go_simp
      refine (skAdd_w S L mm d1.s HOK1.out.1 p hp n _ HD6.out.2).mono ?_
      rintro e w5 ⟨x, m5, hx, rfl, hS5, hu5⟩
      dsimp only
      have HXA := Lib.hid hx
      have HD6 := Lib.hid (HD6.out.upd2 hS5 hu5)
      have HU6 := Lib.hid (HU6A.out.trans (Upd3.of2 hu5))
      have HK6 := Lib.hid (HK6A.out.upd2 hu5 (by have := HLT.out; omega) (by have := HLT.out; omega))
      have HR6 := Lib.hid (HR6A.out.upd2 hu5 (by have := HNX.out; omega) (by have := HNX.out; omega))
      clear hS5 hu5 hx
      refine hK.out _ _ ⟨HD6.out.1.cell 0, HD6.out.1.cell 1, HK6.out⟩ (fun hHeld => ?_)
      clear hK K
      refine wpAnyH_ready (rs := [8]) (by kernel_rfl) (by simp) ?_
      refine AllReadyH.cons rfl (fun K hK => ?_) AllReadyH.nil
      refine gwanted rfl ?_
      have hxo : okSlo x := (skAdd_ok HOK1.out.1 hp n).2.2.1 x (List.mem_of_getElem? HXA.out)
      have hlen := sloC_length hxo.1
      refine wp_store_obj 32 (.tmp 10) (.tmp 42) rfl X 32 #[.bool false, .int .u8 0, .int .u8 0, .int .u8 0, .int .u8 0, .int .u8 0, .int .u8 0, .int .u8 0, .int .i64 0, .int .i64 0] (sloC x).toArray rfl rfl HR6.out (by simp [hlen]) (slo_sizeA hxo.1) (all_oneCell_toArray (sloC_one x)) ?_
      intro w9 hob9 hup9
      have HD9 := Lib.hid (HD6.out.aside hup9 HNX.out.1 HNX.out.2.1 HNX.out.2.2.1)
      have HU9 := Lib.hid (HU6.out.aside hup9 hXX)
      have HK9 := Lib.hid (HK6.out.of_grown hup9 (by have := HNX.out.2.2.2; simpa using this))
      have r8 : w9.cell? ⟨X, 8, none⟩ = some (.int .i64 x.c) := (by rw [hob9.cell 8, List.getElem?_toArray]; exact (sloC_tail hxo.1).1)
      have r9 : w9.cell? ⟨X, 9, none⟩ = some (.int .i64 x.e) := (by rw [hob9.cell 9, List.getElem?_toArray]; exact (sloC_tail hxo.1).2)
      clear hob9 hup9 hXb
      refine hK.out _ _ ⟨HD9.out.1.cell 0, HD9.out.1.cell 1, HK9.out⟩ (fun hHeld => ?_)
      clear hK K hHeld
      refine wpAnyH_done (by kernel_rfl) ?_ _
      have r2 : w9.cell? ⟨B, 2, none⟩ = some (.int .i64 d1.thr) := HD9.out.1.cell 2
      have a5 : IntKind.i64.wrap (x.c - x.e) = x.c - x.e := IntWalk.i64_in _ (by have := hxo.2; omega)
      rw [HTH.out] at r2
      go_wp2_with fail
      go_quiet (fail)
      go_wp2
      go_ret
      rw [HADD.out, HD1.out]
      exact ⟨x, m5, HXA.out, rfl, HD9.out, HU9.out⟩

set_option maxRecDepth 100000 in
set_option maxHeartbeats 4000000 in
theorem wdAddTurn_w (B S L m : Nat) (d : Wd) (hd : okWd d) (now : Int) (p : Px) (hp : okPx p) (n : Int) (w : World) (h : WdO w B S L m d) (hc : d.num < wdAt d now) :
    Calls Try.prog 27 #[.pointer (some ⟨B, 0, none⟩), .int .i64 now, .agg (pxC p).toArray, .int .i64 n] w fun e w' => ∃ x m', (wdAdd d now p n).s.l[skAt (wdTurn d now).s p]? = some x ∧ e = .returned (.bool (decide (d.thr ≤ x.c - x.e))) ∧ WdO w' B S L m' (wdAdd d now p n) ∧ Upd3 B S L w w' := by
  have HPA := Lib.hid (px_sizeA hp)
  have hb1 := bl_alloc (Below.refl w.heap.size w) (.cells (pxC p).toArray 30)
  have HLT := Lib.hid (show B < w.heap.size ∧ S < w.heap.size ∧ L < w.heap.size from ⟨h.1.lt, h.2.2.1.lt, h.2.2.2.lt⟩)
  have H1 := Lib.hid (h.below hb1)
  have HU1 := Lib.hid (Upd3.of_below (A := B) (B := S) (D := L) hb1)
  have HK1 := Lib.hid (Obj1.new w (pxC p).toArray 30)
  have hokt := wdTurn_ok hd now
  have HTN := Lib.hid (wdTurn_ns d now)
  have HAT := wdAt_range hd now
  obtain ⟨nu, hnu⟩ : ∃ nu, wdAt d now = nu := ⟨_, rfl⟩
  obtain ⟨cl, hcl⟩ : ∃ cl, max 0 (min now 4611686018427387903) = cl := ⟨_, rfl⟩
  have hq : cl / d.ns = nu := by rw [← hcl, ← hnu]; rfl
  have hcl0 : 0 ≤ cl := by omega
  have hqt : cl.tdiv d.ns = nu := by rw [Int.tdiv_eq_ediv_of_nonneg hcl0]; exact hq
  rw [hnu] at hc HAT
  have hn0 : ¬ d.ns = 0 := by have := hd.2.1; omega
  have hnm : ¬ d.ns = -1 := by have := hd.2.1; omega
  have a0 : IntKind.i64.wrap nu = nu := IntWalk.i64_in _ (by omega)
  have HTU := Lib.hid (show wdTurn d now = { d with s := { d.s with l := [], total := 0 }, num := nu } by unfold wdTurn; rw [hnu, if_pos hc])
  have HNU := Lib.hid hnu
  have HCL := Lib.hid hcl
  have c1 : (w.alloc (.cells (pxC p).toArray 30)).cell? ⟨B, 1, none⟩ = some (.int .i64 d.ns) := H1.out.1.cell 1
  have HQT := Lib.hid hqt
  have HQ0 := Lib.hid hcl
  have HA0 := Lib.hid a0
  clear h hb1 hnu hcl hqt hq hcl0 a0
  go_enter Try.func27, Try.ntmps27
  go_upto_region 3 with (fail)
  go_cut [9] from 13 to 20 (fun s9 wx => s9 = .int .i64 nu ∧ wx = w.alloc (.cells (pxC p).toArray 30))
  case first =>
    by_cases h1 : now ≤ 4611686018427387903
    · by_cases h2 : now ≤ 0
      · have hnu0 : nu = 0 := by
          have := HQT.out
          rw [← HQ0.out, show max 0 (min now 4611686018427387903) = 0 by omega] at this
          simpa using this.symm
        have HN0 := Lib.hid hnu0
        clear hnu0
        go_wp2_with fail
        go_meet
        case rel => exact ⟨by rw [HN0.out], rfl⟩
      · have hqn : now.tdiv d.ns = nu := by
          have := HQT.out
          rw [← HQ0.out, show max 0 (min now 4611686018427387903) = now by omega] at this
          exact this
        have a0 := HA0.out
        go_wp2_with fail
        go_meet
        case rel => exact ⟨rfl, rfl⟩
    · have hqn : (4611686018427387903 : Int).tdiv d.ns = nu := by
        have := HQT.out
        rw [← HQ0.out, show max 0 (min now 4611686018427387903) = 4611686018427387903 by omega] at this
        exact this
      have a0 := HA0.out
      go_wp2_with fail
      go_meet
      case rel => exact ⟨rfl, rfl⟩
  case rest =>
    obtain ⟨rfl, rfl⟩ := hcut
    clear c1
    generalize hW1 : World.alloc w _ = W1 at H1 HU1 HK1 ⊢
    clear hW1
    have c3 : W1.cell? ⟨B, 3, none⟩ = some (.int .i64 d.num) := H1.out.1.cell 3
    have f3 : W1.frozen? ⟨B, 3, none⟩ = false := H1.out.1.free 3
    have hset := (Upd.refl B W1).set 3 (.int .i64 nu)
    have hne := H1.out.ne
    have HD2 := Lib.hid (show WdO (W1.setCell ⟨B, 3, none⟩ (.int .i64 nu)) B S L m { d with num := nu } from ⟨H1.out.1.set 3 _, H1.out.2.grown hset (by simp; omega) (by simp; omega)⟩)
    have HU2 := Lib.hid (show Upd3 B S L w (W1.setCell ⟨B, 3, none⟩ (.int .i64 nu)) from HU1.out.trans (Upd3.of1 hset))
    have HK2 := Lib.hid (HK1.out.of_grown hset (by have := HLT.out; simp; omega))
    have c0 : (W1.setCell ⟨B, 3, none⟩ (.int .i64 nu)).cell? ⟨B, 0, none⟩ = some (.pointer (some ⟨S, 0, none⟩)) := HD2.out.1.cell 0
    clear hset hne
    go_wp2_with fail
    refine (skReset_w S L m d.s _ HD2.out.2).mono ?_
    rintro e w2 ⟨rfl, hs2, hu2⟩
    have HDT := Lib.hid (show WdO w2 B S L 0 (wdTurn d now) by rw [HTU.out]; exact HD2.out.upd2 hs2 hu2)
    have HU := Lib.hid (HU2.out.trans (Upd3.of2 hu2))
    have HK := Lib.hid (HK2.out.upd2 hu2 (by have := HLT.out; omega) (by have := HLT.out; omega))
    clear hs2 hu2 c0
    go_wp2_with fail
    obtain ⟨mm, hmm⟩ : ∃ mm, mm = 0 := ⟨_, rfl⟩
    rw [← hmm] at HDT
    clear hmm
    obtain ⟨WW, hWW⟩ : ∃ WW, WW = w2 := ⟨_, rfl⟩
    rw [← hWW] at HDT HU HK ⊢
    clear hWW
    obtain ⟨d1, hd1⟩ : ∃ d1, wdTurn d now = d1 := ⟨_, rfl⟩
    have HADD := Lib.hid (show wdAdd d now p n = { d1 with s := skAdd d1.s p n } by rw [← hd1]; rfl)
    have HD1 := Lib.hid hd1
    have HOK1 := Lib.hid (show okWd d1 by rw [← hd1]; exact hokt)
    have HTH := Lib.hid (show d1.thr = d.thr by rw [← hd1]; exact HTN.out.2)
    have HD := Lib.hid (show WdO WW B S L mm d1 by rw [← hd1]; exact HDT.out)
    clear hd1 hokt
    refine wp_region_held_drew (S := (fun w' => w'.cell? ⟨B, 0, none⟩ = some (.pointer (some ⟨S, 0, none⟩)) ∧ w'.cell? ⟨B, 1, none⟩ = some (.int .i64 d1.ns) ∧ Obj1 w' w.heap.size (pxC p).toArray 30)) (by kernel_rfl) (⟨HD.out.1.cell 0, HD.out.1.cell 1, HK.out⟩) (fun hHeld => ?_)
    generalize hW0 : World.drew _ = W0 at hHeld ⊢
    have HD0 := Lib.hid (show WdO W0 B S L mm d1 by rw [← hW0]; exact HD.out)
    have HU0 := Lib.hid (show Upd3 B S L w W0 by rw [← hW0]; exact HU.out)
    have HK0 := Lib.hid (show Obj1 W0 w.heap.size (pxC p).toArray 30 by rw [← hW0]; exact HK.out)
    have HX := Lib.hid hHeld
    clear hW0 hHeld
    refine wpAnyH_take (i := 0) (v := ?_) rfl (by kernel_rfl) (by kernel_rfl) (by kernel_rfl) (fun _ _ _ h => h) (Or.inl ⟨by rfl, ?_⟩) HX.out ?_
    rotate_left
    · intro w hSw; have hSw1 := hSw.1; have hSw2 := hSw.2.1; go_simp
      try with_reducible rfl
    go_simp
    refine wpAnyH_take (i := 1) (v := ?_) rfl (by kernel_rfl) (by kernel_rfl) (by kernel_rfl) (fun _ _ _ h => h) (Or.inl ⟨by rfl, ?_⟩) HX.out ?_
    rotate_left
    · intro w hSw; have hSw1 := hSw.1; have hSw2 := hSw.2.1; go_simp
      try with_reducible rfl
    go_simp
    refine wpAnyH_take (i := 2) (v := ?_) rfl (by kernel_rfl) (by kernel_rfl) (by kernel_rfl) (fun _ _ _ h => h) (Or.inl ⟨by rfl, ?_⟩) HX.out ?_
    rotate_left
    · intro w hSw; have hSw1 := hSw.1; have hSw2 := hSw.2.1; go_simp
      try with_reducible rfl
    go_simp
    refine wpAnyH_take (i := 3) (v := ?_) rfl (by kernel_rfl) (by kernel_rfl) (by kernel_rfl) (fun _ _ _ h => h) (Or.inl ⟨by rfl, ?_⟩) HX.out ?_
    rotate_left
    · intro w hSw; have hSw1 := hSw.1; have hSw2 := hSw.2.1; go_simp
      try with_reducible rfl
    go_simp
    refine wpAnyH_take (i := 4) (v := .agg (pxC p).toArray) rfl (by kernel_rfl) (by kernel_rfl) (by kernel_rfl) (fun _ _ _ h => h) (Or.inl ⟨by rfl, ?_⟩) HX.out ?_
    · intro w' hSw
      have hld := run_loadVar_row (P := Try.prog) w' w.heap.size 30 30 (pxC p).toArray (0, 0) _ hSw.2.2 Try.underlying30 rfl HPA.out
      simp [execOp, Act.eval, Instr.loadAt, Instr.sureAddr, Sem.run_bind, hld, Result.andThen]
    go_simp
    refine wpAnyH_take (i := 5) (v := ?_) rfl (by kernel_rfl) (by kernel_rfl) (by kernel_rfl) (fun _ _ _ h => h) (Or.inl ⟨by rfl, ?_⟩) HX.out ?_
    rotate_left
    · intro w hSw; have hSw1 := hSw.1; have hSw2 := hSw.2.1; go_simp
      try with_reducible rfl
    go_simp
    refine wpAnyH_ready (rs := [6, 7]) (by kernel_rfl) (by simp) ?_
    refine AllReadyH.cons rfl (fun K hK => ?_) ?_
    · go_simp
      refine (skAdd_w S L mm d1.s HOK1.out.1 p hp n _ HD0.out.2).mono ?_
      rintro e w5 ⟨x, m5, hx, rfl, hS5, hu5⟩
      dsimp only
      have HXA := Lib.hid hx
      have HD5 := Lib.hid (HD0.out.upd2 hS5 hu5)
      have HU5 := Lib.hid (HU0.out.trans (Upd3.of2 hu5))
      have HK5 := Lib.hid (HK0.out.upd2 hu5 (by have := HLT.out; omega) (by have := HLT.out; omega))
      clear hS5 hu5 hx
      refine hK.out _ _ ⟨HD5.out.1.cell 0, HD5.out.1.cell 1, HK5.out⟩ (fun hHeld => ?_)
      clear hK K
      refine wpAnyH_ready (rs := [7]) (by kernel_rfl) (by simp) ?_
      refine AllReadyH.cons rfl (fun K hK => ?_) AllReadyH.nil
      go_simp
      have HD6 := Lib.hid (HD5.out.below (bl_alloc (Below.refl _ _) (.cells #[.bool false, .int .u8 0, .int .u8 0, .int .u8 0, .int .u8 0, .int .u8 0, .int .u8 0, .int .u8 0, .int .i64 0, .int .i64 0] 32)))
      have HU6 := Lib.hid (HU5.out.next (bl_alloc (Below.refl _ _) (.cells #[.bool false, .int .u8 0, .int .u8 0, .int .u8 0, .int .u8 0, .int .u8 0, .int .u8 0, .int .u8 0, .int .i64 0, .int .i64 0] 32)))
      have HK6 := Lib.hid (HK5.out.alloc (.cells #[.bool false, .int .u8 0, .int .u8 0, .int .u8 0, .int .u8 0, .int .u8 0, .int .u8 0, .int .u8 0, .int .i64 0, .int .i64 0] 32))
      have HR6 := Lib.hid (Obj1.new w5 #[.bool false, .int .u8 0, .int .u8 0, .int .u8 0, .int .u8 0, .int .u8 0, .int .u8 0, .int .u8 0, .int .i64 0, .int .i64 0] 32)
      have hXX : w.heap.size ≤ w5.heap.size := HU5.out.2.2.2.1
      have HNX := Lib.hid (show B ≠ w5.heap.size ∧ S ≠ w5.heap.size ∧ L ≠ w5.heap.size ∧ w.heap.size ≠ w5.heap.size from ⟨Nat.ne_of_lt HD5.out.1.lt, Nat.ne_of_lt HD5.out.2.2.1.lt, Nat.ne_of_lt HD5.out.2.2.2.lt, Nat.ne_of_lt HK5.out.lt⟩)
      generalize hXb : w5.heap.size = X at HR6 hXX HNX ⊢
      refine hK.out _ _ ⟨HD6.out.1.cell 0, HD6.out.1.cell 1, HK6.out⟩ (fun hHeld => ?_)
      clear hK K
      refine wpAnyH_ready (rs := [8]) (by kernel_rfl) (by simp) ?_
      refine AllReadyH.cons rfl (fun K hK => ?_) AllReadyH.nil
      refine gwanted rfl ?_
      have hxo : okSlo x := (skAdd_ok HOK1.out.1 hp n).2.2.1 x (List.mem_of_getElem? HXA.out)
      have hlen := sloC_length hxo.1
      refine wp_store_obj 32 (.tmp 10) (.tmp 42) rfl X 32 #[.bool false, .int .u8 0, .int .u8 0, .int .u8 0, .int .u8 0, .int .u8 0, .int .u8 0, .int .u8 0, .int .i64 0, .int .i64 0] (sloC x).toArray rfl rfl HR6.out (by simp [hlen]) (slo_sizeA hxo.1) (all_oneCell_toArray (sloC_one x)) ?_
      intro w9 hob9 hup9
      have HD9 := Lib.hid (HD6.out.aside hup9 HNX.out.1 HNX.out.2.1 HNX.out.2.2.1)
      have HU9 := Lib.hid (HU6.out.aside hup9 hXX)
      have HK9 := Lib.hid (HK6.out.of_grown hup9 (by have := HNX.out.2.2.2; simpa using this))
      have r8 : w9.cell? ⟨X, 8, none⟩ = some (.int .i64 x.c) := (by rw [hob9.cell 8, List.getElem?_toArray]; exact (sloC_tail hxo.1).1)
      have r9 : w9.cell? ⟨X, 9, none⟩ = some (.int .i64 x.e) := (by rw [hob9.cell 9, List.getElem?_toArray]; exact (sloC_tail hxo.1).2)
      clear hob9 hup9 hXb
      refine hK.out _ _ ⟨HD9.out.1.cell 0, HD9.out.1.cell 1, HK9.out⟩ (fun hHeld => ?_)
      clear hK K hHeld
      refine wpAnyH_done (by kernel_rfl) ?_ _
      have r2 : w9.cell? ⟨B, 2, none⟩ = some (.int .i64 d1.thr) := HD9.out.1.cell 2
      have a5 : IntKind.i64.wrap (x.c - x.e) = x.c - x.e := IntWalk.i64_in _ (by have := hxo.2; omega)
      rw [HTH.out] at r2
      go_wp2_with fail
      go_quiet (fail)
      go_wp2
      go_ret
      rw [HADD.out, HD1.out]
      exact ⟨x, m5, HXA.out, rfl, HD9.out, HU9.out⟩
    · refine AllReadyH.cons rfl (fun K hK => ?_) AllReadyH.nil
      go_simp
      have HD6 := Lib.hid (HD0.out.below (bl_alloc (Below.refl _ _) (.cells #[.bool false, .int .u8 0, .int .u8 0, .int .u8 0, .int .u8 0, .int .u8 0, .int .u8 0, .int .u8 0, .int .i64 0, .int .i64 0] 32)))
      have HU6A := Lib.hid (HU0.out.next (bl_alloc (Below.refl _ _) (.cells #[.bool false, .int .u8 0, .int .u8 0, .int .u8 0, .int .u8 0, .int .u8 0, .int .u8 0, .int .u8 0, .int .i64 0, .int .i64 0] 32)))
      have HK6A := Lib.hid (HK0.out.alloc (.cells #[.bool false, .int .u8 0, .int .u8 0, .int .u8 0, .int .u8 0, .int .u8 0, .int .u8 0, .int .u8 0, .int .i64 0, .int .i64 0] 32))
      have HR6A := Lib.hid (Obj1.new W0 #[.bool false, .int .u8 0, .int .u8 0, .int .u8 0, .int .u8 0, .int .u8 0, .int .u8 0, .int .u8 0, .int .i64 0, .int .i64 0] 32)
      have hXX : w.heap.size ≤ W0.heap.size := HU0.out.2.2.2.1
      have HNX := Lib.hid (show B ≠ W0.heap.size ∧ S ≠ W0.heap.size ∧ L ≠ W0.heap.size ∧ w.heap.size ≠ W0.heap.size from ⟨Nat.ne_of_lt HD0.out.1.lt, Nat.ne_of_lt HD0.out.2.2.1.lt, Nat.ne_of_lt HD0.out.2.2.2.lt, Nat.ne_of_lt HK0.out.lt⟩)
      generalize hXb : W0.heap.size = X at HR6A hXX HNX ⊢
      refine hK.out _ _ ⟨HD6.out.1.cell 0, HD6.out.1.cell 1, HK6A.out⟩ (fun hHeld => ?_)
      clear hK K
      refine wpAnyH_ready (rs := [6]) (by kernel_rfl) (by simp) ?_
      refine AllReadyH.cons rfl (fun K hK => ?_) AllReadyH.nil
      go_simp
      refine (skAdd_w S L mm d1.s HOK1.out.1 p hp n _ HD6.out.2).mono ?_
      rintro e w5 ⟨x, m5, hx, rfl, hS5, hu5⟩
      dsimp only
      have HXA := Lib.hid hx
      have HD6 := Lib.hid (HD6.out.upd2 hS5 hu5)
      have HU6 := Lib.hid (HU6A.out.trans (Upd3.of2 hu5))
      have HK6 := Lib.hid (HK6A.out.upd2 hu5 (by have := HLT.out; omega) (by have := HLT.out; omega))
      have HR6 := Lib.hid (HR6A.out.upd2 hu5 (by have := HNX.out; omega) (by have := HNX.out; omega))
      clear hS5 hu5 hx
      refine hK.out _ _ ⟨HD6.out.1.cell 0, HD6.out.1.cell 1, HK6.out⟩ (fun hHeld => ?_)
      clear hK K
      refine wpAnyH_ready (rs := [8]) (by kernel_rfl) (by simp) ?_
      refine AllReadyH.cons rfl (fun K hK => ?_) AllReadyH.nil
      refine gwanted rfl ?_
      have hxo : okSlo x := (skAdd_ok HOK1.out.1 hp n).2.2.1 x (List.mem_of_getElem? HXA.out)
      have hlen := sloC_length hxo.1
      refine wp_store_obj 32 (.tmp 10) (.tmp 42) rfl X 32 #[.bool false, .int .u8 0, .int .u8 0, .int .u8 0, .int .u8 0, .int .u8 0, .int .u8 0, .int .u8 0, .int .i64 0, .int .i64 0] (sloC x).toArray rfl rfl HR6.out (by simp [hlen]) (slo_sizeA hxo.1) (all_oneCell_toArray (sloC_one x)) ?_
      intro w9 hob9 hup9
      have HD9 := Lib.hid (HD6.out.aside hup9 HNX.out.1 HNX.out.2.1 HNX.out.2.2.1)
      have HU9 := Lib.hid (HU6.out.aside hup9 hXX)
      have HK9 := Lib.hid (HK6.out.of_grown hup9 (by have := HNX.out.2.2.2; simpa using this))
      have r8 : w9.cell? ⟨X, 8, none⟩ = some (.int .i64 x.c) := (by rw [hob9.cell 8, List.getElem?_toArray]; exact (sloC_tail hxo.1).1)
      have r9 : w9.cell? ⟨X, 9, none⟩ = some (.int .i64 x.e) := (by rw [hob9.cell 9, List.getElem?_toArray]; exact (sloC_tail hxo.1).2)
      clear hob9 hup9 hXb
      refine hK.out _ _ ⟨HD9.out.1.cell 0, HD9.out.1.cell 1, HK9.out⟩ (fun hHeld => ?_)
      clear hK K hHeld
      refine wpAnyH_done (by kernel_rfl) ?_ _
      have r2 : w9.cell? ⟨B, 2, none⟩ = some (.int .i64 d1.thr) := HD9.out.1.cell 2
      have a5 : IntKind.i64.wrap (x.c - x.e) = x.c - x.e := IntWalk.i64_in _ (by have := hxo.2; omega)
      rw [HTH.out] at r2
      go_wp2_with fail
      go_quiet (fail)
      go_wp2
      go_ret
      rw [HADD.out, HD1.out]
      exact ⟨x, m5, HXA.out, rfl, HD9.out, HU9.out⟩

theorem wdAdd_w (B S L m : Nat) (d : Wd) (hd : okWd d) (now : Int) (p : Px) (hp : okPx p) (n : Int) (w : World) (h : WdO w B S L m d) :
    Calls Try.prog 27 #[.pointer (some ⟨B, 0, none⟩), .int .i64 now, .agg (pxC p).toArray, .int .i64 n] w fun e w' => ∃ x m', (wdAdd d now p n).s.l[skAt (wdTurn d now).s p]? = some x ∧ e = .returned (.bool (decide (d.thr ≤ x.c - x.e))) ∧ WdO w' B S L m' (wdAdd d now p n) ∧ Upd3 B S L w w' := by
  by_cases hc : d.num < wdAt d now
  · exact wdAddTurn_w B S L m d hd now p hp n w h hc
  · exact wdAddKeep_w B S L m d hd now p hp n w h hc
end Go.Proofs.Ytdmfmanmhlnleaa
