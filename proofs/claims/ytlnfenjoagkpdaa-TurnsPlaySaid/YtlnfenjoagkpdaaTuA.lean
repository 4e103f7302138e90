/- Whose turn it is, as values; New, has, Wake, Awake, Deficit. -/
import Derived.Test.YtlnfenjoagkpdaaRoom
namespace Go.Proofs.Ytlnfenjoagkpdaa
open Go.RowKit
set_option linter.unusedVariables false
set_option linter.unusedSimpArgs false

/-- A class. -/
structure Cl where
  aw : Bool
  fr : Bool
  de : Int
/-- Turns. -/
structure Tn where
  q : Int
  l : List Cl
  line : List Nat
def clC (c : Cl) : List Value := [.bool c.aw, .bool c.fr, .int .i64 c.de]
def clsC (l : List Cl) : List Value := (l.map clC).flatten
def lineV (l : List Nat) : List Value := l.map fun (c : Nat) => Value.int .i64 (c : Int)
theorem clC_length (c : Cl) : (clC c).length = 3 := rfl
theorem clC_one (c : Cl) : ∀ v ∈ clC c, v.oneCell' = true := by
  intro v hv
  simp [clC] at hv
  rcases hv with rfl | rfl | rfl <;> rfl
theorem clsC_cons (c : Cl) (l : List Cl) : clsC (c :: l) = clC c ++ clsC l := rfl
theorem clsC_append (l m : List Cl) : clsC (l ++ m) = clsC l ++ clsC m := by simp [clsC]
theorem clsC_length : ∀ (l : List Cl), (clsC l).length = l.length * 3
  | [] => rfl
  | c :: l => by
    rw [clsC_cons, List.length_append, clC_length, clsC_length l]
    simp
    omega
theorem clsC_at : ∀ {l : List Cl} {k : Nat} {c : Cl}, l[k]? = some c → ∀ {q : Nat}, q < 3 → (clsC l)[k * 3 + q]? = (clC c)[q]?
  | x :: l, 0, c, hk, q, hq => by
    simp at hk
    subst hk
    rw [clsC_cons, Nat.zero_mul, Nat.zero_add, List.getElem?_append_left (by rw [clC_length]; exact hq)]
  | x :: l, k + 1, c, hk, q, hq => by
    rw [List.getElem?_cons_succ] at hk
    rw [clsC_cons, List.getElem?_append_right (by rw [clC_length]; omega), clC_length, show (k + 1) * 3 + q - 3 = k * 3 + q by omega]
    exact clsC_at hk hq
theorem clsC_take (l : List Cl) (k : Nat) (hk : k ≤ l.length) : (clsC l).take (k * 3) = clsC (l.take k) := by
  have e : clsC l = clsC (l.take k) ++ clsC (l.drop k) := by rw [← clsC_append, List.take_append_drop]
  have hl : (clsC (l.take k)).length = k * 3 := by rw [clsC_length, List.length_take, Nat.min_eq_left hk]
  rw [e, List.take_left' hl]
theorem clsC_drop (l : List Cl) (k : Nat) (hk : k ≤ l.length) : (clsC l).drop (k * 3) = clsC (l.drop k) := by
  have e : clsC l = clsC (l.take k) ++ clsC (l.drop k) := by rw [← clsC_append, List.take_append_drop]
  have hl : (clsC (l.take k)).length = k * 3 := by rw [clsC_length, List.length_take, Nat.min_eq_left hk]
  rw [e, List.drop_left' hl]
theorem clsC_set {l : List Cl} {k : Nat} (c : Cl) (hk : k < l.length) : clsC (l.set k c) = (clsC l).take (k * 3) ++ (clC c ++ (clsC l).drop (k * 3 + (clC c).length)) := by
  rw [clC_length, clsC_take l k (by omega), show k * 3 + 3 = (k + 1) * 3 by omega, clsC_drop l (k + 1) (by omega), ← clsC_cons, ← clsC_append, List.set_eq_take_append_cons_drop, if_pos hk]
theorem lineV_length (l : List Nat) : (lineV l).length = l.length := by simp [lineV]
theorem lineV_at {l : List Nat} {k c : Nat} (h : l[k]? = some c) : (lineV l)[k]? = some (.int .i64 (c : Int)) := by simp [lineV, h]
theorem lineV_one (l : List Nat) : ∀ v ∈ lineV l, v.oneCell' = true := by
  intro v hv
  simp only [lineV, List.mem_map] at hv
  obtain ⟨c, _, rfl⟩ := hv
  rfl
/-- The object: three blocks. -/
def TnO (w : World) (T C L N m : Nat) (t : Tn) : Prop :=
  (t.l.length = N ∧ t.line.length = m) ∧ Obj1 w T #[.int .i64 t.q, .slice (some ⟨C, 0, none⟩) N N, .slice (some ⟨L, 0, none⟩) m N] 72 ∧ RoomO w C N N 3 (clsC t.l) 74 ∧ RoomO w L m N 1 (lineV t.line) 3
theorem TnO.below {w w' : World} {T C L N m : Nat} {t : Tn} (h : TnO w T C L N m t) (hb : Below w.heap.size w w') : TnO w' T C L N m t := ⟨h.1, h.2.1.below hb, h.2.2.1.below hb, h.2.2.2.below hb⟩
theorem TnO.ne {w : World} {T C L N m : Nat} {t : Tn} (h : TnO w T C L N m t) : C ≠ T ∧ L ≠ T ∧ C ≠ L := ⟨h.2.2.1.neObj h.2.1 (by decide), h.2.2.2.neObj h.2.1 (by decide), h.2.2.1.neRoom h.2.2.2 (by decide)⟩
def okTn (t : Tn) : Prop := (1 ≤ t.l.length ∧ t.l.length ≤ 129) ∧ t.line.Nodup ∧ (∀ c : Nat, c ∈ t.line ↔ ∃ x : Cl, t.l[c]? = some x ∧ x.aw = true) ∧ (1 ≤ t.q ∧ t.q ≤ 1073741824) ∧ (∀ x ∈ t.l, 0 ≤ x.de ∧ x.de ≤ 9216 + t.q ∧ (x.fr = true → x.de ≤ 9216))
theorem okTn.lt {t : Tn} (h : okTn t) {c : Nat} (hc : c ∈ t.line) : c < t.l.length := by
  obtain ⟨x, hx, _⟩ := (h.2.2.1 c).1 hc
  exact (List.getElem?_eq_some_iff.1 hx).1
theorem nodup_len : ∀ (N : Nat) (l : List Nat), l.Nodup → (∀ x ∈ l, x < N) → l.length ≤ N
  | 0, l, _, h => by
    cases l with
    | nil => simp
    | cons x l => exact absurd (h x (by simp)) (by omega)
  | N + 1, l, hn, h => by
    have h1 := nodup_len N (l.erase N) (hn.erase N) (fun x hx => by
      have hx2 := (List.Nodup.mem_erase_iff hn).1 hx
      have := h x hx2.2
      omega)
    by_cases hm : N ∈ l
    · rw [List.length_erase_of_mem hm] at h1
      omega
    · rw [List.erase_of_not_mem hm] at h1
      omega
theorem okTn.len {t : Tn} (h : okTn t) : t.line.length ≤ t.l.length := nodup_len _ _ h.2.1 (fun c hc => h.lt hc)
/-- What may have been written is the turns' three blocks, and new ones. -/
def Upd3 (A B D : Nat) (w w' : World) : Prop := w'.os = w.os ∧ w'.tape = w.tape ∧ w'.output = w.output ∧ w.heap.size ≤ w'.heap.size ∧ ∀ k, k < w.heap.size → k ≠ A → k ≠ B → k ≠ D → w'.heap[k]? = w.heap[k]?
theorem Upd3.refl (A B D : Nat) (w : World) : Upd3 A B D w w := ⟨rfl, rfl, rfl, Nat.le_refl _, fun _ _ _ _ _ => rfl⟩
theorem Upd3.of_below {A B D : Nat} {w w' : World} (h : Below w.heap.size w w') : Upd3 A B D w w' := ⟨h.os, h.tape, h.output, h.size, fun k hk _ _ _ => h.block k hk⟩
theorem Upd3.trans {A B D : Nat} {a b c : World} (h : Upd3 A B D a b) (k : Upd3 A B D b c) : Upd3 A B D a c :=
  ⟨k.1.trans h.1, k.2.1.trans h.2.1, k.2.2.1.trans h.2.2.1, Nat.le_trans h.2.2.2.1 k.2.2.2.1, fun j hj h1 h2 h3 => (k.2.2.2.2 j (Nat.lt_of_lt_of_le hj h.2.2.2.1) h1 h2 h3).trans (h.2.2.2.2 j hj h1 h2 h3)⟩
theorem Upd3.of1 {A B D : Nat} {w w' : World} (h : Upd A w w') : Upd3 A B D w w' := ⟨h.os, h.tape, h.output, h.size, fun k hk h1 _ _ => h.block k hk (by simpa using h1)⟩
theorem Upd3.of2 {A B D : Nat} {w w' : World} (h : Upd B w w') : Upd3 A B D w w' := ⟨h.os, h.tape, h.output, h.size, fun k hk _ h1 _ => h.block k hk (by simpa using h1)⟩
theorem Upd3.of3 {A B D : Nat} {w w' : World} (h : Upd D w w') : Upd3 A B D w w' := ⟨h.os, h.tape, h.output, h.size, fun k hk _ _ h1 => h.block k hk (by simpa using h1)⟩
theorem Upd3.next {A B D : Nat} {w W W' : World} (h : Upd3 A B D w W) (k : Below W.heap.size W W') : Upd3 A B D w W' := h.trans (Upd3.of_below k)
theorem bl_upd3 {w W W' : World} {A B D : Nat} (h : Below w.heap.size w W) (k : Upd3 A B D W W') (hA : w.heap.size ≤ A) (hB : w.heap.size ≤ B) (hD : w.heap.size ≤ D) : Below w.heap.size w W' :=
  ⟨k.1.trans h.os, k.2.1.trans h.tape, k.2.2.1.trans h.output, Nat.le_trans h.size k.2.2.2.1, fun j hj => (k.2.2.2.2 j (Nat.lt_of_lt_of_le hj h.size) (by omega) (by omega) (by omega)).trans (h.block j hj)⟩

def hasB (N : Nat) (c : Int) : Bool := decide (0 ≤ c ∧ c < (N : Int))
theorem has_w (T C L N m : Nat) (t : Tn) (c : Int) (w : World) (h : TnO w T C L N m t) :
    Calls Try.prog 32 #[.pointer (some ⟨T, 0, none⟩), .int .i64 c] w fun e w' => e = .returned (.bool (hasB N c)) ∧ w = w' := by
  have c1 : w.cell? ⟨T, 1, none⟩ = some (.slice (some ⟨C, 0, none⟩) N N) := h.2.1.cell 1
  clear h
  by_cases h0 : 0 ≤ c
  · by_cases h1 : c < (N : Int)
    · have hd : hasB N c = true := decide_eq_true ⟨h0, h1⟩
      have HD := Lib.hid hd
      clear hd
      go_enter Try.func32, Try.ntmps32
      go_wp2
      go_ret
      exact ⟨by rw [HD.out]; rfl, rfl⟩
    · have hd : hasB N c = false := decide_eq_false (by omega)
      have HD := Lib.hid hd
      clear hd
      go_enter Try.func32, Try.ntmps32
      go_wp2
      go_ret
      exact ⟨by rw [HD.out]; rfl, rfl⟩
  · have hd : hasB N c = false := decide_eq_false (by omega)
    have HD := Lib.hid hd
    clear hd
    go_enter Try.func32, Try.ntmps32
    go_wp2
    go_ret
    exact ⟨by rw [HD.out]; rfl, rfl⟩
theorem TnO.cl {w : World} {T C L N m : Nat} {t : Tn} (h : TnO w T C L N m t) {k : Nat} {x : Cl} (hx : t.l[k]? = some x) : w.cell? ⟨C, k * 3, none⟩ = some (.bool x.aw) ∧ w.cell? ⟨C, k * 3 + 1, none⟩ = some (.bool x.fr) ∧ w.cell? ⟨C, k * 3 + 2, none⟩ = some (.int .i64 x.de) :=
  ⟨h.2.2.1.cell (by have := clsC_at hx (q := 0) (by omega); rw [Nat.add_zero] at this; exact this), h.2.2.1.cell (clsC_at hx (q := 1) (by omega)), h.2.2.1.cell (clsC_at hx (q := 2) (by omega))⟩
/-- A class's deficit. -/
def deOf (t : Tn) (c : Int) : Int := if 0 ≤ c ∧ c < (t.l.length : Int) then (match t.l[c.toNat]? with | some x => x.de | none => 0) else 0
theorem deficit_w (T C L N m : Nat) (t : Tn) (hN : N ≤ 129) (c : Int) (w : World) (h : TnO w T C L N m t) :
    Calls Try.prog 23 #[.pointer (some ⟨T, 0, none⟩), .int .i64 c] w fun e w' => e = .returned (.int .i64 (deOf t c)) ∧ w = w' := by
  have hl := h.1.1
  have H := Lib.hid h
  by_cases hh : 0 ≤ c ∧ c < (N : Int)
  · obtain ⟨k, rfl⟩ := Int.eq_ofNat_of_zero_le hh.1
    have hd : hasB N (k : Int) = true := decide_eq_true hh
    obtain ⟨x, hx⟩ : ∃ x, t.l[k]? = some x := ⟨_, List.getElem?_eq_getElem (by omega)⟩
    have hde : deOf t (k : Int) = x.de := by unfold deOf; rw [hl, if_pos hh]; simp [hx]
    have c1 : w.cell? ⟨T, 1, none⟩ = some (.slice (some ⟨C, 0, none⟩) N N) := h.2.1.cell 1
    have c2 := (h.cl hx).2.2
    have k0 : (0 : Int) ≤ (k : Int) := hh.1
    have k1 : (k : Int) < (N : Int) := hh.2
    have HD := Lib.hid hd
    have HE := Lib.hid hde
    clear h hd hde hx hl hh
    go_enter Try.func23, Try.ntmps23
    go_wp2_with fail
    refine (has_w T C L N m t k _ H.out).mono ?_
    rintro e w' ⟨rfl, rfl⟩
    rw [HD.out]
    go_wp2
    go_ret
    exact ⟨by rw [HE.out]; rfl, rfl⟩
  · have hd : hasB N c = false := decide_eq_false hh
    have hde : deOf t c = 0 := by unfold deOf; rw [hl, if_neg hh]
    have HD := Lib.hid hd
    have HE := Lib.hid hde
    clear h hd hde hl hh
    go_enter Try.func23, Try.ntmps23
    go_wp2_with fail
    refine (has_w T C L N m t c _ H.out).mono ?_
    rintro e w' ⟨rfl, rfl⟩
    rw [HD.out]
    go_wp2
    go_ret
    exact ⟨by rw [HE.out]; rfl, rfl⟩

section
variable {P : Program} {ops : Array Oper} {rest : List Oper} {o : Oper} {a : Act} {Q : Exit → Act → World → Prop} {W : World}
theorem list_fits (hgd : o.guard = none) (s x : Operand) (t e : TypeId) (size : Nat)
    (ho : o.op = .call { callee := .builtin .append, args := #[s, x], argTypes := #[t, t] }) (ht : P.underlying t = some (.slice e)) (hinfo : (P.info? e).map (·.size) = some size)
    (g n cap : Nat) (xs : List Value) (ad : Addr) (m c : Nat) (news : List Value) (hs : a.eval s = .slice (some ⟨g, 0, none⟩) n cap) (hx : a.eval x = .slice (some ad) m c) (HO : W.ownsRow g e size (.slice (some ⟨g, 0, none⟩) n cap) n xs) (hl : news.length = m * size)
    (HR : ∀ j u, news[j]? = some u → W.cell? (ad.add j) = some u) (h1 : ∀ u ∈ news, u.oneCell' = true) (hroom : n + m ≤ cap)
    (h : ∀ w1, w1.ownsRow g e size (.slice (some ⟨g, 0, none⟩) (n + m) cap) (n + m) (xs ++ news) → W.grownBy w1 (some g) → wpList P ops Q rest (a.put o.dst (.slice (some ⟨g, 0, none⟩) (n + m) cap)) w1) : wpList P ops Q (o :: rest) a W :=
  wpList_plain hgd fun K hK => wp_fits s x t e size ho ht hinfo g n cap xs ad m c news hs hx HO hl HR h1 hroom (fun w1 h2 h3 => hK _ _ (h w1 h2 h3))
end
/-- Behind a waking. -/
def tnWake (t : Tn) (c : Nat) : Tn := ⟨t.q, t.l.set c ⟨true, true, 0⟩, t.line ++ [c]⟩
set_option maxRecDepth 100000 in
set_option maxHeartbeats 2000000 in
theorem wakeYes_w (T C L N m : Nat) (t : Tn) (hok : okTn t) (c : Nat) (x : Cl) (hx : t.l[c]? = some x) (haw : x.aw = false) (w : World) (h : TnO w T C L N m t) :
    Calls Try.prog 13 #[.pointer (some ⟨T, 0, none⟩), .int .i64 c] w fun e w' => e = .returned (.bool true) ∧ TnO w' T C L N (m + 1) (tnWake t c) ∧ Upd3 T C L w w' := by
  have hcN : c < N := by rw [← h.1.1]; exact (List.getElem?_eq_some_iff.1 hx).1
  have hN129 : N ≤ 129 := by rw [← h.1.1]; exact hok.1.2
  have hmN : m < N := by
    have hnot : c ∉ t.line := fun hc => by
      obtain ⟨y, hy, hya⟩ := (hok.2.2.1 c).1 hc
      rw [hx] at hy
      cases hy
      rw [haw] at hya
      cases hya
    have := nodup_len N (c :: t.line) (List.nodup_cons.2 ⟨hnot, hok.2.1⟩) (fun y hy => by
      rcases List.mem_cons.1 hy with h' | h'
      · omega
      · rw [← h.1.1]; exact hok.lt h')
    rw [List.length_cons, h.1.2] at this
    omega
  have c1 : w.cell? ⟨T, 1, none⟩ = some (.slice (some ⟨C, 0, none⟩) N N) := h.2.1.cell 1
  have r0 : w.cell? ⟨C, c * 3, none⟩ = some (.bool false) := by rw [← haw]; exact (h.cl hx).1
  have k0 : (0 : Int) ≤ (c : Int) := Int.natCast_nonneg c
  have k1 : (c : Int) < (N : Int) := by omega
  have HD := Lib.hid (show hasB N (c : Int) = true from decide_eq_true ⟨k0, k1⟩)
  have H := Lib.hid h
  have HNE := Lib.hid h.ne
  obtain ⟨m1, hm1⟩ : ∃ m1, m1 = m + 1 := ⟨_, rfl⟩
  rw [← hm1]
  have HM1 := Lib.hid hm1
  clear h hx haw hm1
  go_enter Try.func13, Try.ntmps13
  go_wp2_with fail
  refine (has_w T C L N m t c _ H.out).mono ?_
  rintro e w' ⟨rfl, rfl⟩
  rw [HD.out]
  go_wp2_with (first
    | (refine store_rowAt rfl 74 (.tmp 25) (.tmp 24) rfl C N N 3 (c * 3) (clsC t.l) 74 H.out.2.2.1 (clC ⟨true, true, 0⟩) (by rw [clC_length]; omega) rfl rfl rfl (clC_one _) ?_; intro w2 hr2 hu2; have HR2 := Lib.hid hr2; have HU2 := Lib.hid hu2; have HT2 := Lib.hid (H.out.2.1.of_grown hu2 (by have := HNE.out; simp; omega)); have HL2 := Lib.hid (H.out.2.2.2.grown hu2 (by have := HNE.out; simp; omega)); clear hr2 hu2; have c2 : w2.cell? ⟨T, 2, none⟩ = some (.slice (some ⟨L, 0, none⟩) m N) := HT2.out.cell 2; have HLA := Lib.hid ((HL2.out.below (bl_alloc (Below.refl _ _) (.cells #[.int .i64 (c : Int)] 3))).own (by omega)))
    | (at_builtin; refine list_fits rfl (.tmp 30) (.tmp 32) 32 3 1 rfl Try.underlying32 rfl L m N (lineV t.line) ⟨w2.heap.size, 0, none⟩ 1 1 [.int .i64 (c : Int)] rfl rfl HLA.out rfl (obj_cells (Obj1.new w2 #[.int .i64 (c : Int)] 3) (fun j v h => h)) (by simp [Value.oneCell']) (by omega) ?_; intro w3 ho3 hg3; have HL3 := Lib.hid (RoomO.of ho3); have HT3 := Lib.hid ((HT2.out.alloc (.cells #[.int .i64 (c : Int)] 3)).of_grown hg3 (by have := HNE.out; simp; omega)); have HC3 := Lib.hid ((HR2.out.below (bl_alloc (Below.refl _ _) (.cells #[.int .i64 (c : Int)] 3))).grown hg3 (by have := HNE.out; simp; omega)); have HU3 := Lib.hid (show Upd3 T C L w w3 from ((Upd3.of2 HU2.out).next (bl_alloc (Below.refl _ _) _)).trans (Upd3.of3 hg3)); clear ho3 hg3 c2; rw [← HM1.out]; have c3 : w3.cell? ⟨T, 2, none⟩ = some (.slice (some ⟨L, 0, none⟩) m N) := HT3.out.cell 2; have f3 : w3.frozen? ⟨T, 2, none⟩ = false := HT3.out.free 2))
  go_ret
  have hu := (Upd.refl T w3).set 2 (.slice (some ⟨L, 0, none⟩) m1 N)
  refine ⟨rfl, ⟨⟨?_, ?_⟩, HT3.out.set 2 _, ?_, ?_⟩, HU3.out.trans (Upd3.of1 hu)⟩
  · show (t.l.set c _).length = N
    rw [List.length_set]
    exact H.out.1.1
  · show (t.line ++ [c]).length = m1
    rw [List.length_append, H.out.1.2, HM1.out]
    rfl
  · show RoomO _ C N N 3 (clsC (t.l.set c ⟨true, true, 0⟩)) _
    rw [clsC_set _ (by rw [H.out.1.1]; exact hcN)]
    exact HC3.out.grown hu (by have := HNE.out; simp; omega)
  · show RoomO _ L m1 N 1 (lineV (t.line ++ [c])) _
    have hL : RoomO w3 L m1 N 1 (lineV (t.line ++ [c])) 3 := by
      rw [HM1.out, show lineV (t.line ++ [c]) = lineV t.line ++ [.int .i64 (c : Int)] by simp [lineV]]
      exact HL3.out
    exact hL.grown hu (by have := HNE.out; simp; omega)
theorem wakeNo_w (T C L N m : Nat) (t : Tn) (c : Int) (hno : ¬ (0 ≤ c ∧ c < (N : Int)) ∨ ∃ x, t.l[c.toNat]? = some x ∧ x.aw = true) (hN129 : N ≤ 129) (w : World) (h : TnO w T C L N m t) :
    Calls Try.prog 13 #[.pointer (some ⟨T, 0, none⟩), .int .i64 c] w fun e w' => e = .returned (.bool false) ∧ w = w' := by
  have H := Lib.hid h
  by_cases hh : 0 ≤ c ∧ c < (N : Int)
  · obtain ⟨k, rfl⟩ := Int.eq_ofNat_of_zero_le hh.1
    obtain ⟨x, hx, haw⟩ : ∃ x, t.l[k]? = some x ∧ x.aw = true := by
      rcases hno with h' | h'
      · exact absurd hh h'
      · simpa using h'
    have HD := Lib.hid (show hasB N (k : Int) = true from decide_eq_true hh)
    have c1 : w.cell? ⟨T, 1, none⟩ = some (.slice (some ⟨C, 0, none⟩) N N) := h.2.1.cell 1
    have r0 : w.cell? ⟨C, k * 3, none⟩ = some (.bool true) := by rw [← haw]; exact (h.cl hx).1
    have k0 : (0 : Int) ≤ (k : Int) := hh.1
    have k1 : (k : Int) < (N : Int) := hh.2
    clear h hno hx haw hh
    go_enter Try.func13, Try.ntmps13
    go_wp2_with fail
    refine (has_w T C L N m t k _ H.out).mono ?_
    rintro e w' ⟨rfl, rfl⟩
    rw [HD.out]
    go_wp2
    go_ret
    exact ⟨rfl, rfl⟩
  · have HD := Lib.hid (show hasB N c = false from decide_eq_false hh)
    clear h hno hh
    go_enter Try.func13, Try.ntmps13
    go_wp2_with fail
    refine (has_w T C L N m t c _ H.out).mono ?_
    rintro e w' ⟨rfl, rfl⟩
    rw [HD.out]
    go_wp2
    go_ret
    exact ⟨rfl, rfl⟩
end Go.Proofs.Ytlnfenjoagkpdaa
