/- A flow's bytes: frame.Key. -/
import Derived.Test.YtgbdkleckmilkaaSipD
import Derived.Lib.SliceRun
namespace Go.Proofs.Ytgbdkleckmilkaa
open Go.RowKit
set_option linter.unusedVariables false
set_option linter.unusedSimpArgs false

theorem own_ne {w : World} {O : Nat} {cs : Array Value} {t e : TypeId} {B sz : Nat} {v : Value} {n : Nat} {xs : List Value} (hO : Obj1 w O cs t) (h : w.ownsRow B e sz v n xs) (ht : t ≠ e) : some O ≠ v.ownBlock := by
  intro hv
  rcases h.2 with ⟨rfl, _⟩ | ⟨g, cap, cur, rfl, _, hg, _⟩
  · simp [Value.ownBlock] at hv
  · simp only [Value.ownBlock, Option.some.injEq] at hv
    subst hv
    unfold Obj1 at hO
    rw [hO] at hg
    cases hg
    exact ht rfl
/-- An Out that holds these bytes, in blocks from B on. -/
def OutB (B : Nat) (w : World) (O : Nat) (l : List Int) : Prop :=
  ∃ v, Obj1 w O #[v] 82 ∧ w.ownsRow B 5 1 v l.length (bys l)
theorem OutB.below {B : Nat} {w W : World} {O : Nat} {l : List Int} (h : OutB B w O l) (hb : Below w.heap.size w W) : OutB B W O l :=
  let ⟨v, h1, h2⟩ := h; ⟨v, h1.below hb, own_below h2 hb⟩
theorem bl_setB {B : Nat} {w W : World} (h : Below B w W) (O j : Nat) (hO : B ≤ O) (v : Value) : Below B w (W.setCell ⟨O, j, none⟩ v) :=
  ⟨h.os, h.tape, h.output, by simp [World.setCell]; exact h.size, fun k hk => (Below.heap_setCell _ _ _ _ (fun e => by subst e; exact absurd hk (Nat.not_lt.2 hO))).trans (h.block k hk)⟩
theorem bl_grownB {B : Nat} {W w1 : World} {e : TypeId} {sz : Nat} {v : Value} {n : Nat} {xs : List Value} (HO : W.ownsRow B e sz v n xs) (hg : W.grownBy w1 v.ownBlock) (hB : B ≤ W.heap.size) : Below B W w1 :=
  (Below.refl B W).grown hg hB (fun k hk => (HO.lt k hk).1)

set_option maxHeartbeats 1000000 in
theorem raw_w (B O : Nat) (A : Option Addr) (m c : Nat) (l news : List Int) (w : World) (hBO : B ≤ O) (hBw : B ≤ w.heap.size) (h : OutB B w O l) (hs : SlI .u8 w A m c news) (hm : l.length + m ≤ 1000000000) :
    Calls Try.prog 46 #[.pointer (some ⟨O, 0, none⟩), .slice A m c] w fun e w' => e = .returned (.tuple #[]) ∧ OutB B w' O (l ++ news) ∧ Below B w w' := by
  obtain ⟨v, ho, hown⟩ := h
  have c0 : w.cell? ⟨O, 0, none⟩ = some v := ho.cell 0
  have hne := own_ne ho hown (by decide)
  have hml : news.length = m := hs.1
  have hbnd : (l.length + m) * 1 ≤ 140737488355328 := by omega
  have HO := Lib.hid ho
  have HOWN := Lib.hid hown
  have HS := Lib.hid hs
  have HNE := Lib.hid hne
  have HM := Lib.hid hml
  clear ho hown hs hne hml
  go_enter Try.func46, Try.ntmps46
  go_wp2_with (at_builtin; refine app_list B rfl (.tmp 10) (.tmp 11) 23 5 (.int .u8 0) 1 1 rfl Try.underlying23 (by kernel_rfl) rfl (by omega) (by omega) _ l.length _ A m c (bys news) rfl rfl HOWN.out (by rw [bys_length, HM.out]; omega) HS.out.2.2.2.1 (bys_one news) hbnd hBw ?_; intro v1 w6 hown6 hg6; obtain ⟨A1, c1, rfl, _⟩ := own_Rd hown6; have ho6 := Obj1.of_grown HO.out hg6 HNE.out; have c6 : w6.cell? ⟨O, 0, none⟩ = some v := ho6.cell 0; have f6 : w6.frozen? ⟨O, 0, none⟩ = false := ho6.free 0; have HO6 := Lib.hid ho6; have HOWN6 := Lib.hid hown6; have HG6 := Lib.hid hg6; clear ho6 hown6 hg6)
  go_end0
  refine ⟨rfl, ⟨_, HO6.out.set 0 _, ?_⟩, bl_setB (bl_grownB HOWN.out HG6.out hBw) O 0 hBO _⟩
  have h := HOWN6.out
  have hne1 := own_ne HO6.out h (by decide)
  rw [bys_append, List.length_append, HM.out]
  exact h.kept (row := some O) ⟨rfl, rfl, rfl, by simp [World.setCell], fun k _ hk => Below.heap_setCell _ _ _ _ (fun e => hk (by rw [e]))⟩ (.inr fun e => hne1 e.symm)

theorem lit_u8 {x : Int} (h : 0 ≤ x ∧ x ≤ 255) : (Lit.int .u8 x).wf = true := by
  simp only [Lit.wf, IntKind.min, IntKind.max, IntKind.signed, IntKind.bits, Bool.and_eq_true, decide_eq_true_eq]
  simp
  omega
/-- A new block of bytes, as a slice. -/
theorem SlI.new (w : World) (l : List Int) (t : TypeId) (hl : l.length ≤ 9223372036854775807) (hb : ∀ x ∈ l, 0 ≤ x ∧ x ≤ 255) : SlI .u8 (w.alloc (.cells (bys l).toArray t)) (some ⟨w.heap.size, 0, none⟩) l.length l.length l :=
  ⟨rfl, Nat.le_refl _, hl, fun j v hj => ⟨_, rfl, by
    have hb : (⟨w.heap.size, 0, none⟩ : Addr).add j = ⟨w.heap.size, j, none⟩ := by unfold Addr.add; split <;> simp_all
    rw [hb, new_cell]
    simpa [bys] using hj⟩, fun x hx => lit_u8 (hb x hx)⟩

set_option maxHeartbeats 1000000 in
theorem u8_w (B O : Nat) (x : Int) (hx : 0 ≤ x ∧ x ≤ 255) (l : List Int) (w : World) (hBO : B ≤ O) (hBw : B ≤ w.heap.size) (h : OutB B w O l) (hm : l.length + 1 ≤ 1000000000) :
    Calls Try.prog 45 #[.pointer (some ⟨O, 0, none⟩), .int .u8 x] w fun e w' => e = .returned (.tuple #[]) ∧ OutB B w' O (l ++ [x]) ∧ Below B w w' := by
  have H := Lib.hid h
  clear h
  have hsl := SlI.new w [x] 5 (by simp) (by simpa using hx)
  have HSL := Lib.hid hsl
  clear hsl
  go_enter Try.func45, Try.ntmps45
  go_wp2_with fail
  refine (raw_w B O (some ⟨w.heap.size, 0, none⟩) 1 1 l [x] _ hBO (by simp; omega) (H.out.below (bl_alloc (Below.refl _ _) _)) HSL.out hm).mono ?_
  rintro e w2 ⟨rfl, ho2, hb2⟩
  have HO2 := Lib.hid ho2
  have HB2 := Lib.hid (((Below.refl B w).alloc hBw (.cells #[.int .u8 x] 5)).trans hb2)
  clear ho2 hb2
  go_wp2
  go_end0
  exact ⟨rfl, HO2.out, HB2.out⟩

set_option maxRecDepth 100000 in
set_option maxHeartbeats 2000000 in
theorem number2_w (B O : Nat) (x : Int) (hx : 0 ≤ x ∧ x ≤ 65535) (l : List Int) (w : World) (hBO : B ≤ O) (hBw : B ≤ w.heap.size) (h : OutB B w O l) (hm : l.length + 2 ≤ 1000000000) :
    Calls Try.prog 49 #[.pointer (some ⟨O, 0, none⟩), .int .u64 x, .int .i64 2] w fun e w' => e = .returned (.tuple #[]) ∧ OutB B w' O (l ++ [x / 256, x % 256]) ∧ Below B w w' := by
  have H := Lib.hid h
  clear h
  have b1 : IntKind.u8.wrap (x / 256) = x / 256 := by simp [IntKind.wrap, IntKind.bits, IntKind.signed]; omega
  have b2 : IntKind.u8.wrap x = x % 256 := by simp [IntKind.wrap, IntKind.bits, IntKind.signed]
  go_enter Try.func49, Try.ntmps49
  go_wp2_with fail
  go_loopw [6, 7] (fun v i wr => ∃ k : Nat, k ≤ 2 ∧ i = .int .i64 (1 - (k : Int)) ∧ wr.ownsRow w.heap.size 5 1 v k (bys ([x / 256, x % 256].take k)) ∧ Below w.heap.size w wr) (fun _ i _ => (intOf i + 1).toNat)
  case atStart => exact ⟨0, by omega, rfl, World.ownsRow_nil _ _ _ _, Below.refl _ _⟩
  case round =>
    obtain ⟨k, hk, rfl, hown, hbel⟩ := hrel
    have HOWN := Lib.hid hown
    have HB := Lib.hid hbel
    clear hown hbel
    obtain rfl | rfl | rfl : k = 0 ∨ k = 1 ∨ k = 2 := by omega
    · go_wp2_with (at_builtin; refine app_list w.heap.size rfl (.tmp 14) (.tmp 20) 23 5 (.int .u8 0) 1 1 rfl Try.underlying23 (by kernel_rfl) rfl (by omega) (by omega) _ 0 _ (some ⟨_, 0, none⟩) 1 1 (bys [x / 256]) rfl rfl (HOWN.out.alloc _) rfl (SlI.new _ [x / 256] 5 (by simp) (by simp; omega)).2.2.2.1 (bys_one _) (by omega) (by have := HB.out.size; simp; omega) ?_; intro v1 w6 hown6 hg6)
      go_roundw
      case rel => exact ⟨1, by omega, by go_num, hown6, bl_grown (bl_alloc HB.out _) (HOWN.out.alloc _) hg6 (Nat.le_refl _)⟩
      case measure => simp [intOf]
    · go_wp2_with (at_builtin; refine app_list w.heap.size rfl (.tmp 14) (.tmp 20) 23 5 (.int .u8 0) 1 1 rfl Try.underlying23 (by kernel_rfl) rfl (by omega) (by omega) _ 1 _ (some ⟨_, 0, none⟩) 1 1 (bys [x % 256]) rfl rfl (HOWN.out.alloc _) rfl (SlI.new _ [x % 256] 5 (by simp) (by simp; omega)).2.2.2.1 (bys_one _) (by omega) (by have := HB.out.size; simp; omega) ?_; intro v1 w6 hown6 hg6)
      go_roundw
      case rel => exact ⟨2, by omega, by go_num, hown6, bl_grown (bl_alloc HB.out _) (HOWN.out.alloc _) hg6 (Nat.le_refl _)⟩
      case measure => simp [intOf]
    · obtain ⟨A1, c1, rfl, hr⟩ := own_Rd HOWN.out
      have hcap : 2 ≤ c1 ∧ c1 ≤ 9223372036854775807 := by
        rcases HOWN.out.2 with ⟨e, h0⟩ | ⟨g, cap, cur, e, _, _, h1, h2, _⟩
        · cases e
        · cases e; unfold maxLen at h2; omega
      have HR := Lib.hid hr
      clear hr
      go_wp2_with fail
      refine (raw_w B O A1 2 c1 l [x / 256, x % 256] _ hBO (by have := HB.out.size; omega) (H.out.below HB.out) ⟨rfl, hcap.1, hcap.2, HR.out, fun y hy => lit_u8 (by simp at hy; omega)⟩ hm).mono ?_
      rintro e w2 ⟨rfl, ho2, hb2⟩
      have HO2 := Lib.hid ho2
      have HB2 := Lib.hid (((HB.out.mono hBw)).trans hb2)
      clear ho2 hb2
      go_wp2
      go_end0
      exact ⟨rfl, HO2.out, HB2.out⟩

set_option maxHeartbeats 1000000 in
theorem u16_w (B O : Nat) (x : Int) (hx : 0 ≤ x ∧ x ≤ 65535) (l : List Int) (w : World) (hBO : B ≤ O) (hBw : B ≤ w.heap.size) (h : OutB B w O l) (hm : l.length + 2 ≤ 1000000000) :
    Calls Try.prog 47 #[.pointer (some ⟨O, 0, none⟩), .int .u16 x] w fun e w' => e = .returned (.tuple #[]) ∧ OutB B w' O (l ++ [x / 256, x % 256]) ∧ Below B w w' := by
  have H := Lib.hid h
  have b1 : IntKind.u64.wrap x = x := by rw [wrap_u64]; omega
  clear h
  go_enter Try.func47, Try.ntmps47
  go_wp2_with fail
  refine (number2_w B O x hx l _ hBO hBw H.out hm).mono ?_
  rintro e w2 ⟨rfl, ho2, hb2⟩
  have HO2 := Lib.hid ho2
  have HB2 := Lib.hid hb2
  clear ho2 hb2
  go_wp2
  go_end0
  exact ⟨rfl, HO2.out, HB2.out⟩

set_option maxHeartbeats 1000000 in
theorem clone_w (ad : Addr) (n c : Nat) (l : List Int) (w : World) (h : SlI .u8 w (some ad) n c l) (hn : n ≤ 1000000000) :
    Calls Try.prog 50 #[.slice (some ad) n c] w fun e w' => ∃ A' c', e = .returned (.slice A' n c') ∧ SlI .u8 w' A' n c' l ∧ Below w.heap.size w w' := by
  have hl : l.length = n := h.1
  have hz := World.ownsRow_lit (base := w.heap.size) (e := 5) (size := 1) w #[] 0 (Nat.le_refl _) (by simp [maxLen]) rfl
  have hb := bl_alloc (Below.refl w.heap.size w) (.cells #[] 5)
  have HZ := Lib.hid hz
  have HB := Lib.hid hb
  have HS := Lib.hid (h.below hb)
  have HL := Lib.hid hl
  have hbnd : (0 + n) * 1 ≤ 140737488355328 := by omega
  have hnil : ∀ W : World, (binOp .eql 23 (.slice (some ad) n c) (.slice none 0 0)).run Try.prog W = .ok (.bool false) W := fun W => Lib.run_eql_slice_nil W _ 5 (some ad) n c 0 0 Try.underlying23
  clear h hz hb hl
  go_enter Try.func50, Try.ntmps50
  go_wp2_with (at_builtin; refine app_list w.heap.size rfl (.tmp 5) (.tmp 6) 23 5 (.int .u8 0) 1 1 rfl Try.underlying23 (by kernel_rfl) rfl (by omega) (by omega) _ 0 [] (some ad) n c (bys l) rfl rfl HZ.out (by rw [bys_length, HL.out]; omega) HS.out.2.2.2.1 (bys_one l) hbnd (by simp) ?_; intro v1 w6 hown6 hg6; obtain ⟨A1, c1, rfl, hr⟩ := own_Rd hown6; have HR := Lib.hid hr; have HO := Lib.hid hown6; have HG := Lib.hid hg6; clear hr hown6 hg6)
  go_ret
  have hcap : 0 + n ≤ c1 ∧ c1 ≤ 9223372036854775807 := by
    rcases HO.out.2 with ⟨e, h0⟩ | ⟨g, cap, cur, e, _, _, h1, h2, _⟩
    · simp only [Value.slice.injEq] at e; omega
    · simp only [Value.slice.injEq] at e; unfold maxLen at h2; omega
  exact ⟨A1, c1, by simp, ⟨HL.out, by omega, hcap.2, HR.out, HS.out.2.2.2.2⟩, bl_grown HB.out HZ.out HG.out (Nat.le_refl _)⟩

set_option maxHeartbeats 1000000 in
theorem bytes_w (B O : Nat) (l : List Int) (hl : 0 < l.length) (hlb : l.length ≤ 1000000000) (hb : ∀ x ∈ l, 0 ≤ x ∧ x ≤ 255) (w : World) (h : OutB B w O l) :
    Calls Try.prog 48 #[.pointer (some ⟨O, 0, none⟩)] w fun e w' => ∃ A' c', e = .returned (.slice A' l.length c') ∧ SlI .u8 w' A' l.length c' l ∧ Below w.heap.size w w' := by
  obtain ⟨v, ho, hown⟩ := h
  obtain ⟨A1, c1, rfl, hr⟩ := own_Rd hown
  have hcap : l.length ≤ c1 ∧ c1 ≤ 9223372036854775807 := by
    rcases hown.2 with ⟨e, h0⟩ | ⟨g, cap, cur, e, _, _, h1, h2, _⟩
    · omega
    · cases e; unfold maxLen at h2; omega
  obtain ⟨ad, rfl, _⟩ := hr 0 _ (bys_at hl)
  have hs : SlI .u8 w (some ad) l.length c1 l := ⟨rfl, hcap.1, hcap.2, hr, fun x hx => lit_u8 (hb x hx)⟩
  have HS := Lib.hid hs
  have c0 : w.cell? ⟨O, 0, none⟩ = some (.slice (some ad) l.length c1) := ho.cell 0
  clear hr hs hown ho
  go_enter Try.func48, Try.ntmps48
  go_wp2_with fail
  refine (clone_w ad l.length c1 l _ HS.out hlb).mono ?_
  rintro e w2 ⟨A', c', rfl, hsl, hb2⟩
  have HSL := Lib.hid hsl
  have HB2 := Lib.hid hb2
  clear hsl hb2
  go_wp2
  go_ret
  exact ⟨_, _, rfl, HSL.out, HB2.out⟩

/-- A flow. -/
structure Fl where
  v6 : Bool
  proto : Int
  src : List Int
  dst : List Int
  sp : Int
  dp : Int
def okFl (f : Fl) : Prop := (0 ≤ f.proto ∧ f.proto ≤ 255) ∧ f.src.length = 16 ∧ (∀ x ∈ f.src, 0 ≤ x ∧ x ≤ 255) ∧ f.dst.length = 16 ∧ (∀ x ∈ f.dst, 0 ≤ x ∧ x ≤ 255) ∧ (0 ≤ f.sp ∧ f.sp ≤ 65535) ∧ (0 ≤ f.dp ∧ f.dp ≤ 65535)
/-- A flow's cells. -/
def flC (f : Fl) : List Value := [.bool f.v6, .int .u8 f.proto] ++ bys f.src ++ bys f.dst ++ [.int .u16 f.sp, .int .u16 f.dp]
/-- A flow's bytes. -/
def flN (f : Fl) : Nat := if f.v6 = true then 16 else 4
def keyB (f : Fl) : List Int := [if f.v6 = true then 6 else 4] ++ [f.proto] ++ f.src.take (flN f) ++ f.dst.take (flN f) ++ [f.sp / 256, f.sp % 256] ++ [f.dp / 256, f.dp % 256]
theorem flC_length {f : Fl} (h : okFl f) : (flC f).length = 36 := by
  obtain ⟨_, h1, _, h2, _⟩ := h
  simp [flC, bys_length, h1, h2]
theorem keyB_length {f : Fl} (h : okFl f) : (keyB f).length = 6 + 2 * flN f := by
  obtain ⟨_, h1, _, h2, _⟩ := h
  have h4 : flN f = 16 ∨ flN f = 4 := by unfold flN; split <;> simp
  simp [keyB, h1, h2]
  omega
theorem keyB_byte {f : Fl} (h : okFl f) : ∀ x ∈ keyB f, 0 ≤ x ∧ x ≤ 255 := by
  obtain ⟨h0, h1, h2, h3, h4, h5, h6⟩ := h
  intro x hx
  simp only [keyB, List.mem_append, List.mem_cons, List.not_mem_nil, or_false] at hx
  rcases hx with ((((rfl | rfl) | hx) | hx) | (rfl | rfl)) | (rfl | rfl)
  · split <;> omega
  · exact h0
  · exact h2 x (List.mem_of_mem_take hx)
  · exact h4 x (List.mem_of_mem_take hx)
  all_goals omega
theorem flC_at {f : Fl} (h : okFl f) : (flC f)[0]? = some (.bool f.v6) ∧ (flC f)[1]? = some (.int .u8 f.proto) ∧ (flC f)[34]? = some (.int .u16 f.sp) ∧ (flC f)[35]? = some (.int .u16 f.dp) := by
  obtain ⟨_, h1, _, h2, _⟩ := h
  have e1 := bys_length f.src
  have e2 := bys_length f.dst
  rw [h1] at e1
  rw [h2] at e2
  refine ⟨rfl, rfl, ?_, ?_⟩
  · unfold flC
    rw [List.getElem?_append_right (by simp [e1, e2])]
    simp [e1, e2]
  · unfold flC
    rw [List.getElem?_append_right (by simp [e1, e2])]
    simp [e1, e2]
/-- A part of a block's cells that are bytes, as a slice. -/
theorem SlI.part {w : World} {K : Nat} {t : TypeId} {C : Array Value} {l : List Int} (h : Obj1 w K C t) (o : Nat) (hC : ∀ j v, (bys l)[j]? = some v → C[o + j]? = some v) (hb : ∀ x ∈ l, 0 ≤ x ∧ x ≤ 255) (c : Nat) (hc : l.length ≤ c) (hc2 : c ≤ 9223372036854775807) :
    SlI .u8 w (some ⟨K, o, none⟩) l.length c l := by
  refine ⟨rfl, hc, hc2, fun j v hj => ⟨_, rfl, ?_⟩, fun x hx => lit_u8 (hb x hx)⟩
  have hb2 : (⟨K, o, none⟩ : Addr).add j = ⟨K, o + j, none⟩ := by unfold Addr.add; split <;> simp_all
  rw [hb2, h.cell]
  exact hC j v hj
theorem fl_src {f : Fl} (h : okFl f) (n : Nat) (hn : n ≤ 16) : ∀ j v, (bys (f.src.take n))[j]? = some v → (flC f).toArray[2 + j]? = some v := by
  obtain ⟨_, h1, _, h2, _⟩ := h
  intro j v hj
  have hj' := (List.getElem?_eq_some_iff.1 hj).1
  rw [bys_length, List.length_take, h1] at hj'
  have e1 := bys_length f.src
  rw [h1] at e1
  have : (flC f)[2 + j]? = (bys f.src)[j]? := by
    unfold flC
    rw [List.getElem?_append_left (by simp [bys_length, h1, h2]; omega), List.getElem?_append_left (by simp [bys_length, h1]; omega), List.getElem?_append_right (by simp)]
    simp
  rw [List.getElem?_toArray, this]
  unfold bys at hj ⊢
  rw [List.map_take, List.getElem?_take] at hj
  split at hj
  · exact hj
  · cases hj
theorem fl_dst {f : Fl} (h : okFl f) (n : Nat) (hn : n ≤ 16) : ∀ j v, (bys (f.dst.take n))[j]? = some v → (flC f).toArray[18 + j]? = some v := by
  obtain ⟨_, h1, _, h2, _⟩ := h
  intro j v hj
  have hj' := (List.getElem?_eq_some_iff.1 hj).1
  rw [bys_length, List.length_take, h2] at hj'
  have e1 := bys_length f.src
  rw [h1] at e1
  have : (flC f)[18 + j]? = (bys f.dst)[j]? := by
    unfold flC
    rw [List.getElem?_append_left (by simp [bys_length, h1, h2]; omega), List.getElem?_append_right (by simp [e1])]
    simp [e1]
  rw [List.getElem?_toArray, this]
  unfold bys at hj ⊢
  rw [List.map_take, List.getElem?_take] at hj
  split at hj
  · exact hj
  · cases hj
end Go.Proofs.Ytgbdkleckmilkaa
