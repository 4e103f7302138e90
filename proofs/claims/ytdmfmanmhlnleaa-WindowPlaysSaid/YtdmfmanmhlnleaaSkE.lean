/- The sketch's Add. -/
import Derived.Test.YtdmfmanmhlnleaaSkD
import Derived.Great.BuildSlice
import Derived.Laws.OwnMore
import Derived.Deep.MidRow
namespace Go.Proofs.Ytdmfmanmhlnleaa
open Go.RowKit
set_option linter.unusedVariables false
set_option linter.unusedSimpArgs false

theorem setCells_mid (p : Nat) (t : TypeId) : ∀ (cs : List Value) (i : Nat) (old : Array Value) (w : World), Obj1 w p old t → i + cs.length ≤ old.size →
    Obj1 (w.setCells p i cs) p ((old.toList.take i ++ (cs ++ old.toList.drop (i + cs.length))).toArray) t ∧ Upd p w (w.setCells p i cs)
  | [], i, old, w, h, hl => by
    refine ⟨?_, Upd.refl _ _⟩
    simp only [World.setCells, List.nil_append, List.length_nil, Nat.add_zero, List.take_append_drop]
    simpa using h
  | v :: cs, i, old, w, h, hl => by
    simp at hl
    have h1 := h.set i v
    have h2 := setCells_mid p t cs (i + 1) (old.setIfInBounds i v) (w.setCell ⟨p, i, none⟩ v) h1 (by simp; omega)
    refine ⟨?_, ((Upd.refl p w).set i v).trans h2.2⟩
    have e : (old.setIfInBounds i v).toList.take (i + 1) ++ (cs ++ (old.setIfInBounds i v).toList.drop (i + 1 + cs.length)) = old.toList.take i ++ (v :: cs ++ old.toList.drop (i + (v :: cs).length)) := by
      have hi : i < old.toList.length := by simp; omega
      have e1 : (old.toList.set i v).take (i + 1) = old.toList.take i ++ [v] := by
        apply List.ext_getElem?
        intro j
        rcases Nat.lt_trichotomy j i with h | h | h
        · rw [List.getElem?_append_left (by simp; omega), List.getElem?_take, List.getElem?_take, if_pos (by omega), if_pos h, List.getElem?_set_ne (by omega)]
        · subst h
          rw [List.getElem?_append_right (by simp; omega), List.getElem?_take, if_pos (by omega), List.getElem?_set_self hi]
          rw [List.length_take, Nat.min_eq_left (Nat.le_of_lt hi), Nat.sub_self]
          rfl
        · rw [List.getElem?_eq_none (by simp; omega), List.getElem?_eq_none (by simp; omega)]
      rw [Array.toList_setIfInBounds, e1, List.drop_set_of_lt (by omega)]
      simp [Nat.add_assoc, Nat.add_comm 1]
    rw [← e]
    exact h2.1

theorem gwanted {P : Program} {o : Oper} {ops : Array Oper} {a : Act} {w : World} {K : Act → World → Prop} {Q : Exit → Act → World → Prop} {E : Prop} (hgd : o.guard = none) (h : Oper.wp P o a w K Q) : if Region.wanted o (yielded ops a.tmps) = true then Oper.wp P o a w K Q else E := by
  have hw : Region.wanted o (yielded ops a.tmps) = true := by simp [Region.wanted, hgd]
  rw [if_pos hw]
  exact h

theorem plus_cntR (a b : Int) : plus a (cnt b) = plus a b := by unfold plus; rw [cnt_cnt]
def skBase (s : Sk) (p : Px) : List Slo := if fnd s.l p < s.l.length then s.l else if s.l.length < s.room then s.l ++ [⟨p, 0, 0⟩] else s.l.set (lst s.l s.l.length) ⟨p, cntAt s.l (lst s.l s.l.length), cntAt s.l (lst s.l s.l.length)⟩
def skAt (s : Sk) (p : Px) : Nat := if fnd s.l p < s.l.length then fnd s.l p else if s.l.length < s.room then s.l.length else lst s.l s.l.length
def addAt (l : List Slo) (k : Nat) (n : Int) : List Slo := match l[k]? with | some x => l.set k { x with c := plus (cnt x.c) n } | none => l
/-- With n counted for a prefix. -/
def skAdd (s : Sk) (p : Px) (n : Int) : Sk := ⟨addAt (skBase s p) (skAt s p) n, s.room, plus (cnt s.total) n⟩
theorem skAdd_eq {s : Sk} {p : Px} {n : Int} {l2 : List Slo} {k : Nat} {x : Slo} (h1 : skBase s p = l2) (h2 : skAt s p = k) (h3 : l2[k]? = some x) : skAdd s p n = ⟨l2.set k { x with c := plus (cnt x.c) n }, s.room, plus (cnt s.total) n⟩ := by
  unfold skAdd addAt
  rw [h1, h2, h3]
theorem SkO.grown {w w' : World} {S L n : Nat} {s : Sk} {row : Option Nat} (h : SkO w S L n s) (hg : w.grownBy w' row) (h1 : some S ≠ row) (h2 : some L ≠ row) : SkO w' S L n s := ⟨h.1, h.2.1.of_grown hg h1, h.2.2.grown hg h2⟩
theorem Upd2.aside {B D R : Nat} {w W W' : World} (h : Upd2 B D w W) (k : Upd R W W') (hR : w.heap.size ≤ R) : Upd2 B D w W' :=
  ⟨k.os.trans h.1, k.tape.trans h.2.1, k.output.trans h.2.2.1, Nat.le_trans h.2.2.2.1 k.size, fun j hj h1 h2 => (k.block j (Nat.lt_of_lt_of_le hj h.2.2.2.1) (by simp; omega)).trans (h.2.2.2.2 j hj h1 h2)⟩
theorem built_slot {p : Px} (hp : okPx p) (c e : Int) : Try.prog.built 32 [(0, .agg (pxC p).toArray), (1, .int .i64 c), (2, .int .i64 e)] = some (sloC ⟨p, c, e⟩).toArray := by
  obtain ⟨v, l⟩ := p
  obtain ⟨a, b, c, d, e, f, g, rfl⟩ := list7 hp.1
  kernel_rfl
theorem built_slot0 {p : Px} (hp : okPx p) : Try.prog.built 32 [(0, .agg (pxC p).toArray)] = some (sloC ⟨p, 0, 0⟩).toArray := by
  obtain ⟨v, l⟩ := p
  obtain ⟨a, b, c, d, e, f, g, rfl⟩ := list7 hp.1
  kernel_rfl
theorem run_slot1 (w : World) {s : Slo} (h : okPx s.p) : (Instr.buildSlice 36 1 #[(0, .agg (sloC s).toArray)]).run Try.prog w = .ok (.slice (some ⟨w.heap.size, 0, none⟩) 1 1) (w.alloc (.cells (sloC s).toArray 32)) := by
  have hinfo : (Try.prog.info? 32).map (fun i => (i.zero, i.size, i.bytes)) = some (some (.agg #[.bool false, .int .u8 0, .int .u8 0, .int .u8 0, .int .u8 0, .int .u8 0, .int .u8 0, .int .u8 0, .int .i64 0, .int .i64 0]), 10, 24) := by kernel_rfl
  obtain ⟨i0, hi, hzz⟩ := Option.map_eq_some_iff.1 hinfo
  simp only [Prod.mk.injEq] at hzz
  obtain ⟨hz0, hz1, hz2⟩ := hzz
  refine run_buildSlice w 36 32 1 _ _ i0 _ Try.underlying36 hi hz0 (by rw [hz1]; omega) (by rw [hz1]; omega) ?_
  rw [hz1]
  obtain ⟨⟨v, l⟩, c, e⟩ := s
  obtain ⟨a, b, c, d, e, f, g, rfl⟩ := list7 h.1
  kernel_rfl
section
variable {P : Program} {ops : Array Oper} {rest : List Oper} {o : Oper} {a : Act} {Q : Exit → Act → World → Prop} {W : World}
/-- append within the room, as a step. -/
theorem wp_fits {K : Act → World → Prop} (s x : Operand) (t e : TypeId) (size : Nat)
    (ho : o.op = .call { callee := .builtin .append, args := #[s, x], argTypes := #[t, t] }) (ht : P.underlying t = some (.slice e)) (hinfo : (P.info? e).map (·.size) = some size)
    (g n cap : Nat) (xs : List Value) (ad : Addr) (m c : Nat) (news : List Value) (hs : a.eval s = .slice (some ⟨g, 0, none⟩) n cap) (hx : a.eval x = .slice (some ad) m c) (HO : W.ownsRow g e size (.slice (some ⟨g, 0, none⟩) n cap) n xs) (hl : news.length = m * size)
    (HR : ∀ j u, news[j]? = some u → W.cell? (ad.add j) = some u) (h1 : ∀ u ∈ news, u.oneCell' = true) (hroom : n + m ≤ cap)
    (h : ∀ w1, w1.ownsRow g e size (.slice (some ⟨g, 0, none⟩) (n + m) cap) (n + m) (xs ++ news) → W.grownBy w1 (some g) → K (a.put o.dst (.slice (some ⟨g, 0, none⟩) (n + m) cap)) w1) : o.wp P a W K Q := by
  obtain ⟨i, hi, hz⟩ := Option.map_eq_some_iff.1 hinfo
  obtain ⟨w1, hr, hown, hg⟩ := run_append_fits (P := P) W g t o.type e i size ht hi hz g n cap xs HO ad m c news hl HR h1 hroom
  unfold Oper.wp execOp
  simp only [ho, resolve, invoke, builtin, Sem.run_bind, Sem.run_pure, Result.andThen_ok, List.map_toArray, List.map_cons, List.map_nil, hs, hx, hr]
  exact h w1 hown hg
end

theorem wp_slot1 {o : Oper} {a : Act} {Q : Exit → Act → World → Prop} {W : World} {K : Act → World → Prop} {s : Slo} (h : okPx s.p) (x : Operand) (ho : o.op = .buildSlice 36 1 #[(0, x)]) (hx : a.eval x = .agg (sloC s).toArray)
    (hK : K (a.put o.dst (.slice (some ⟨W.heap.size, 0, none⟩) 1 1)) (W.alloc (.cells (sloC s).toArray 32))) : o.wp Try.prog a W K Q := by
  unfold Oper.wp execOp
  simp only [ho, hx, List.map_toArray, List.map_cons, List.map_nil, Sem.run_bind, run_slot1 W h, Result.andThen_ok, Sem.run_pure]
  simpa [Oper.upon] using hK

theorem RoomO.mid {w : World} {L n cap : Nat} {l : List Slo} {t : TypeId} (h : RoomO w L n cap 10 (slosC l) t) (hl : ∀ x ∈ l, okPx x.p) {k : Nat} (hk : k < l.length) {x : Slo} (hx : okPx x.p) :
    RoomO (w.setCells L (k * 10) (sloC x)) L n cap 10 (slosC (l.set k x)) t ∧ Upd L w (w.setCells L (k * 10) (sloC x)) := by
  obtain ⟨h1, h2, junk, h3, h4⟩ := h
  have hlen := slosC_length hl
  have hxl := sloC_length hx
  have hm := setCells_mid L t (sloC x) (k * 10) _ w h4 (by simp [hlen, hxl]; omega)
  refine ⟨⟨?_, h2, junk, h3, ?_⟩, hm.2⟩
  · rw [slosC_length (fun y hy => ?_), List.length_set, ← hlen, h1]
    rcases List.mem_or_eq_of_mem_set hy with h | h
    · exact hl y h
    · rw [h]; exact hx
  · have hm1 := hm.1
    rw [show (slosC l ++ junk).toArray.toList = slosC l ++ junk from rfl, hxl, List.take_append_of_le_length (by omega), List.drop_append_of_le_length (by omega)] at hm1
    rw [slosC_set hl x hk]
    simpa [List.append_assoc] using hm1

set_option maxRecDepth 100000 in
set_option maxHeartbeats 4000000 in
theorem skAddFound_w (S L n : Nat) (s : Sk) (hsk : okSk s) (p : Px) (hp : okPx p) (n0 : Int) (w : World) (h : SkO w S L n s) (hf : fnd s.l p < s.l.length) :
    Calls Try.prog 14 #[.pointer (some ⟨S, 0, none⟩), .agg (pxC p).toArray, .int .i64 n0] w fun e w' => ∃ x, (skAdd s p n0).l[skAt s p]? = some x ∧ e = .returned (.agg (sloC x).toArray) ∧ SkO w' S L n (skAdd s p n0) ∧ Upd2 S L w w' := by
  have HN := Lib.hid h.1
  have HPA := Lib.hid (px_sizeA hp)
  have HLT := Lib.hid (show S < w.heap.size ∧ L < w.heap.size from ⟨h.2.1.lt, h.2.2.lt⟩)
  have HNE := Lib.hid (show w.heap.size + 1 ≠ L ∧ w.heap.size + 1 ≠ S from by have := HLT.out; omega)
  have hb1 := bl_alloc (Below.refl w.heap.size w) (.cells (pxC p).toArray 30)
  have hb2 := bl_next hb1 (bl_alloc (Below.refl _ _) (.cells #[.bool false, .int .u8 0, .int .u8 0, .int .u8 0, .int .u8 0, .int .u8 0, .int .u8 0, .int .u8 0, .int .i64 0, .int .i64 0] 32))
  have HB0 := Lib.hid hb2
  have HK0 := Lib.hid ((Obj1.new w (pxC p).toArray 30).alloc (.cells #[.bool false, .int .u8 0, .int .u8 0, .int .u8 0, .int .u8 0, .int .u8 0, .int .u8 0, .int .u8 0, .int .i64 0, .int .i64 0] 32))
  have HR0 := Lib.hid (show Obj1 ((w.alloc (.cells (pxC p).toArray 30)).alloc (.cells #[.bool false, .int .u8 0, .int .u8 0, .int .u8 0, .int .u8 0, .int .u8 0, .int .u8 0, .int .u8 0, .int .i64 0, .int .i64 0] 32)) (w.heap.size + 1) #[.bool false, .int .u8 0, .int .u8 0, .int .u8 0, .int .u8 0, .int .u8 0, .int .u8 0, .int .u8 0, .int .i64 0, .int .i64 0] 32 by
    have := Obj1.new (w.alloc (.cells (pxC p).toArray 30)) #[.bool false, .int .u8 0, .int .u8 0, .int .u8 0, .int .u8 0, .int .u8 0, .int .u8 0, .int .u8 0, .int .i64 0, .int .i64 0] 32
    rwa [World.size_alloc] at this)
  have HT0 := Lib.hid (h.below hb2)
  clear h hb1 hb2
  go_enter Try.func14, Try.ntmps14
  go_wp2_with fail
  refine (Count_w n0 _).mono ?_
  rintro e w' ⟨rfl, rfl⟩
  have HTB := Lib.hid (HT0.out.below (bl_alloc (Below.refl _ _) (.cells #[.int .i64 s.total, .int .i64 (cnt n0)] 2)))
  generalize hWA : World.alloc (World.alloc w _) _ = WA at HB0 HK0 HR0 HT0 HTB ⊢
  have hWAs : WA.heap.size = w.heap.size + 2 := by rw [← hWA, World.size_alloc, World.size_alloc]
  have HWA := Lib.hid hWAs
  clear hWA hWAs
  have q0 : WA.cell? ⟨S, 1, none⟩ = some (.int .i64 s.total) := HT0.out.2.1.cell 1
  generalize hWB : World.alloc WA (.cells #[.int .i64 s.total, .int .i64 (cnt n0)] 2) = WB at HTB
  have q1 : WB.cell? ⟨S, 1, none⟩ = some (.int .i64 s.total) := HTB.out.2.1.cell 1
  have q2 : WB.frozen? ⟨S, 1, none⟩ = false := HTB.out.2.1.free 1
  have HWB := Lib.hid hWB
  clear hWB
  obtain ⟨tt, htt⟩ : ∃ tt, plus (cnt s.total) n0 = tt := ⟨_, rfl⟩
  have HTO9 := Lib.hid htt
  have hset := (Upd.refl S WB).set 1 (.int .i64 tt)
  have hgB : WA.grownBy WB none := by rw [← HWB.out]; exact World.grownBy_alloc WA _ none
  have hBu : Upd2 S L w WB := by rw [← HWB.out]; exact (Upd2.of_below HB0.out).next (bl_alloc (Below.refl _ _) _)
  have HKC := Lib.hid (((HK0.out.of_grown hgB (by simp)).of_grown hset (by have := HLT.out; simp; omega)))
  have HRC := Lib.hid (((HR0.out.of_grown hgB (by simp)).of_grown hset (by have := HNE.out; simp; omega)))
  have HTC := Lib.hid (show SkO (WB.setCell ⟨S, 1, none⟩ (.int .i64 tt)) S L n ⟨s.l, s.room, tt⟩ from ⟨HTB.out.1, HTB.out.2.1.set 1 _, HTB.out.2.2.grown hset (by have := HTB.out.ne; simp; omega)⟩)
  have HUC := Lib.hid (show Upd2 S L w (WB.setCell ⟨S, 1, none⟩ (.int .i64 tt)) from hBu.trans (Upd2.of1 hset))
  have hokt : okSk ⟨s.l, s.room, tt⟩ := ⟨hsk.1, hsk.2.1, hsk.2.2.1, by rw [← htt]; exact plus_range _ _ (cnt_range _)⟩
  clear hset hgB hBu htt
  go_wp2_with (first
    | (go_at_call 35; refine (Add2_w s.total (cnt n0) _ _ (new_at (by simp) rfl) (new_at (by simp) rfl)).mono ?_; rintro e w' ⟨rfl, rfl⟩; rw [plus_cntR, HTO9.out, HWB.out])
    | (refine load_obj rfl 30 (.tmp 4) rfl w.heap.size 30 (pxC p).toArray _ rfl HKC.out Try.underlying30 rfl HPA.out ?_))
  refine (find_w S L n _ hokt p hp _ HTC.out).mono ?_
  rintro e w2 ⟨rfl, hb2⟩
  have HT2 := Lib.hid (HTC.out.below hb2)
  have HK2 := Lib.hid (HKC.out.below hb2)
  have HR2 := Lib.hid (HRC.out.below hb2)
  have HU2 := Lib.hid (HUC.out.next hb2)
  clear hb2 q0 q1 q2 HKC HRC HTC HUC HB0 HK0 HR0 HT0 HTB HWA HWB
  dsimp only
  obtain ⟨k, hk⟩ : ∃ k, fnd s.l p = k := ⟨_, rfl⟩
  obtain ⟨l2, hl2⟩ : ∃ l2, skBase s p = l2 := ⟨_, rfl⟩
  have hl2s : l2 = s.l := by rw [← hl2]; unfold skBase; rw [if_pos hf]
  have hat : skAt s p = k := by unfold skAt; rw [if_pos hf, hk]
  have hfv : fndV s.l p = (k : Int) := by unfold fndV; rw [if_pos hf, hk]
  rw [hk] at hf
  have hkn : k < n := by rw [← HN.out]; exact hf
  obtain ⟨x2, hx2⟩ : ∃ x2, l2[k]? = some x2 := ⟨_, List.getElem?_eq_getElem (by rw [hl2s]; exact hf)⟩
  have hx2p : okPx x2.p := by rw [hl2s] at hx2; exact hsk.px _ (List.mem_of_getElem? hx2)
  have HEQ := Lib.hid (skAdd_eq (n := n0) hl2 hat hx2)
  have HAT := Lib.hid hat
  have HX2 := Lib.hid hx2
  have HPX2 := Lib.hid (show ∀ x ∈ l2, okPx x.p by rw [hl2s]; exact hsk.px)
  have k0 : (0 : Int) ≤ (k : Int) := Int.natCast_nonneg k
  have k1 : (k : Int) < (n : Int) := by omega
  rw [hfv]
  have HT := Lib.hid (show SkO w2 S L n ⟨l2, s.room, tt⟩ by rw [hl2s]; exact HT2.out)
  have HRR := HR2
  have HU := HU2
  clear hk hl2 hl2s hat hfv hx2
  go_wp2_with fail
  ·
    have HX8 := Lib.hid (slo_count HT.out.2.2 HPX2.out HX2.out).1
    have hRL : w.heap.size + 1 ≠ L := HNE.out.1
    have hRS : w.heap.size + 1 ≠ S := HNE.out.2
    refine wp_region_held_drew (S := (fun w' => w'.cell? ⟨S, 0, none⟩ = some (.slice (some ⟨L, 0, none⟩) n s.room))) (by kernel_rfl) ((HT.out.2.1.cell 0)) (fun hHeld => ?_)
    generalize hW0 : World.drew _ = W0 at hHeld ⊢
    have HT0 := Lib.hid (show SkO W0 S L n ⟨l2, s.room, tt⟩ by rw [← hW0]; exact HT.out)
    have HR0 := Lib.hid (show Obj1 W0 (w.heap.size + 1) #[.bool false, .int .u8 0, .int .u8 0, .int .u8 0, .int .u8 0, .int .u8 0, .int .u8 0, .int .u8 0, .int .i64 0, .int .i64 0] 32 by rw [← hW0]; exact HRR.out)
    have HU0 := Lib.hid (show Upd2 S L w W0 by rw [← hW0]; exact HU.out)
    have r1 : W0.cell? ⟨L, k * 10 + 8, none⟩ = some (.int .i64 x2.c) := by rw [← hW0]; exact HX8.out
    clear hW0
    refine wpAnyH_take (i := 0) (v := ?_) rfl (by kernel_rfl) (by kernel_rfl) (by kernel_rfl) (fun _ _ _ h => h) (Or.inl ⟨by rfl, ?_⟩) (by assumption) ?_
    rotate_left
    · intro w hSw; (try dsimp only at hSw); go_simp
      try with_reducible rfl
    refine wpAnyH_take (i := 1) (v := ?_) rfl (by kernel_rfl) (by kernel_rfl) (by kernel_rfl) (fun _ _ _ h => h) (Or.inl ⟨by rfl, ?_⟩) (by assumption) ?_
    rotate_left
    · intro w hSw; (try dsimp only at hSw); go_simp
      try with_reducible rfl
    go_simp
    refine wpAnyH_take (i := 2) (v := ?_) rfl (by kernel_rfl) (by kernel_rfl) (by kernel_rfl) (fun _ _ _ h => h) (Or.inl ⟨by rfl, ?_⟩) (by assumption) ?_
    rotate_left
    · intro w hSw; (try dsimp only at hSw); go_simp
      try with_reducible rfl
    refine wpAnyH_take (i := 3) (v := ?_) rfl (by kernel_rfl) (by kernel_rfl) (by kernel_rfl) (fun _ _ _ h => h) (Or.inl ⟨by rfl, ?_⟩) (by assumption) ?_
    rotate_left
    · intro w hSw; (try dsimp only at hSw); go_simp
      try with_reducible rfl
    go_simp
    refine wpAnyH_take (i := 4) (v := ?_) rfl (by kernel_rfl) (by kernel_rfl) (by kernel_rfl) (fun _ _ _ h => h) (Or.inl ⟨by rfl, ?_⟩) (by assumption) ?_
    rotate_left
    · intro w hSw; (try dsimp only at hSw); go_simp
      try with_reducible rfl
    refine wpAnyH_take (i := 5) (v := ?_) rfl (by kernel_rfl) (by kernel_rfl) (by kernel_rfl) (fun _ _ _ h => h) (Or.inl ⟨by rfl, ?_⟩) (by assumption) ?_
    rotate_left
    · intro w hSw; (try dsimp only at hSw); go_simp
      try with_reducible rfl
    go_simp
    refine wpAnyH_take (i := 6) (v := ?_) rfl (by kernel_rfl) (by kernel_rfl) (by kernel_rfl) (fun _ _ _ h => h) (Or.inl ⟨by rfl, ?_⟩) (by assumption) ?_
    rotate_left
    · intro w hSw; (try dsimp only at hSw); go_simp
      try with_reducible rfl
    refine wpAnyH_take (i := 7) (v := ?_) rfl (by kernel_rfl) (by kernel_rfl) (by kernel_rfl) (fun _ _ _ h => h) (Or.inl ⟨by rfl, ?_⟩) (by assumption) ?_
    rotate_left
    · intro w hSw; (try dsimp only at hSw); go_simp
      try with_reducible rfl
    go_simp
    refine wpAnyH_take (i := 8) (v := ?_) rfl (by kernel_rfl) (by kernel_rfl) (by kernel_rfl) (fun _ _ _ h => h) (Or.inl ⟨by rfl, ?_⟩) (by assumption) ?_
    rotate_left
    · intro w hSw; (try dsimp only at hSw); go_simp
      try with_reducible rfl
    refine wpAnyH_take (i := 9) (v := ?_) rfl (by kernel_rfl) (by kernel_rfl) (by kernel_rfl) (fun _ _ _ h => h) (Or.inl ⟨by rfl, ?_⟩) (by assumption) ?_
    rotate_left
    · intro w hSw; (try dsimp only at hSw); go_simp
      try with_reducible rfl
    go_simp
    refine wpAnyH_take (i := 10) (v := ?_) rfl (by kernel_rfl) (by kernel_rfl) (by kernel_rfl) (fun _ _ _ h => h) (Or.inl ⟨by rfl, ?_⟩) (by assumption) ?_
    rotate_left
    · intro w hSw; (try dsimp only at hSw); go_simp
      try with_reducible rfl
    refine wpAnyH_take (i := 11) (v := ?_) rfl (by kernel_rfl) (by kernel_rfl) (by kernel_rfl) (fun _ _ _ h => h) (Or.inl ⟨by rfl, ?_⟩) (by assumption) ?_
    rotate_left
    · intro w hSw; (try dsimp only at hSw); go_simp
      try with_reducible rfl
    go_simp
    refine wpAnyH_take (i := 13) (v := ?_) rfl (by kernel_rfl) (by kernel_rfl) (by kernel_rfl) (fun _ _ _ h => h) (Or.inl ⟨by rfl, ?_⟩) (by assumption) ?_
    rotate_left
    · intro w hSw; (try dsimp only at hSw); go_simp
      try with_reducible rfl
    go_simp
    refine wpAnyH_ready (rs := [12]) (by kernel_rfl) (by simp) ?_
    refine AllReadyH.cons rfl (fun K hK => ?_) ?_
    rotate_left
    · exact AllReadyH.nil
    go_simp
    refine hK.out _ _ (hHeld) (fun hHeld => ?_)
    clear hK K
    have g1 : (W0.alloc (.cells #[.int .i64 x2.c, .int .i64 (cnt n0)] 2)).cell? ⟨L, k * 10 + 8, none⟩ = some (.int .i64 x2.c) := bl_keeps (bl_alloc (Below.refl _ _) _) r1
    have g2 : (W0.alloc (.cells #[.int .i64 x2.c, .int .i64 (cnt n0)] 2)).frozen? ⟨L, k * 10 + 8, none⟩ = false := (HT0.out.2.2.below (bl_alloc (Below.refl _ _) _)).free _
    have g3 : (W0.alloc (.cells #[.int .i64 x2.c, .int .i64 (cnt n0)] 2)).cell? ⟨S, 0, none⟩ = some (.slice (some ⟨L, 0, none⟩) n s.room) := bl_keeps (bl_alloc (Below.refl _ _) _) hHeld
    clear r1
    refine wpAnyH_ready (rs := [14]) (by kernel_rfl) (by simp) ?_
    refine AllReadyH.cons rfl (fun K hK => ?_) ?_
    rotate_left
    · exact AllReadyH.nil
    go_simp
    refine hK.out _ _ (g3) (fun hHeld => ?_)
    clear hK K
    refine wpAnyH_ready (rs := [15]) (by kernel_rfl) (by simp) ?_
    refine AllReadyH.cons rfl (fun K hK => ?_) AllReadyH.nil
    go_simp
    refine (Add2_w x2.c (cnt n0) _ _ (new_at rfl rfl) (new_at rfl rfl)).mono ?_
    rintro e w' ⟨rfl, rfl⟩
    dsimp only
    refine hK.out _ _ (g3) (fun hHeld => ?_)
    clear hK K
    go_simp
    obtain ⟨c3, hc3⟩ : ∃ c3, plus (cnt x2.c) (cnt n0) = c3 := ⟨_, rfl⟩
    rw [hc3]
    generalize hWX : World.alloc W0 _ = WX at hHeld g1 g2 g3 ⊢
    have HTX := Lib.hid (show SkO WX S L n ⟨l2, s.room, tt⟩ by rw [← hWX]; exact HT0.out.below (bl_alloc (Below.refl _ _) _))
    have HRX := Lib.hid (show Obj1 WX (w.heap.size + 1) #[.bool false, .int .u8 0, .int .u8 0, .int .u8 0, .int .u8 0, .int .u8 0, .int .u8 0, .int .u8 0, .int .i64 0, .int .i64 0] 32 by rw [← hWX]; exact HR0.out.alloc _)
    have HUX := Lib.hid (show Upd2 S L w WX by rw [← hWX]; exact HU0.out.next (bl_alloc (Below.refl _ _) _))
    have HC3 := Lib.hid (show plus (cnt x2.c) n0 = c3 by rw [← hc3, plus_cntR])
    clear hWX hc3
    have hset := (Upd.refl L WX).set (k * 10 + 8) (.int .i64 c3)
    have hSo := (HTX.out.2.1.of_grown hset (by simpa using HTX.out.ne))
    have g4 : (WX.setCell ⟨L, k * 10 + 8, none⟩ (.int .i64 c3)).cell? ⟨S, 0, none⟩ = some (.slice (some ⟨L, 0, none⟩) n s.room) := hSo.cell 0
    have hlt2 : k < l2.length := (List.getElem?_eq_some_iff.1 HX2.out).1
    have hRo := HTX.out.2.2.set (k * 10 + 8) (by have := HTX.out.1; simp at this; omega) (.int .i64 c3)
    rw [← slosC_count HPX2.out HX2.out c3] at hRo
    have HTY := Lib.hid (show SkO (WX.setCell ⟨L, k * 10 + 8, none⟩ (.int .i64 c3)) S L n ⟨l2.set k { x2 with c := c3 }, s.room, tt⟩ from ⟨by have := HTX.out.1; simpa using this, hSo, hRo⟩)
    have HRY := Lib.hid (HRX.out.of_grown hset (by simpa using hRL))
    have HUY := Lib.hid (HUX.out.trans (Upd2.of2 (B := S) hset))
    have HPX3 := Lib.hid (show ∀ x ∈ l2.set k { x2 with c := c3 }, okPx x.p from fun x hx => by
      rcases List.mem_or_eq_of_mem_set hx with h | h
      · exact HPX2.out x h
      · rw [h]; exact hx2p)
    have HX3 := Lib.hid (show (l2.set k { x2 with c := c3 })[k]? = some { x2 with c := c3 } by rw [List.getElem?_set_self hlt2])
    clear hset hSo hRo
    refine wpAnyH_take (i := 16) (v := ?_) rfl (by kernel_rfl) (by kernel_rfl) (by kernel_rfl) (fun _ _ _ h => h) (Or.inl ⟨by rfl, ?_⟩) (by assumption) ?_
    rotate_left
    · intro w hSw; (try dsimp only at hSw); go_simp
      try with_reducible rfl
    refine wpAnyH_take (i := 17) (v := ?_) rfl (by kernel_rfl) (by kernel_rfl) (by kernel_rfl) (fun _ _ _ h => h) (Or.inl ⟨by rfl, ?_⟩) (by assumption) ?_
    rotate_left
    · intro w hSw; (try dsimp only at hSw); go_simp
      try with_reducible rfl
    go_simp
    refine wpAnyH_ready (rs := [18]) (by kernel_rfl) (by simp) ?_
    refine AllReadyH.cons rfl (fun K hK => ?_) ?_
    rotate_left
    · exact AllReadyH.nil
    go_simp
    refine hK.out _ _ (g4) (fun hHeld => ?_)
    clear hK K
    refine wpAnyH_done (by kernel_rfl) ?_ _
    have HC := Lib.hid (slo_cells HTY.out.2.2 HPX3.out HX3.out)
    have HSZ := Lib.hid (slo_size (s := { x2 with c := c3 }) hx2p)
    have HSA := Lib.hid (slo_sizeA (s := { x2 with c := c3 }) hx2p)
    have hlen := sloC_length (s := { x2 with c := c3 }) hx2p
    clear g1 g2 g3
    generalize hWY : World.setCell WX _ _ = WY at hHeld g4 HTY HRY HUY HC ⊢
    clear hWY
    obtain ⟨x3, hx3⟩ : ∃ x3, x3 = ({ x2 with c := c3 } : Slo) := ⟨_, rfl⟩
    rw [← hx3] at HC HSZ HSA hlen HX3 HTY HPX3
    have HX3E := Lib.hid hx3
    clear hx3
    go_wp2_with (first
      | (refine load_cells rfl 32 (.tmp 106) rfl ⟨L, k * 10, none⟩ (sloC x3) _ rfl HC.out Try.underlying32 rfl HSZ.out ?_)
      | (refine store_obj rfl 32 (.tmp 6) (.tmp 107) rfl (w.heap.size + 1) 32 _ (sloC x3).toArray rfl rfl HRY.out (by simp [hlen]) HSA.out (all_oneCell_toArray (sloC_one x3)) ?_; intro w9 hob9 hup9; have HOB9 := Lib.hid hob9; have HUP9 := Lib.hid hup9; clear hob9 hup9))
    refine bodyPost_ret (results_cell_row rfl _ _ (w.heap.size + 1) 32 (sloC x3).toArray (0, 0) _ rfl HOB9.out Try.underlying32 rfl HSA.out) rfl ?_
    have hUend : Upd2 S L w w9 := HUY.out.aside HUP9.out (by omega)
    have hE : skAdd s p n0 = ⟨l2.set k x3, s.room, tt⟩ := by rw [HEQ.out, HC3.out, HTO9.out, HX3E.out]
    have hSO : SkO w9 S L n (skAdd s p n0) := by rw [hE]; exact HTY.out.grown HUP9.out (by have := HNE.out; simp; omega) (by have := HNE.out; simp; omega)
    exact ⟨x3, by rw [hE, HAT.out]; exact HX3.out, rfl, hSO, hUend⟩


set_option maxRecDepth 100000 in
set_option maxHeartbeats 4000000 in
theorem skAddRoom_w (S L n : Nat) (s : Sk) (hsk : okSk s) (p : Px) (hp : okPx p) (n0 : Int) (w : World) (h : SkO w S L n s) (hf : ¬ fnd s.l p < s.l.length) (hroom : s.l.length < s.room) :
    Calls Try.prog 14 #[.pointer (some ⟨S, 0, none⟩), .agg (pxC p).toArray, .int .i64 n0] w fun e w' => ∃ x, (skAdd s p n0).l[skAt s p]? = some x ∧ e = .returned (.agg (sloC x).toArray) ∧ SkO w' S L (n + 1) (skAdd s p n0) ∧ Upd2 S L w w' := by
  obtain ⟨m, hm⟩ : ∃ m, m = n + 1 := ⟨_, rfl⟩
  rw [← hm]
  have HM := Lib.hid hm
  clear hm
  have HN := Lib.hid h.1
  have HPA := Lib.hid (px_sizeA hp)
  have HLT := Lib.hid (show S < w.heap.size ∧ L < w.heap.size from ⟨h.2.1.lt, h.2.2.lt⟩)
  have HNE := Lib.hid (show w.heap.size + 1 ≠ L ∧ w.heap.size + 1 ≠ S from by have := HLT.out; omega)
  have hb1 := bl_alloc (Below.refl w.heap.size w) (.cells (pxC p).toArray 30)
  have hb2 := bl_next hb1 (bl_alloc (Below.refl _ _) (.cells #[.bool false, .int .u8 0, .int .u8 0, .int .u8 0, .int .u8 0, .int .u8 0, .int .u8 0, .int .u8 0, .int .i64 0, .int .i64 0] 32))
  have HB0 := Lib.hid hb2
  have HK0 := Lib.hid ((Obj1.new w (pxC p).toArray 30).alloc (.cells #[.bool false, .int .u8 0, .int .u8 0, .int .u8 0, .int .u8 0, .int .u8 0, .int .u8 0, .int .u8 0, .int .i64 0, .int .i64 0] 32))
  have HR0 := Lib.hid (show Obj1 ((w.alloc (.cells (pxC p).toArray 30)).alloc (.cells #[.bool false, .int .u8 0, .int .u8 0, .int .u8 0, .int .u8 0, .int .u8 0, .int .u8 0, .int .u8 0, .int .i64 0, .int .i64 0] 32)) (w.heap.size + 1) #[.bool false, .int .u8 0, .int .u8 0, .int .u8 0, .int .u8 0, .int .u8 0, .int .u8 0, .int .u8 0, .int .i64 0, .int .i64 0] 32 by
    have := Obj1.new (w.alloc (.cells (pxC p).toArray 30)) #[.bool false, .int .u8 0, .int .u8 0, .int .u8 0, .int .u8 0, .int .u8 0, .int .u8 0, .int .u8 0, .int .i64 0, .int .i64 0] 32
    rwa [World.size_alloc] at this)
  have HT0 := Lib.hid (h.below hb2)
  clear h hb1 hb2
  go_enter Try.func14, Try.ntmps14
  go_wp2_with fail
  refine (Count_w n0 _).mono ?_
  rintro e w' ⟨rfl, rfl⟩
  have HTB := Lib.hid (HT0.out.below (bl_alloc (Below.refl _ _) (.cells #[.int .i64 s.total, .int .i64 (cnt n0)] 2)))
  generalize hWA : World.alloc (World.alloc w _) _ = WA at HB0 HK0 HR0 HT0 HTB ⊢
  have hWAs : WA.heap.size = w.heap.size + 2 := by rw [← hWA, World.size_alloc, World.size_alloc]
  have HWA := Lib.hid hWAs
  clear hWA hWAs
  have q0 : WA.cell? ⟨S, 1, none⟩ = some (.int .i64 s.total) := HT0.out.2.1.cell 1
  generalize hWB : World.alloc WA (.cells #[.int .i64 s.total, .int .i64 (cnt n0)] 2) = WB at HTB
  have q1 : WB.cell? ⟨S, 1, none⟩ = some (.int .i64 s.total) := HTB.out.2.1.cell 1
  have q2 : WB.frozen? ⟨S, 1, none⟩ = false := HTB.out.2.1.free 1
  have HWB := Lib.hid hWB
  clear hWB
  obtain ⟨tt, htt⟩ : ∃ tt, plus (cnt s.total) n0 = tt := ⟨_, rfl⟩
  have HTO9 := Lib.hid htt
  have hset := (Upd.refl S WB).set 1 (.int .i64 tt)
  have hgB : WA.grownBy WB none := by rw [← HWB.out]; exact World.grownBy_alloc WA _ none
  have hBu : Upd2 S L w WB := by rw [← HWB.out]; exact (Upd2.of_below HB0.out).next (bl_alloc (Below.refl _ _) _)
  have HKC := Lib.hid (((HK0.out.of_grown hgB (by simp)).of_grown hset (by have := HLT.out; simp; omega)))
  have HRC := Lib.hid (((HR0.out.of_grown hgB (by simp)).of_grown hset (by have := HNE.out; simp; omega)))
  have HTC := Lib.hid (show SkO (WB.setCell ⟨S, 1, none⟩ (.int .i64 tt)) S L n ⟨s.l, s.room, tt⟩ from ⟨HTB.out.1, HTB.out.2.1.set 1 _, HTB.out.2.2.grown hset (by have := HTB.out.ne; simp; omega)⟩)
  have HUC := Lib.hid (show Upd2 S L w (WB.setCell ⟨S, 1, none⟩ (.int .i64 tt)) from hBu.trans (Upd2.of1 hset))
  have hokt : okSk ⟨s.l, s.room, tt⟩ := ⟨hsk.1, hsk.2.1, hsk.2.2.1, by rw [← htt]; exact plus_range _ _ (cnt_range _)⟩
  clear hset hgB hBu htt
  go_wp2_with (first
    | (go_at_call 35; refine (Add2_w s.total (cnt n0) _ _ (new_at (by simp) rfl) (new_at (by simp) rfl)).mono ?_; rintro e w' ⟨rfl, rfl⟩; rw [plus_cntR, HTO9.out, HWB.out])
    | (refine load_obj rfl 30 (.tmp 4) rfl w.heap.size 30 (pxC p).toArray _ rfl HKC.out Try.underlying30 rfl HPA.out ?_))
  refine (find_w S L n _ hokt p hp _ HTC.out).mono ?_
  rintro e w2 ⟨rfl, hb2⟩
  have HT2 := Lib.hid (HTC.out.below hb2)
  have HK2 := Lib.hid (HKC.out.below hb2)
  have HR2 := Lib.hid (HRC.out.below hb2)
  have HU2 := Lib.hid (HUC.out.next hb2)
  clear hb2 q0 q1 q2 HKC HRC HTC HUC HB0 HK0 HR0 HT0 HTB HWA HWB
  dsimp only
  obtain ⟨l2, hl2⟩ : ∃ l2, skBase s p = l2 := ⟨_, rfl⟩
  have hl2s : l2 = s.l ++ [⟨p, 0, 0⟩] := by rw [← hl2]; unfold skBase; rw [if_neg hf, if_pos hroom]
  have hat : skAt s p = n := by unfold skAt; rw [if_neg hf, if_pos hroom, HN.out]
  have hfv : fndV s.l p = -1 := by unfold fndV; rw [if_neg hf]
  rw [HN.out] at hroom
  obtain ⟨x2, hx2e⟩ : ∃ x2 : Slo, x2 = ⟨p, 0, 0⟩ := ⟨_, rfl⟩
  have hx2 : l2[n]? = some x2 := by rw [hl2s, hx2e, ← HN.out]; simp
  have hx2p : okPx x2.p := by rw [hx2e]; exact hp
  have HEQ := Lib.hid (skAdd_eq (n := n0) hl2 hat hx2)
  have HAT := Lib.hid hat
  have HX2 := Lib.hid hx2
  have HPX2 := Lib.hid (show ∀ x ∈ l2, okPx x.p by
    rw [hl2s]
    intro x hx
    rcases List.mem_append.1 hx with h | h
    · exact hsk.px x h
    · simp at h; rw [h]; exact hp)
  have q0 : w2.cell? ⟨S, 0, none⟩ = some (.slice (some ⟨L, 0, none⟩) n s.room) := HT2.out.2.1.cell 0
  have q1 : (n : Int) < (s.room : Int) := by omega
  have q2 : decide ((n : Int) < (s.room : Int)) = true := by simp; omega
  have HL2 := Lib.hid hl2s
  have HXE := Lib.hid hx2e
  rw [hfv]
  clear hl2 hl2s hat hfv hx2 hx2e
  go_wp2_with fail
  go_quiet (fail)
  go_wp2_with fail
  refine wp_region_held_drew (S := (fun w' => Obj1 w' w.heap.size (pxC p).toArray 30)) (by kernel_rfl) ((HK2.out)) (fun hHeld => ?_)
  generalize hW0 : World.drew _ = W0 at hHeld ⊢
  have HTA := Lib.hid (show SkO W0 S L n ⟨s.l, s.room, tt⟩ by rw [← hW0]; exact HT2.out)
  have HRA := Lib.hid (show Obj1 W0 (w.heap.size + 1) #[.bool false, .int .u8 0, .int .u8 0, .int .u8 0, .int .u8 0, .int .u8 0, .int .u8 0, .int .u8 0, .int .i64 0, .int .i64 0] 32 by rw [← hW0]; exact HR2.out)
  have HUA := Lib.hid (show Upd2 S L w W0 by rw [← hW0]; exact HU2.out)
  have r0 : W0.cell? ⟨S, 0, none⟩ = some (.slice (some ⟨L, 0, none⟩) n s.room) := HTA.out.2.1.cell 0
  clear hW0 q0
  refine wpAnyH_take (i := 0) (v := ?_) rfl (by kernel_rfl) (by kernel_rfl) (by kernel_rfl) (fun _ _ _ h => h) (Or.inl ⟨by rfl, ?_⟩) (by assumption) ?_
  rotate_left
  · intro w hSw; (try dsimp only at hSw); go_simp
    try with_reducible rfl
  refine wpAnyH_take (i := 1) (v := ?_) rfl (by kernel_rfl) (by kernel_rfl) (by kernel_rfl) (fun _ _ _ h => h) (Or.inl ⟨by rfl, ?_⟩) (by assumption) ?_
  rotate_left
  · intro w hSw; (try dsimp only at hSw); go_simp
    try with_reducible rfl
  go_simp
  refine wpAnyH_take (i := 2) (v := ?_) rfl (by kernel_rfl) (by kernel_rfl) (by kernel_rfl) (fun _ _ _ h => h) (Or.inl ⟨by rfl, ?_⟩) (by assumption) ?_
  rotate_left
  · intro w hSw; (try dsimp only at hSw); go_simp
    try with_reducible rfl
  refine wpAnyH_take (i := 3) (v := ?_) rfl (by kernel_rfl) (by kernel_rfl) (by kernel_rfl) (fun _ _ _ h => h) (Or.inl ⟨by rfl, ?_⟩) (by assumption) ?_
  rotate_left
  · intro w hSw; (try dsimp only at hSw); go_simp
    try with_reducible rfl
  go_simp
  refine wpAnyH_take (i := 5) (v := .agg (pxC p).toArray) rfl (by kernel_rfl) (by kernel_rfl) (by kernel_rfl) (fun _ _ _ h => h) (Or.inl ⟨by rfl, ?_⟩) (by assumption) ?_
  · intro w' hSw
    have hld := run_loadVar_row (P := Try.prog) w' w.heap.size 30 30 (pxC p).toArray (0, 0) _ hSw Try.underlying30 rfl HPA.out
    simp [execOp, Act.eval, Instr.loadAt, Instr.sureAddr, Sem.run_bind, hld, Result.andThen]
  go_simp
  refine wpAnyH_take (i := 6) (v := .agg (sloC ⟨p, 0, 0⟩).toArray) rfl (by kernel_rfl) (by kernel_rfl) (by kernel_rfl) (fun _ _ _ h => h) (Or.inl ⟨by rfl, ?_⟩) (by assumption) ?_
  · intro w' hSw
    have hbd := run_build (P := Try.prog) w' 32 #[(0, .agg (pxC p).toArray)] _ (built_slot0 hp)
    simp [execOp, Act.eval, Sem.run_bind, hbd, Result.andThen]
  go_simp
  have r1 : (W0.alloc (.cells (sloC ⟨p, 0, 0⟩).toArray 32)).cell? ⟨S, 0, none⟩ = some (.slice (some ⟨L, 0, none⟩) n s.room) := bl_keeps (bl_alloc (Below.refl _ _) _) r0
  have HH1 := Lib.hid (hHeld.alloc (.cells (sloC ⟨p, 0, 0⟩).toArray 32))
  have HW1 := Lib.hid (((HTA.out.2.2.below (bl_alloc (Below.refl _ _) (.cells (sloC ⟨p, 0, 0⟩).toArray 32)))).own (by have := hsk.1.2; show s.room ≤ _; omega))
  have HN1 := Lib.hid (obj_cells (Obj1.new W0 (sloC ⟨p, 0, 0⟩).toArray 32) (fun j v h => h))
  have hl10 : (sloC ⟨p, 0, 0⟩).length = 1 * 10 := by rw [sloC_length (s := ⟨p, 0, 0⟩) hp]
  have hsl := fun w' => run_slot1 w' (s := ⟨p, 0, 0⟩) hp
  have HSL := Lib.hid hsl
  have fin : ∀ w1 : World, w1.ownsRow L 32 10 (.slice (some ⟨L, 0, none⟩) m s.room) m (slosC s.l ++ sloC ⟨p, 0, 0⟩) → (W0.alloc (.cells (sloC ⟨p, 0, 0⟩).toArray 32)).grownBy w1 (some L) →
      Obj1 (w1.setCell ⟨S, 0, none⟩ (.slice (some ⟨L, 0, none⟩) m s.room)) w.heap.size (pxC p).toArray 30 ∧ (w1.cell? ⟨S, 0, none⟩ = some (.slice (some ⟨L, 0, none⟩) n s.room) ∧ w1.frozen? ⟨S, 0, none⟩ = false ∧ Obj1 w1 w.heap.size (pxC p).toArray 30) ∧
      SkO (w1.setCell ⟨S, 0, none⟩ (.slice (some ⟨L, 0, none⟩) m s.room)) S L m ⟨l2, s.room, tt⟩ ∧ Obj1 (w1.setCell ⟨S, 0, none⟩ (.slice (some ⟨L, 0, none⟩) m s.room)) (w.heap.size + 1) #[.bool false, .int .u8 0, .int .u8 0, .int .u8 0, .int .u8 0, .int .u8 0, .int .u8 0, .int .u8 0, .int .i64 0, .int .i64 0] 32 ∧ Upd2 S L w (w1.setCell ⟨S, 0, none⟩ (.slice (some ⟨L, 0, none⟩) m s.room)) := by
    intro w1 ho1 hg1
    have hset := (Upd.refl S w1).set 0 (.slice (some ⟨L, 0, none⟩) m s.room)
    have hSL := HTA.out.ne
    have hSo : Obj1 w1 S _ _ := ((HTA.out.2.1.alloc (.cells (sloC ⟨p, 0, 0⟩).toArray 32))).of_grown hg1 (by simpa using hSL)
    have hKo : Obj1 w1 w.heap.size _ _ := HH1.out.of_grown hg1 (by have := HLT.out.2; simp; omega)
    have hRo : Obj1 w1 (w.heap.size + 1) _ _ := (HRA.out.alloc (.cells (sloC ⟨p, 0, 0⟩).toArray 32)).of_grown hg1 (by have := HLT.out.2; simp; omega)
    refine ⟨hKo.of_grown hset (by have := HLT.out.1; simp; omega), ⟨hSo.cell 0, hSo.free 0, hKo⟩, ⟨?_, hSo.set 0 _, ?_⟩, hRo.of_grown hset (by have := HLT.out.1; simp; omega), ?_⟩
    · rw [HL2.out, HM.out]; simp; exact HTA.out.1
    · show RoomO _ L m s.room 10 (slosC l2) _
      rw [HL2.out, slosC_append, slosC_cons, slosC_nil, List.append_nil]
      exact (RoomO.of ho1).grown hset (by simpa using hSL.symm)
    · exact ((HUA.out.next (bl_alloc (Below.refl _ _) _)).trans (Upd2.of2 hg1)).trans (Upd2.of1 hset)
  have FIN := Lib.hid fin
  have k0 : (0 : Int) ≤ (n : Int) := Int.natCast_nonneg n
  have k1 : (n : Int) < (m : Int) := by have := HM.out; omega
  have k2 : n < m := by have := HM.out; omega
  clear fin hsl
  refine wpAnyH_ready (rs := [4, 7]) (by kernel_rfl) (by simp) ?_
  refine AllReadyH.cons rfl (fun K hK => ?_) ?_
  · go_simp
    refine hK.out _ _ (hHeld) (fun hHeld => ?_)
    clear hK K
    refine wpAnyH_ready (rs := [7]) (by kernel_rfl) (by simp) ?_
    refine AllReadyH.cons rfl (fun K hK => ?_) AllReadyH.nil
    refine gwanted rfl ?_
    refine wp_slot1 (s := ⟨p, 0, 0⟩) hp (.tmp 78) rfl rfl ?_
    refine hK.out _ _ HH1.out (fun hHeld => ?_)
    clear hK K
    refine wpAnyH_ready (rs := [8]) (by kernel_rfl) (by simp) ?_
    refine AllReadyH.cons rfl (fun K hK => ?_) AllReadyH.nil
    refine gwanted rfl ?_
    refine wp_fits (.tmp 76) (.tmp 79) 36 32 10 rfl Try.underlying36 rfl L n s.room (slosC s.l) ⟨W0.heap.size, 0, none⟩ 1 1 (sloC ⟨p, 0, 0⟩) rfl rfl HW1.out hl10 HN1.out (sloC_one _) (by omega) ?_
    intro w1 ho1 hg1
    rw [← HM.out] at ho1 ⊢
    have HF := Lib.hid (FIN.out w1 ho1 hg1)
    clear ho1 hg1
    refine hK.out _ _ HF.out.2.1.2.2 (fun hHeld => ?_)
    clear hK K
    have s1 := HF.out.2.1.1
    have s2 := HF.out.2.1.2.1
    refine wpAnyH_take (i := 9) (v := ?_) rfl (by kernel_rfl) (by kernel_rfl) (by kernel_rfl) (fun _ _ _ h => h) (Or.inl ⟨by rfl, ?_⟩) (by assumption) ?_
    rotate_left
    · intro w hSw; (try dsimp only at hSw); go_simp
      try with_reducible rfl
    refine wpAnyH_take (i := 10) (v := ?_) rfl (by kernel_rfl) (by kernel_rfl) (by kernel_rfl) (fun _ _ _ h => h) (Or.inl ⟨by rfl, ?_⟩) (by assumption) ?_
    rotate_left
    · intro w hSw; (try dsimp only at hSw); go_simp
      try with_reducible rfl
    go_simp
    refine wpAnyH_ready (rs := [11]) (by kernel_rfl) (by simp) ?_
    refine AllReadyH.cons rfl (fun K hK => ?_) ?_
    rotate_left
    · exact AllReadyH.nil
    go_simp
    refine hK.out _ _ (HF.out.1) (fun hHeld => ?_)
    clear hK K
    refine wpAnyH_done (by kernel_rfl) ?_ _
    have HT := Lib.hid HF.out.2.2.1
    have HRR := Lib.hid HF.out.2.2.2.1
    have HU := Lib.hid HF.out.2.2.2.2
    clear s1 s2 r0 r1
    generalize hW9 : World.setCell w1 _ _ = W9 at hHeld HT HRR HU ⊢
    clear hW9 hHeld HF FIN HH1 HW1 HN1 HSL HTA HRA HUA
    go_wp2_with fail

    have HX8 := Lib.hid (slo_count HT.out.2.2 HPX2.out HX2.out).1
    have hRL : w.heap.size + 1 ≠ L := HNE.out.1
    have hRS : w.heap.size + 1 ≠ S := HNE.out.2
    refine wp_region_held_drew (S := (fun w' => w'.cell? ⟨S, 0, none⟩ = some (.slice (some ⟨L, 0, none⟩) m s.room))) (by kernel_rfl) ((HT.out.2.1.cell 0)) (fun hHeld => ?_)
    generalize hW0 : World.drew _ = W0 at hHeld ⊢
    have HT0 := Lib.hid (show SkO W0 S L m ⟨l2, s.room, tt⟩ by rw [← hW0]; exact HT.out)
    have HR0 := Lib.hid (show Obj1 W0 (w.heap.size + 1) #[.bool false, .int .u8 0, .int .u8 0, .int .u8 0, .int .u8 0, .int .u8 0, .int .u8 0, .int .u8 0, .int .i64 0, .int .i64 0] 32 by rw [← hW0]; exact HRR.out)
    have HU0 := Lib.hid (show Upd2 S L w W0 by rw [← hW0]; exact HU.out)
    have r1 : W0.cell? ⟨L, n * 10 + 8, none⟩ = some (.int .i64 x2.c) := by rw [← hW0]; exact HX8.out
    clear hW0
    refine wpAnyH_take (i := 0) (v := ?_) rfl (by kernel_rfl) (by kernel_rfl) (by kernel_rfl) (fun _ _ _ h => h) (Or.inl ⟨by rfl, ?_⟩) (by assumption) ?_
    rotate_left
    · intro w hSw; (try dsimp only at hSw); go_simp
      try with_reducible rfl
    refine wpAnyH_take (i := 1) (v := ?_) rfl (by kernel_rfl) (by kernel_rfl) (by kernel_rfl) (fun _ _ _ h => h) (Or.inl ⟨by rfl, ?_⟩) (by assumption) ?_
    rotate_left
    · intro w hSw; (try dsimp only at hSw); go_simp
      try with_reducible rfl
    go_simp
    refine wpAnyH_take (i := 2) (v := ?_) rfl (by kernel_rfl) (by kernel_rfl) (by kernel_rfl) (fun _ _ _ h => h) (Or.inl ⟨by rfl, ?_⟩) (by assumption) ?_
    rotate_left
    · intro w hSw; (try dsimp only at hSw); go_simp
      try with_reducible rfl
    refine wpAnyH_take (i := 3) (v := ?_) rfl (by kernel_rfl) (by kernel_rfl) (by kernel_rfl) (fun _ _ _ h => h) (Or.inl ⟨by rfl, ?_⟩) (by assumption) ?_
    rotate_left
    · intro w hSw; (try dsimp only at hSw); go_simp
      try with_reducible rfl
    go_simp
    refine wpAnyH_take (i := 4) (v := ?_) rfl (by kernel_rfl) (by kernel_rfl) (by kernel_rfl) (fun _ _ _ h => h) (Or.inl ⟨by rfl, ?_⟩) (by assumption) ?_
    rotate_left
    · intro w hSw; (try dsimp only at hSw); go_simp
      try with_reducible rfl
    refine wpAnyH_take (i := 5) (v := ?_) rfl (by kernel_rfl) (by kernel_rfl) (by kernel_rfl) (fun _ _ _ h => h) (Or.inl ⟨by rfl, ?_⟩) (by assumption) ?_
    rotate_left
    · intro w hSw; (try dsimp only at hSw); go_simp
      try with_reducible rfl
    go_simp
    refine wpAnyH_take (i := 6) (v := ?_) rfl (by kernel_rfl) (by kernel_rfl) (by kernel_rfl) (fun _ _ _ h => h) (Or.inl ⟨by rfl, ?_⟩) (by assumption) ?_
    rotate_left
    · intro w hSw; (try dsimp only at hSw); go_simp
      try with_reducible rfl
    refine wpAnyH_take (i := 7) (v := ?_) rfl (by kernel_rfl) (by kernel_rfl) (by kernel_rfl) (fun _ _ _ h => h) (Or.inl ⟨by rfl, ?_⟩) (by assumption) ?_
    rotate_left
    · intro w hSw; (try dsimp only at hSw); go_simp
      try with_reducible rfl
    go_simp
    refine wpAnyH_take (i := 8) (v := ?_) rfl (by kernel_rfl) (by kernel_rfl) (by kernel_rfl) (fun _ _ _ h => h) (Or.inl ⟨by rfl, ?_⟩) (by assumption) ?_
    rotate_left
    · intro w hSw; (try dsimp only at hSw); go_simp
      try with_reducible rfl
    refine wpAnyH_take (i := 9) (v := ?_) rfl (by kernel_rfl) (by kernel_rfl) (by kernel_rfl) (fun _ _ _ h => h) (Or.inl ⟨by rfl, ?_⟩) (by assumption) ?_
    rotate_left
    · intro w hSw; (try dsimp only at hSw); go_simp
      try with_reducible rfl
    go_simp
    refine wpAnyH_take (i := 10) (v := ?_) rfl (by kernel_rfl) (by kernel_rfl) (by kernel_rfl) (fun _ _ _ h => h) (Or.inl ⟨by rfl, ?_⟩) (by assumption) ?_
    rotate_left
    · intro w hSw; (try dsimp only at hSw); go_simp
      try with_reducible rfl
    refine wpAnyH_take (i := 11) (v := ?_) rfl (by kernel_rfl) (by kernel_rfl) (by kernel_rfl) (fun _ _ _ h => h) (Or.inl ⟨by rfl, ?_⟩) (by assumption) ?_
    rotate_left
    · intro w hSw; (try dsimp only at hSw); go_simp
      try with_reducible rfl
    go_simp
    refine wpAnyH_take (i := 13) (v := ?_) rfl (by kernel_rfl) (by kernel_rfl) (by kernel_rfl) (fun _ _ _ h => h) (Or.inl ⟨by rfl, ?_⟩) (by assumption) ?_
    rotate_left
    · intro w hSw; (try dsimp only at hSw); go_simp
      try with_reducible rfl
    go_simp
    refine wpAnyH_ready (rs := [12]) (by kernel_rfl) (by simp) ?_
    refine AllReadyH.cons rfl (fun K hK => ?_) ?_
    rotate_left
    · exact AllReadyH.nil
    go_simp
    refine hK.out _ _ (hHeld) (fun hHeld => ?_)
    clear hK K
    have g1 : (W0.alloc (.cells #[.int .i64 x2.c, .int .i64 (cnt n0)] 2)).cell? ⟨L, n * 10 + 8, none⟩ = some (.int .i64 x2.c) := bl_keeps (bl_alloc (Below.refl _ _) _) r1
    have g2 : (W0.alloc (.cells #[.int .i64 x2.c, .int .i64 (cnt n0)] 2)).frozen? ⟨L, n * 10 + 8, none⟩ = false := (HT0.out.2.2.below (bl_alloc (Below.refl _ _) _)).free _
    have g3 : (W0.alloc (.cells #[.int .i64 x2.c, .int .i64 (cnt n0)] 2)).cell? ⟨S, 0, none⟩ = some (.slice (some ⟨L, 0, none⟩) m s.room) := bl_keeps (bl_alloc (Below.refl _ _) _) hHeld
    clear r1
    refine wpAnyH_ready (rs := [14]) (by kernel_rfl) (by simp) ?_
    refine AllReadyH.cons rfl (fun K hK => ?_) ?_
    rotate_left
    · exact AllReadyH.nil
    go_simp
    refine hK.out _ _ (g3) (fun hHeld => ?_)
    clear hK K
    refine wpAnyH_ready (rs := [15]) (by kernel_rfl) (by simp) ?_
    refine AllReadyH.cons rfl (fun K hK => ?_) AllReadyH.nil
    go_simp
    refine (Add2_w x2.c (cnt n0) _ _ (new_at rfl rfl) (new_at rfl rfl)).mono ?_
    rintro e w' ⟨rfl, rfl⟩
    dsimp only
    refine hK.out _ _ (g3) (fun hHeld => ?_)
    clear hK K
    go_simp
    obtain ⟨c3, hc3⟩ : ∃ c3, plus (cnt x2.c) (cnt n0) = c3 := ⟨_, rfl⟩
    rw [hc3]
    generalize hWX : World.alloc W0 _ = WX at hHeld g1 g2 g3 ⊢
    have HTX := Lib.hid (show SkO WX S L m ⟨l2, s.room, tt⟩ by rw [← hWX]; exact HT0.out.below (bl_alloc (Below.refl _ _) _))
    have HRX := Lib.hid (show Obj1 WX (w.heap.size + 1) #[.bool false, .int .u8 0, .int .u8 0, .int .u8 0, .int .u8 0, .int .u8 0, .int .u8 0, .int .u8 0, .int .i64 0, .int .i64 0] 32 by rw [← hWX]; exact HR0.out.alloc _)
    have HUX := Lib.hid (show Upd2 S L w WX by rw [← hWX]; exact HU0.out.next (bl_alloc (Below.refl _ _) _))
    have HC3 := Lib.hid (show plus (cnt x2.c) n0 = c3 by rw [← hc3, plus_cntR])
    clear hWX hc3
    have hset := (Upd.refl L WX).set (n * 10 + 8) (.int .i64 c3)
    have hSo := (HTX.out.2.1.of_grown hset (by simpa using HTX.out.ne))
    have g4 : (WX.setCell ⟨L, n * 10 + 8, none⟩ (.int .i64 c3)).cell? ⟨S, 0, none⟩ = some (.slice (some ⟨L, 0, none⟩) m s.room) := hSo.cell 0
    have hlt2 : n < l2.length := (List.getElem?_eq_some_iff.1 HX2.out).1
    have hRo := HTX.out.2.2.set (n * 10 + 8) (by have := HTX.out.1; simp at this; omega) (.int .i64 c3)
    rw [← slosC_count HPX2.out HX2.out c3] at hRo
    have HTY := Lib.hid (show SkO (WX.setCell ⟨L, n * 10 + 8, none⟩ (.int .i64 c3)) S L m ⟨l2.set n { x2 with c := c3 }, s.room, tt⟩ from ⟨by have := HTX.out.1; simpa using this, hSo, hRo⟩)
    have HRY := Lib.hid (HRX.out.of_grown hset (by simpa using hRL))
    have HUY := Lib.hid (HUX.out.trans (Upd2.of2 (B := S) hset))
    have HPX3 := Lib.hid (show ∀ x ∈ l2.set n { x2 with c := c3 }, okPx x.p from fun x hx => by
      rcases List.mem_or_eq_of_mem_set hx with h | h
      · exact HPX2.out x h
      · rw [h]; exact hx2p)
    have HX3 := Lib.hid (show (l2.set n { x2 with c := c3 })[n]? = some { x2 with c := c3 } by rw [List.getElem?_set_self hlt2])
    clear hset hSo hRo
    refine wpAnyH_take (i := 16) (v := ?_) rfl (by kernel_rfl) (by kernel_rfl) (by kernel_rfl) (fun _ _ _ h => h) (Or.inl ⟨by rfl, ?_⟩) (by assumption) ?_
    rotate_left
    · intro w hSw; (try dsimp only at hSw); go_simp
      try with_reducible rfl
    refine wpAnyH_take (i := 17) (v := ?_) rfl (by kernel_rfl) (by kernel_rfl) (by kernel_rfl) (fun _ _ _ h => h) (Or.inl ⟨by rfl, ?_⟩) (by assumption) ?_
    rotate_left
    · intro w hSw; (try dsimp only at hSw); go_simp
      try with_reducible rfl
    go_simp
    refine wpAnyH_ready (rs := [18]) (by kernel_rfl) (by simp) ?_
    refine AllReadyH.cons rfl (fun K hK => ?_) ?_
    rotate_left
    · exact AllReadyH.nil
    go_simp
    refine hK.out _ _ (g4) (fun hHeld => ?_)
    clear hK K
    refine wpAnyH_done (by kernel_rfl) ?_ _
    have HC := Lib.hid (slo_cells HTY.out.2.2 HPX3.out HX3.out)
    have HSZ := Lib.hid (slo_size (s := { x2 with c := c3 }) hx2p)
    have HSA := Lib.hid (slo_sizeA (s := { x2 with c := c3 }) hx2p)
    have hlen := sloC_length (s := { x2 with c := c3 }) hx2p
    clear g1 g2 g3
    generalize hWY : World.setCell WX _ _ = WY at hHeld g4 HTY HRY HUY HC ⊢
    clear hWY
    obtain ⟨x3, hx3⟩ : ∃ x3, x3 = ({ x2 with c := c3 } : Slo) := ⟨_, rfl⟩
    rw [← hx3] at HC HSZ HSA hlen HX3 HTY HPX3
    have HX3E := Lib.hid hx3
    clear hx3
    go_wp2_with (first
      | (refine load_cells rfl 32 (.tmp 106) rfl ⟨L, n * 10, none⟩ (sloC x3) _ rfl HC.out Try.underlying32 rfl HSZ.out ?_)
      | (refine store_obj rfl 32 (.tmp 6) (.tmp 107) rfl (w.heap.size + 1) 32 _ (sloC x3).toArray rfl rfl HRY.out (by simp [hlen]) HSA.out (all_oneCell_toArray (sloC_one x3)) ?_; intro w9 hob9 hup9; have HOB9 := Lib.hid hob9; have HUP9 := Lib.hid hup9; clear hob9 hup9))
    refine bodyPost_ret (results_cell_row rfl _ _ (w.heap.size + 1) 32 (sloC x3).toArray (0, 0) _ rfl HOB9.out Try.underlying32 rfl HSA.out) rfl ?_
    have hUend : Upd2 S L w w9 := HUY.out.aside HUP9.out (by omega)
    have hE : skAdd s p n0 = ⟨l2.set n x3, s.room, tt⟩ := by rw [HEQ.out, HC3.out, HTO9.out, HX3E.out]
    have hSO : SkO w9 S L m (skAdd s p n0) := by rw [hE]; exact HTY.out.grown HUP9.out (by have := HNE.out; simp; omega) (by have := HNE.out; simp; omega)
    exact ⟨x3, by rw [hE, HAT.out]; exact HX3.out, rfl, hSO, hUend⟩

  · refine AllReadyH.cons rfl (fun K hK => ?_) AllReadyH.nil
    refine gwanted rfl ?_
    refine wp_slot1 (s := ⟨p, 0, 0⟩) hp (.tmp 78) rfl rfl ?_
    refine hK.out _ _ HH1.out (fun hHeld => ?_)
    clear hK K
    refine wpAnyH_ready (rs := [4]) (by kernel_rfl) (by simp) ?_
    refine AllReadyH.cons rfl (fun K hK => ?_) AllReadyH.nil
    go_simp
    refine hK.out _ _ hHeld (fun hHeld => ?_)
    clear hK K
    refine wpAnyH_ready (rs := [8]) (by kernel_rfl) (by simp) ?_
    refine AllReadyH.cons rfl (fun K hK => ?_) AllReadyH.nil
    refine gwanted rfl ?_
    refine wp_fits (.tmp 76) (.tmp 79) 36 32 10 rfl Try.underlying36 rfl L n s.room (slosC s.l) ⟨W0.heap.size, 0, none⟩ 1 1 (sloC ⟨p, 0, 0⟩) rfl rfl HW1.out hl10 HN1.out (sloC_one _) (by omega) ?_
    intro w1 ho1 hg1
    rw [← HM.out] at ho1 ⊢
    have HF := Lib.hid (FIN.out w1 ho1 hg1)
    clear ho1 hg1
    refine hK.out _ _ HF.out.2.1.2.2 (fun hHeld => ?_)
    clear hK K
    have s1 := HF.out.2.1.1
    have s2 := HF.out.2.1.2.1
    refine wpAnyH_take (i := 9) (v := ?_) rfl (by kernel_rfl) (by kernel_rfl) (by kernel_rfl) (fun _ _ _ h => h) (Or.inl ⟨by rfl, ?_⟩) (by assumption) ?_
    rotate_left
    · intro w hSw; (try dsimp only at hSw); go_simp
      try with_reducible rfl
    refine wpAnyH_take (i := 10) (v := ?_) rfl (by kernel_rfl) (by kernel_rfl) (by kernel_rfl) (fun _ _ _ h => h) (Or.inl ⟨by rfl, ?_⟩) (by assumption) ?_
    rotate_left
    · intro w hSw; (try dsimp only at hSw); go_simp
      try with_reducible rfl
    go_simp
    refine wpAnyH_ready (rs := [11]) (by kernel_rfl) (by simp) ?_
    refine AllReadyH.cons rfl (fun K hK => ?_) ?_
    rotate_left
    · exact AllReadyH.nil
    go_simp
    refine hK.out _ _ (HF.out.1) (fun hHeld => ?_)
    clear hK K
    refine wpAnyH_done (by kernel_rfl) ?_ _
    have HT := Lib.hid HF.out.2.2.1
    have HRR := Lib.hid HF.out.2.2.2.1
    have HU := Lib.hid HF.out.2.2.2.2
    clear s1 s2 r0 r1
    generalize hW9 : World.setCell w1 _ _ = W9 at hHeld HT HRR HU ⊢
    clear hW9 hHeld HF FIN HH1 HW1 HN1 HSL HTA HRA HUA
    go_wp2_with fail

    have HX8 := Lib.hid (slo_count HT.out.2.2 HPX2.out HX2.out).1
    have hRL : w.heap.size + 1 ≠ L := HNE.out.1
    have hRS : w.heap.size + 1 ≠ S := HNE.out.2
    refine wp_region_held_drew (S := (fun w' => w'.cell? ⟨S, 0, none⟩ = some (.slice (some ⟨L, 0, none⟩) m s.room))) (by kernel_rfl) ((HT.out.2.1.cell 0)) (fun hHeld => ?_)
    generalize hW0 : World.drew _ = W0 at hHeld ⊢
    have HT0 := Lib.hid (show SkO W0 S L m ⟨l2, s.room, tt⟩ by rw [← hW0]; exact HT.out)
    have HR0 := Lib.hid (show Obj1 W0 (w.heap.size + 1) #[.bool false, .int .u8 0, .int .u8 0, .int .u8 0, .int .u8 0, .int .u8 0, .int .u8 0, .int .u8 0, .int .i64 0, .int .i64 0] 32 by rw [← hW0]; exact HRR.out)
    have HU0 := Lib.hid (show Upd2 S L w W0 by rw [← hW0]; exact HU.out)
    have r1 : W0.cell? ⟨L, n * 10 + 8, none⟩ = some (.int .i64 x2.c) := by rw [← hW0]; exact HX8.out
    clear hW0
    refine wpAnyH_take (i := 0) (v := ?_) rfl (by kernel_rfl) (by kernel_rfl) (by kernel_rfl) (fun _ _ _ h => h) (Or.inl ⟨by rfl, ?_⟩) (by assumption) ?_
    rotate_left
    · intro w hSw; (try dsimp only at hSw); go_simp
      try with_reducible rfl
    refine wpAnyH_take (i := 1) (v := ?_) rfl (by kernel_rfl) (by kernel_rfl) (by kernel_rfl) (fun _ _ _ h => h) (Or.inl ⟨by rfl, ?_⟩) (by assumption) ?_
    rotate_left
    · intro w hSw; (try dsimp only at hSw); go_simp
      try with_reducible rfl
    go_simp
    refine wpAnyH_take (i := 2) (v := ?_) rfl (by kernel_rfl) (by kernel_rfl) (by kernel_rfl) (fun _ _ _ h => h) (Or.inl ⟨by rfl, ?_⟩) (by assumption) ?_
    rotate_left
    · intro w hSw; (try dsimp only at hSw); go_simp
      try with_reducible rfl
    refine wpAnyH_take (i := 3) (v := ?_) rfl (by kernel_rfl) (by kernel_rfl) (by kernel_rfl) (fun _ _ _ h => h) (Or.inl ⟨by rfl, ?_⟩) (by assumption) ?_
    rotate_left
    · intro w hSw; (try dsimp only at hSw); go_simp
      try with_reducible rfl
    go_simp
    refine wpAnyH_take (i := 4) (v := ?_) rfl (by kernel_rfl) (by kernel_rfl) (by kernel_rfl) (fun _ _ _ h => h) (Or.inl ⟨by rfl, ?_⟩) (by assumption) ?_
    rotate_left
    · intro w hSw; (try dsimp only at hSw); go_simp
      try with_reducible rfl
    refine wpAnyH_take (i := 5) (v := ?_) rfl (by kernel_rfl) (by kernel_rfl) (by kernel_rfl) (fun _ _ _ h => h) (Or.inl ⟨by rfl, ?_⟩) (by assumption) ?_
    rotate_left
    · intro w hSw; (try dsimp only at hSw); go_simp
      try with_reducible rfl
    go_simp
    refine wpAnyH_take (i := 6) (v := ?_) rfl (by kernel_rfl) (by kernel_rfl) (by kernel_rfl) (fun _ _ _ h => h) (Or.inl ⟨by rfl, ?_⟩) (by assumption) ?_
    rotate_left
    · intro w hSw; (try dsimp only at hSw); go_simp
      try with_reducible rfl
    refine wpAnyH_take (i := 7) (v := ?_) rfl (by kernel_rfl) (by kernel_rfl) (by kernel_rfl) (fun _ _ _ h => h) (Or.inl ⟨by rfl, ?_⟩) (by assumption) ?_
    rotate_left
    · intro w hSw; (try dsimp only at hSw); go_simp
      try with_reducible rfl
    go_simp
    refine wpAnyH_take (i := 8) (v := ?_) rfl (by kernel_rfl) (by kernel_rfl) (by kernel_rfl) (fun _ _ _ h => h) (Or.inl ⟨by rfl, ?_⟩) (by assumption) ?_
    rotate_left
    · intro w hSw; (try dsimp only at hSw); go_simp
      try with_reducible rfl
    refine wpAnyH_take (i := 9) (v := ?_) rfl (by kernel_rfl) (by kernel_rfl) (by kernel_rfl) (fun _ _ _ h => h) (Or.inl ⟨by rfl, ?_⟩) (by assumption) ?_
    rotate_left
    · intro w hSw; (try dsimp only at hSw); go_simp
      try with_reducible rfl
    go_simp
    refine wpAnyH_take (i := 10) (v := ?_) rfl (by kernel_rfl) (by kernel_rfl) (by kernel_rfl) (fun _ _ _ h => h) (Or.inl ⟨by rfl, ?_⟩) (by assumption) ?_
    rotate_left
    · intro w hSw; (try dsimp only at hSw); go_simp
      try with_reducible rfl
    refine wpAnyH_take (i := 11) (v := ?_) rfl (by kernel_rfl) (by kernel_rfl) (by kernel_rfl) (fun _ _ _ h => h) (Or.inl ⟨by rfl, ?_⟩) (by assumption) ?_
    rotate_left
    · intro w hSw; (try dsimp only at hSw); go_simp
      try with_reducible rfl
    go_simp
    refine wpAnyH_take (i := 13) (v := ?_) rfl (by kernel_rfl) (by kernel_rfl) (by kernel_rfl) (fun _ _ _ h => h) (Or.inl ⟨by rfl, ?_⟩) (by assumption) ?_
    rotate_left
    · intro w hSw; (try dsimp only at hSw); go_simp
      try with_reducible rfl
    go_simp
    refine wpAnyH_ready (rs := [12]) (by kernel_rfl) (by simp) ?_
    refine AllReadyH.cons rfl (fun K hK => ?_) ?_
    rotate_left
    · exact AllReadyH.nil
    go_simp
    refine hK.out _ _ (hHeld) (fun hHeld => ?_)
    clear hK K
    have g1 : (W0.alloc (.cells #[.int .i64 x2.c, .int .i64 (cnt n0)] 2)).cell? ⟨L, n * 10 + 8, none⟩ = some (.int .i64 x2.c) := bl_keeps (bl_alloc (Below.refl _ _) _) r1
    have g2 : (W0.alloc (.cells #[.int .i64 x2.c, .int .i64 (cnt n0)] 2)).frozen? ⟨L, n * 10 + 8, none⟩ = false := (HT0.out.2.2.below (bl_alloc (Below.refl _ _) _)).free _
    have g3 : (W0.alloc (.cells #[.int .i64 x2.c, .int .i64 (cnt n0)] 2)).cell? ⟨S, 0, none⟩ = some (.slice (some ⟨L, 0, none⟩) m s.room) := bl_keeps (bl_alloc (Below.refl _ _) _) hHeld
    clear r1
    refine wpAnyH_ready (rs := [14]) (by kernel_rfl) (by simp) ?_
    refine AllReadyH.cons rfl (fun K hK => ?_) ?_
    rotate_left
    · exact AllReadyH.nil
    go_simp
    refine hK.out _ _ (g3) (fun hHeld => ?_)
    clear hK K
    refine wpAnyH_ready (rs := [15]) (by kernel_rfl) (by simp) ?_
    refine AllReadyH.cons rfl (fun K hK => ?_) AllReadyH.nil
    go_simp
    refine (Add2_w x2.c (cnt n0) _ _ (new_at rfl rfl) (new_at rfl rfl)).mono ?_
    rintro e w' ⟨rfl, rfl⟩
    dsimp only
    refine hK.out _ _ (g3) (fun hHeld => ?_)
    clear hK K
    go_simp
    obtain ⟨c3, hc3⟩ : ∃ c3, plus (cnt x2.c) (cnt n0) = c3 := ⟨_, rfl⟩
    rw [hc3]
    generalize hWX : World.alloc W0 _ = WX at hHeld g1 g2 g3 ⊢
    have HTX := Lib.hid (show SkO WX S L m ⟨l2, s.room, tt⟩ by rw [← hWX]; exact HT0.out.below (bl_alloc (Below.refl _ _) _))
    have HRX := Lib.hid (show Obj1 WX (w.heap.size + 1) #[.bool false, .int .u8 0, .int .u8 0, .int .u8 0, .int .u8 0, .int .u8 0, .int .u8 0, .int .u8 0, .int .i64 0, .int .i64 0] 32 by rw [← hWX]; exact HR0.out.alloc _)
    have HUX := Lib.hid (show Upd2 S L w WX by rw [← hWX]; exact HU0.out.next (bl_alloc (Below.refl _ _) _))
    have HC3 := Lib.hid (show plus (cnt x2.c) n0 = c3 by rw [← hc3, plus_cntR])
    clear hWX hc3
    have hset := (Upd.refl L WX).set (n * 10 + 8) (.int .i64 c3)
    have hSo := (HTX.out.2.1.of_grown hset (by simpa using HTX.out.ne))
    have g4 : (WX.setCell ⟨L, n * 10 + 8, none⟩ (.int .i64 c3)).cell? ⟨S, 0, none⟩ = some (.slice (some ⟨L, 0, none⟩) m s.room) := hSo.cell 0
    have hlt2 : n < l2.length := (List.getElem?_eq_some_iff.1 HX2.out).1
    have hRo := HTX.out.2.2.set (n * 10 + 8) (by have := HTX.out.1; simp at this; omega) (.int .i64 c3)
    rw [← slosC_count HPX2.out HX2.out c3] at hRo
    have HTY := Lib.hid (show SkO (WX.setCell ⟨L, n * 10 + 8, none⟩ (.int .i64 c3)) S L m ⟨l2.set n { x2 with c := c3 }, s.room, tt⟩ from ⟨by have := HTX.out.1; simpa using this, hSo, hRo⟩)
    have HRY := Lib.hid (HRX.out.of_grown hset (by simpa using hRL))
    have HUY := Lib.hid (HUX.out.trans (Upd2.of2 (B := S) hset))
    have HPX3 := Lib.hid (show ∀ x ∈ l2.set n { x2 with c := c3 }, okPx x.p from fun x hx => by
      rcases List.mem_or_eq_of_mem_set hx with h | h
      · exact HPX2.out x h
      · rw [h]; exact hx2p)
    have HX3 := Lib.hid (show (l2.set n { x2 with c := c3 })[n]? = some { x2 with c := c3 } by rw [List.getElem?_set_self hlt2])
    clear hset hSo hRo
    refine wpAnyH_take (i := 16) (v := ?_) rfl (by kernel_rfl) (by kernel_rfl) (by kernel_rfl) (fun _ _ _ h => h) (Or.inl ⟨by rfl, ?_⟩) (by assumption) ?_
    rotate_left
    · intro w hSw; (try dsimp only at hSw); go_simp
      try with_reducible rfl
    refine wpAnyH_take (i := 17) (v := ?_) rfl (by kernel_rfl) (by kernel_rfl) (by kernel_rfl) (fun _ _ _ h => h) (Or.inl ⟨by rfl, ?_⟩) (by assumption) ?_
    rotate_left
    · intro w hSw; (try dsimp only at hSw); go_simp
      try with_reducible rfl
    go_simp
    refine wpAnyH_ready (rs := [18]) (by kernel_rfl) (by simp) ?_
    refine AllReadyH.cons rfl (fun K hK => ?_) ?_
    rotate_left
    · exact AllReadyH.nil
    go_simp
    refine hK.out _ _ (g4) (fun hHeld => ?_)
    clear hK K
    refine wpAnyH_done (by kernel_rfl) ?_ _
    have HC := Lib.hid (slo_cells HTY.out.2.2 HPX3.out HX3.out)
    have HSZ := Lib.hid (slo_size (s := { x2 with c := c3 }) hx2p)
    have HSA := Lib.hid (slo_sizeA (s := { x2 with c := c3 }) hx2p)
    have hlen := sloC_length (s := { x2 with c := c3 }) hx2p
    clear g1 g2 g3
    generalize hWY : World.setCell WX _ _ = WY at hHeld g4 HTY HRY HUY HC ⊢
    clear hWY
    obtain ⟨x3, hx3⟩ : ∃ x3, x3 = ({ x2 with c := c3 } : Slo) := ⟨_, rfl⟩
    rw [← hx3] at HC HSZ HSA hlen HX3 HTY HPX3
    have HX3E := Lib.hid hx3
    clear hx3
    go_wp2_with (first
      | (refine load_cells rfl 32 (.tmp 106) rfl ⟨L, n * 10, none⟩ (sloC x3) _ rfl HC.out Try.underlying32 rfl HSZ.out ?_)
      | (refine store_obj rfl 32 (.tmp 6) (.tmp 107) rfl (w.heap.size + 1) 32 _ (sloC x3).toArray rfl rfl HRY.out (by simp [hlen]) HSA.out (all_oneCell_toArray (sloC_one x3)) ?_; intro w9 hob9 hup9; have HOB9 := Lib.hid hob9; have HUP9 := Lib.hid hup9; clear hob9 hup9))
    refine bodyPost_ret (results_cell_row rfl _ _ (w.heap.size + 1) 32 (sloC x3).toArray (0, 0) _ rfl HOB9.out Try.underlying32 rfl HSA.out) rfl ?_
    have hUend : Upd2 S L w w9 := HUY.out.aside HUP9.out (by omega)
    have hE : skAdd s p n0 = ⟨l2.set n x3, s.room, tt⟩ := by rw [HEQ.out, HC3.out, HTO9.out, HX3E.out]
    have hSO : SkO w9 S L m (skAdd s p n0) := by rw [hE]; exact HTY.out.grown HUP9.out (by have := HNE.out; simp; omega) (by have := HNE.out; simp; omega)
    exact ⟨x3, by rw [hE, HAT.out]; exact HX3.out, rfl, hSO, hUend⟩


set_option maxRecDepth 100000 in
set_option maxHeartbeats 4000000 in
theorem skAddLeast_w (S L n : Nat) (s : Sk) (hsk : okSk s) (p : Px) (hp : okPx p) (n0 : Int) (w : World) (h : SkO w S L n s) (hf : ¬ fnd s.l p < s.l.length) (hroom : ¬ s.l.length < s.room) :
    Calls Try.prog 14 #[.pointer (some ⟨S, 0, none⟩), .agg (pxC p).toArray, .int .i64 n0] w fun e w' => ∃ x, (skAdd s p n0).l[skAt s p]? = some x ∧ e = .returned (.agg (sloC x).toArray) ∧ SkO w' S L n (skAdd s p n0) ∧ Upd2 S L w w' := by
  have HN := Lib.hid h.1
  have HPA := Lib.hid (px_sizeA hp)
  have HLT := Lib.hid (show S < w.heap.size ∧ L < w.heap.size from ⟨h.2.1.lt, h.2.2.lt⟩)
  have HNE := Lib.hid (show w.heap.size + 1 ≠ L ∧ w.heap.size + 1 ≠ S from by have := HLT.out; omega)
  have hb1 := bl_alloc (Below.refl w.heap.size w) (.cells (pxC p).toArray 30)
  have hb2 := bl_next hb1 (bl_alloc (Below.refl _ _) (.cells #[.bool false, .int .u8 0, .int .u8 0, .int .u8 0, .int .u8 0, .int .u8 0, .int .u8 0, .int .u8 0, .int .i64 0, .int .i64 0] 32))
  have HB0 := Lib.hid hb2
  have HK0 := Lib.hid ((Obj1.new w (pxC p).toArray 30).alloc (.cells #[.bool false, .int .u8 0, .int .u8 0, .int .u8 0, .int .u8 0, .int .u8 0, .int .u8 0, .int .u8 0, .int .i64 0, .int .i64 0] 32))
  have HR0 := Lib.hid (show Obj1 ((w.alloc (.cells (pxC p).toArray 30)).alloc (.cells #[.bool false, .int .u8 0, .int .u8 0, .int .u8 0, .int .u8 0, .int .u8 0, .int .u8 0, .int .u8 0, .int .i64 0, .int .i64 0] 32)) (w.heap.size + 1) #[.bool false, .int .u8 0, .int .u8 0, .int .u8 0, .int .u8 0, .int .u8 0, .int .u8 0, .int .u8 0, .int .i64 0, .int .i64 0] 32 by
    have := Obj1.new (w.alloc (.cells (pxC p).toArray 30)) #[.bool false, .int .u8 0, .int .u8 0, .int .u8 0, .int .u8 0, .int .u8 0, .int .u8 0, .int .u8 0, .int .i64 0, .int .i64 0] 32
    rwa [World.size_alloc] at this)
  have HT0 := Lib.hid (h.below hb2)
  clear h hb1 hb2
  go_enter Try.func14, Try.ntmps14
  go_wp2_with fail
  refine (Count_w n0 _).mono ?_
  rintro e w' ⟨rfl, rfl⟩
  have HTB := Lib.hid (HT0.out.below (bl_alloc (Below.refl _ _) (.cells #[.int .i64 s.total, .int .i64 (cnt n0)] 2)))
  generalize hWA : World.alloc (World.alloc w _) _ = WA at HB0 HK0 HR0 HT0 HTB ⊢
  have hWAs : WA.heap.size = w.heap.size + 2 := by rw [← hWA, World.size_alloc, World.size_alloc]
  have HWA := Lib.hid hWAs
  clear hWA hWAs
  have q0 : WA.cell? ⟨S, 1, none⟩ = some (.int .i64 s.total) := HT0.out.2.1.cell 1
  generalize hWB : World.alloc WA (.cells #[.int .i64 s.total, .int .i64 (cnt n0)] 2) = WB at HTB
  have q1 : WB.cell? ⟨S, 1, none⟩ = some (.int .i64 s.total) := HTB.out.2.1.cell 1
  have q2 : WB.frozen? ⟨S, 1, none⟩ = false := HTB.out.2.1.free 1
  have HWB := Lib.hid hWB
  clear hWB
  obtain ⟨tt, htt⟩ : ∃ tt, plus (cnt s.total) n0 = tt := ⟨_, rfl⟩
  have HTO9 := Lib.hid htt
  have hset := (Upd.refl S WB).set 1 (.int .i64 tt)
  have hgB : WA.grownBy WB none := by rw [← HWB.out]; exact World.grownBy_alloc WA _ none
  have hBu : Upd2 S L w WB := by rw [← HWB.out]; exact (Upd2.of_below HB0.out).next (bl_alloc (Below.refl _ _) _)
  have HKC := Lib.hid (((HK0.out.of_grown hgB (by simp)).of_grown hset (by have := HLT.out; simp; omega)))
  have HRC := Lib.hid (((HR0.out.of_grown hgB (by simp)).of_grown hset (by have := HNE.out; simp; omega)))
  have HTC := Lib.hid (show SkO (WB.setCell ⟨S, 1, none⟩ (.int .i64 tt)) S L n ⟨s.l, s.room, tt⟩ from ⟨HTB.out.1, HTB.out.2.1.set 1 _, HTB.out.2.2.grown hset (by have := HTB.out.ne; simp; omega)⟩)
  have HUC := Lib.hid (show Upd2 S L w (WB.setCell ⟨S, 1, none⟩ (.int .i64 tt)) from hBu.trans (Upd2.of1 hset))
  have hokt : okSk ⟨s.l, s.room, tt⟩ := ⟨hsk.1, hsk.2.1, hsk.2.2.1, by rw [← htt]; exact plus_range _ _ (cnt_range _)⟩
  clear hset hgB hBu htt
  go_wp2_with (first
    | (go_at_call 35; refine (Add2_w s.total (cnt n0) _ _ (new_at (by simp) rfl) (new_at (by simp) rfl)).mono ?_; rintro e w' ⟨rfl, rfl⟩; rw [plus_cntR, HTO9.out, HWB.out])
    | (refine load_obj rfl 30 (.tmp 4) rfl w.heap.size 30 (pxC p).toArray _ rfl HKC.out Try.underlying30 rfl HPA.out ?_))
  refine (find_w S L n _ hokt p hp _ HTC.out).mono ?_
  rintro e w2 ⟨rfl, hb2⟩
  have HT2 := Lib.hid (HTC.out.below hb2)
  have HK2 := Lib.hid (HKC.out.below hb2)
  have HR2 := Lib.hid (HRC.out.below hb2)
  have HU2 := Lib.hid (HUC.out.next hb2)
  clear hb2 q0 q1 q2 HKC HRC HTC HUC HB0 HK0 HR0 HT0 HTB HWA HWB
  dsimp only
  have hnr : s.l.length = s.room := by have := hsk.2.1; omega
  obtain ⟨k, hk⟩ : ∃ k, lst s.l n = k := ⟨_, rfl⟩
  have hn1 : 1 ≤ n := by have := hsk.1.1; have := HN.out; omega
  have hkn : k < n := by
    rw [← hk]
    rcases lst_lt s.l n with h | h <;> omega
  have hkl : k < s.l.length := by have := HN.out; omega
  obtain ⟨y, hy⟩ : ∃ y, s.l[k]? = some y := ⟨_, List.getElem?_eq_getElem hkl⟩
  obtain ⟨x2, hx2e⟩ : ∃ x2 : Slo, x2 = ⟨p, y.c, y.c⟩ := ⟨_, rfl⟩
  obtain ⟨l2, hl2⟩ : ∃ l2, skBase s p = l2 := ⟨_, rfl⟩
  have hl2s : l2 = s.l.set k x2 := by rw [← hl2]; unfold skBase; rw [if_neg hf, if_neg hroom, HN.out, hk, cntAt_of hy, hx2e]
  have hat : skAt s p = k := by unfold skAt; rw [if_neg hf, if_neg hroom, HN.out, hk]
  have hfv : fndV s.l p = -1 := by unfold fndV; rw [if_neg hf]
  have hx2 : l2[k]? = some x2 := by rw [hl2s, List.getElem?_set_self hkl]
  have hx2p : okPx x2.p := by rw [hx2e]; exact hp
  have HEQ := Lib.hid (skAdd_eq (n := n0) hl2 hat hx2)
  have HAT := Lib.hid hat
  have HX2 := Lib.hid hx2
  have HPX2 := Lib.hid (show ∀ x ∈ l2, okPx x.p by
    rw [hl2s]
    intro x hx
    rcases List.mem_or_eq_of_mem_set hx with h | h
    · exact hsk.px x h
    · rw [h]; exact hx2p)
  have q0 : w2.cell? ⟨S, 0, none⟩ = some (.slice (some ⟨L, 0, none⟩) n s.room) := HT2.out.2.1.cell 0
  have q1 : ¬ (n : Int) < (s.room : Int) := by have := HN.out; omega
  have q2 : decide ((n : Int) < (s.room : Int)) = false := by simp; have := HN.out; omega
  have q3 : ¬ n < s.room := by have := HN.out; omega
  have HL2 := Lib.hid hl2s
  have HXE := Lib.hid hx2e
  have HKK := Lib.hid hk
  have HY := Lib.hid hy
  rw [hfv]
  clear hk hl2 hl2s hat hfv hx2 hx2e hy hnr
  go_wp2_with fail
  go_quiet (fail)
  go_wp2_with fail
  refine (least_w S L n ⟨s.l, s.room, tt⟩ hokt (w2.drewN nq) (show SkO w2 S L n ⟨s.l, s.room, tt⟩ from HT2.out)).mono ?_
  rintro e w3 ⟨rfl, hb3⟩
  dsimp only
  rw [HKK.out]
  have HT3 := Lib.hid (SkO.below (w := w2.drewN nq) (show SkO w2 S L n ⟨s.l, s.room, tt⟩ from HT2.out) hb3)
  have HK3 := Lib.hid (Obj1.below (w := w2.drewN nq) HK2.out hb3)
  have HR3 := Lib.hid (Obj1.below (w := w2.drewN nq) HR2.out hb3)
  have HU3 := Lib.hid (Upd2.next (W := w2.drewN nq) HU2.out hb3)
  have HYC := Lib.hid (slo_count HT3.out.2.2 hsk.px HY.out).1
  have k0 : (0 : Int) ≤ (k : Int) := Int.natCast_nonneg k
  have k1 : (k : Int) < (n : Int) := by omega
  clear hb3 q0
  go_wp2_with fail
  refine wp_region_held_drew (S := (fun w' => w'.cell? ⟨S, 0, none⟩ = some (.slice (some ⟨L, 0, none⟩) n s.room) ∧ w'.cell? ⟨L, k * 10 + 8, none⟩ = some (.int .i64 y.c) ∧ Obj1 w' w.heap.size (pxC p).toArray 30)) (by kernel_rfl) (⟨HT3.out.2.1.cell 0, HYC.out, HK3.out⟩) (fun hHeld => ?_)
  generalize hW0 : World.drew _ = W0 at hHeld ⊢
  have HTA := Lib.hid (show SkO W0 S L n ⟨s.l, s.room, tt⟩ by rw [← hW0]; exact HT3.out)
  have HKA := Lib.hid (show Obj1 W0 w.heap.size (pxC p).toArray 30 by rw [← hW0]; exact HK3.out)
  have HRA := Lib.hid (show Obj1 W0 (w.heap.size + 1) #[.bool false, .int .u8 0, .int .u8 0, .int .u8 0, .int .u8 0, .int .u8 0, .int .u8 0, .int .u8 0, .int .i64 0, .int .i64 0] 32 by rw [← hW0]; exact HR3.out)
  have HUA := Lib.hid (show Upd2 S L w W0 by rw [← hW0]; exact HU3.out)
  have HX := Lib.hid hHeld
  clear hW0 hHeld
  refine wpAnyH_take (i := 0) (v := ?_) rfl (by kernel_rfl) (by kernel_rfl) (by kernel_rfl) (fun _ _ _ h => h) (Or.inl ⟨by rfl, ?_⟩) HX.out ?_
  rotate_left
  · intro w hSw; have hSw1 := hSw.1; have hSw2 := hSw.2.1; go_simp
    try with_reducible rfl
  go_simp
  refine wpAnyH_take (i := 1) (v := ?_) rfl (by kernel_rfl) (by kernel_rfl) (by kernel_rfl) (fun _ _ _ h => h) (Or.inl ⟨by rfl, ?_⟩) HX.out ?_
  rotate_left
  · intro w hSw; have hSw1 := hSw.1; have hSw2 := hSw.2.1; go_simp
    try with_reducible rfl
  go_simp
  refine wpAnyH_take (i := 2) (v := ?_) rfl (by kernel_rfl) (by kernel_rfl) (by kernel_rfl) (fun _ _ _ h => h) (Or.inl ⟨by rfl, ?_⟩) HX.out ?_
  rotate_left
  · intro w hSw; have hSw1 := hSw.1; have hSw2 := hSw.2.1; go_simp
    try with_reducible rfl
  go_simp
  refine wpAnyH_take (i := 3) (v := ?_) rfl (by kernel_rfl) (by kernel_rfl) (by kernel_rfl) (fun _ _ _ h => h) (Or.inl ⟨by rfl, ?_⟩) HX.out ?_
  rotate_left
  · intro w hSw; have hSw1 := hSw.1; have hSw2 := hSw.2.1; go_simp
    try with_reducible rfl
  go_simp
  refine wpAnyH_take (i := 4) (v := ?_) rfl (by kernel_rfl) (by kernel_rfl) (by kernel_rfl) (fun _ _ _ h => h) (Or.inl ⟨by rfl, ?_⟩) HX.out ?_
  rotate_left
  · intro w hSw; have hSw1 := hSw.1; have hSw2 := hSw.2.1; go_simp
    try with_reducible rfl
  go_simp
  refine wpAnyH_take (i := 5) (v := .agg (pxC p).toArray) rfl (by kernel_rfl) (by kernel_rfl) (by kernel_rfl) (fun _ _ _ h => h) (Or.inl ⟨by rfl, ?_⟩) HX.out ?_
  · intro w' hSw
    have hld := run_loadVar_row (P := Try.prog) w' w.heap.size 30 30 (pxC p).toArray (0, 0) _ hSw.2.2 Try.underlying30 rfl HPA.out
    simp [execOp, Act.eval, Instr.loadAt, Instr.sureAddr, Sem.run_bind, hld, Result.andThen]
  go_simp
  refine wpAnyH_take (i := 6) (v := ?_) rfl (by kernel_rfl) (by kernel_rfl) (by kernel_rfl) (fun _ _ _ h => h) (Or.inl ⟨by rfl, ?_⟩) HX.out ?_
  rotate_left
  · intro w hSw; have hSw1 := hSw.1; have hSw2 := hSw.2.1; go_simp
    try with_reducible rfl
  go_simp
  refine wpAnyH_take (i := 7) (v := ?_) rfl (by kernel_rfl) (by kernel_rfl) (by kernel_rfl) (fun _ _ _ h => h) (Or.inl ⟨by rfl, ?_⟩) HX.out ?_
  rotate_left
  · intro w hSw; have hSw1 := hSw.1; have hSw2 := hSw.2.1; go_simp
    try with_reducible rfl
  go_simp
  refine wpAnyH_take (i := 8) (v := ?_) rfl (by kernel_rfl) (by kernel_rfl) (by kernel_rfl) (fun _ _ _ h => h) (Or.inl ⟨by rfl, ?_⟩) HX.out ?_
  rotate_left
  · intro w hSw; have hSw1 := hSw.1; have hSw2 := hSw.2.1; go_simp
    try with_reducible rfl
  go_simp
  refine wpAnyH_take (i := 9) (v := ?_) rfl (by kernel_rfl) (by kernel_rfl) (by kernel_rfl) (fun _ _ _ h => h) (Or.inl ⟨by rfl, ?_⟩) HX.out ?_
  rotate_left
  · intro w hSw; have hSw1 := hSw.1; have hSw2 := hSw.2.1; go_simp
    try with_reducible rfl
  go_simp
  refine wpAnyH_take (i := 10) (v := ?_) rfl (by kernel_rfl) (by kernel_rfl) (by kernel_rfl) (fun _ _ _ h => h) (Or.inl ⟨by rfl, ?_⟩) HX.out ?_
  rotate_left
  · intro w hSw; have hSw1 := hSw.1; have hSw2 := hSw.2.1; go_simp
    try with_reducible rfl
  go_simp
  refine wpAnyH_take (i := 11) (v := ?_) rfl (by kernel_rfl) (by kernel_rfl) (by kernel_rfl) (fun _ _ _ h => h) (Or.inl ⟨by rfl, ?_⟩) HX.out ?_
  rotate_left
  · intro w hSw; have hSw1 := hSw.1; have hSw2 := hSw.2.1; go_simp
    try with_reducible rfl
  go_simp
  refine wpAnyH_take (i := 12) (v := ?_) rfl (by kernel_rfl) (by kernel_rfl) (by kernel_rfl) (fun _ _ _ h => h) (Or.inl ⟨by rfl, ?_⟩) HX.out ?_
  rotate_left
  · intro w hSw; have hSw1 := hSw.1; have hSw2 := hSw.2.1; go_simp
    try with_reducible rfl
  go_simp
  refine wpAnyH_take (i := 13) (v := ?_) rfl (by kernel_rfl) (by kernel_rfl) (by kernel_rfl) (fun _ _ _ h => h) (Or.inl ⟨by rfl, ?_⟩) HX.out ?_
  rotate_left
  · intro w hSw; have hSw1 := hSw.1; have hSw2 := hSw.2.1; go_simp
    try with_reducible rfl
  go_simp
  refine wpAnyH_take (i := 14) (v := ?_) rfl (by kernel_rfl) (by kernel_rfl) (by kernel_rfl) (fun _ _ _ h => h) (Or.inl ⟨by rfl, ?_⟩) HX.out ?_
  rotate_left
  · intro w hSw; have hSw1 := hSw.1; have hSw2 := hSw.2.1; go_simp
    try with_reducible rfl
  go_simp
  refine wpAnyH_take (i := 15) (v := ?_) rfl (by kernel_rfl) (by kernel_rfl) (by kernel_rfl) (fun _ _ _ h => h) (Or.inl ⟨by rfl, ?_⟩) HX.out ?_
  rotate_left
  · intro w hSw; have hSw1 := hSw.1; have hSw2 := hSw.2.1; go_simp
    try with_reducible rfl
  go_simp
  refine wpAnyH_take (i := 16) (v := ?_) rfl (by kernel_rfl) (by kernel_rfl) (by kernel_rfl) (fun _ _ _ h => h) (Or.inl ⟨by rfl, ?_⟩) HX.out ?_
  rotate_left
  · intro w hSw; have hSw1 := hSw.1; have hSw2 := hSw.2.1; go_simp
    try with_reducible rfl
  go_simp
  refine wpAnyH_take (i := 17) (v := ?_) rfl (by kernel_rfl) (by kernel_rfl) (by kernel_rfl) (fun _ _ _ h => h) (Or.inl ⟨by rfl, ?_⟩) HX.out ?_
  rotate_left
  · intro w hSw; have hSw1 := hSw.1; have hSw2 := hSw.2.1; go_simp
    try with_reducible rfl
  go_simp
  refine wpAnyH_take (i := 18) (v := ?_) rfl (by kernel_rfl) (by kernel_rfl) (by kernel_rfl) (fun _ _ _ h => h) (Or.inl ⟨by rfl, ?_⟩) HX.out ?_
  rotate_left
  · intro w hSw; have hSw1 := hSw.1; have hSw2 := hSw.2.1; go_simp
    try with_reducible rfl
  go_simp
  refine wpAnyH_take (i := 19) (v := ?_) rfl (by kernel_rfl) (by kernel_rfl) (by kernel_rfl) (fun _ _ _ h => h) (Or.inl ⟨by rfl, ?_⟩) HX.out ?_
  rotate_left
  · intro w hSw; have hSw1 := hSw.1; have hSw2 := hSw.2.1; go_simp
    try with_reducible rfl
  go_simp
  refine wpAnyH_take (i := 20) (v := ?_) rfl (by kernel_rfl) (by kernel_rfl) (by kernel_rfl) (fun _ _ _ h => h) (Or.inl ⟨by rfl, ?_⟩) HX.out ?_
  rotate_left
  · intro w hSw; have hSw1 := hSw.1; have hSw2 := hSw.2.1; go_simp
    try with_reducible rfl
  go_simp
  refine wpAnyH_take (i := 21) (v := ?_) rfl (by kernel_rfl) (by kernel_rfl) (by kernel_rfl) (fun _ _ _ h => h) (Or.inl ⟨by rfl, ?_⟩) HX.out ?_
  rotate_left
  · intro w hSw; have hSw1 := hSw.1; have hSw2 := hSw.2.1; go_simp
    try with_reducible rfl
  go_simp
  refine wpAnyH_take (i := 22) (v := .agg (sloC x2).toArray) rfl (by kernel_rfl) (by kernel_rfl) (by kernel_rfl) (fun _ _ _ h => h) (Or.inl ⟨by rfl, ?_⟩) HX.out ?_
  · intro w' hSw
    have hbd := run_build (P := Try.prog) w' 32 #[(0, .agg (pxC p).toArray), (1, .int .i64 y.c), (2, .int .i64 y.c)] _ (built_slot hp y.c y.c)
    rw [← HXE.out] at hbd
    simp [execOp, Act.eval, Sem.run_bind, hbd, Result.andThen]
  go_simp
  refine wpAnyH_take (i := 23) (v := ?_) rfl (by kernel_rfl) (by kernel_rfl) (by kernel_rfl) (fun _ _ _ h => h) (Or.inl ⟨by rfl, ?_⟩) HX.out ?_
  rotate_left
  · intro w hSw; have hSw1 := hSw.1; have hSw2 := hSw.2.1; go_simp
    try with_reducible rfl
  go_simp
  refine wpAnyH_ready (rs := [24]) (by kernel_rfl) (by simp) ?_
  refine AllReadyH.cons rfl (fun K hK => ?_) AllReadyH.nil
  refine gwanted rfl ?_
  have hxl := sloC_length (s := x2) hx2p
  refine wp_store_mid 32 (.tmp 51) (.tmp 50) rfl L (k * 10) (sloC x2).toArray rfl rfl (fun j hj => ?_) (slo_sizeA (s := x2) hx2p) (all_oneCell_toArray (sloC_one x2)) ?_
  · have hj10 : j < 10 := by simpa [hxl] using hj
    have hyl := sloC_length (hsk.px y (List.mem_of_getElem? HY.out))
    refine ⟨?_, HTA.out.2.2.free _⟩
    have := slo_cells HTA.out.2.2 hsk.px HY.out j _ (List.getElem?_eq_getElem (by omega))
    rw [add_flat] at this
    rw [this]
    rfl
  show K _ (World.setCells W0 L (k * 10) (sloC x2))
  have hmid := HTA.out.2.2.mid hsk.px hkl hx2p
  have hSL := HTA.out.ne
  have hSo := HTA.out.2.1.of_grown hmid.2 (by simpa using hSL)
  have HT := Lib.hid (show SkO (World.setCells W0 L (k * 10) (sloC x2)) S L n ⟨l2, s.room, tt⟩ from ⟨by rw [HL2.out]; simpa using HTA.out.1, hSo, by rw [HL2.out]; exact hmid.1⟩)
  have HRR := Lib.hid (HRA.out.of_grown hmid.2 (by have := HNE.out; simp; omega))
  have HU := Lib.hid (HUA.out.trans (Upd2.of2 (B := S) hmid.2))
  have HXC := Lib.hid (slo_count HT.out.2.2 HPX2.out HX2.out).1
  have HKB := Lib.hid (HKA.out.of_grown hmid.2 (by have := HLT.out; simp; omega))
  refine hK.out _ _ ⟨hSo.cell 0, by rw [HXC.out, HXE.out], HKB.out⟩ (fun hHeld => ?_)
  clear hK K
  refine wpAnyH_done (by kernel_rfl) ?_ _
  clear hSo hmid hHeld
  generalize hW9 : World.setCells W0 _ _ _ = W9 at HT HRR HU ⊢
  clear hW9 HKB HXC HTA HKA HRA HUA HX
  go_wp2_with fail
  ·
    have HX8 := Lib.hid (slo_count HT.out.2.2 HPX2.out HX2.out).1
    have hRL : w.heap.size + 1 ≠ L := HNE.out.1
    have hRS : w.heap.size + 1 ≠ S := HNE.out.2
    refine wp_region_held_drew (S := (fun w' => w'.cell? ⟨S, 0, none⟩ = some (.slice (some ⟨L, 0, none⟩) n s.room))) (by kernel_rfl) ((HT.out.2.1.cell 0)) (fun hHeld => ?_)
    generalize hW0 : World.drew _ = W0 at hHeld ⊢
    have HT0 := Lib.hid (show SkO W0 S L n ⟨l2, s.room, tt⟩ by rw [← hW0]; exact HT.out)
    have HR0 := Lib.hid (show Obj1 W0 (w.heap.size + 1) #[.bool false, .int .u8 0, .int .u8 0, .int .u8 0, .int .u8 0, .int .u8 0, .int .u8 0, .int .u8 0, .int .i64 0, .int .i64 0] 32 by rw [← hW0]; exact HRR.out)
    have HU0 := Lib.hid (show Upd2 S L w W0 by rw [← hW0]; exact HU.out)
    have r1 : W0.cell? ⟨L, k * 10 + 8, none⟩ = some (.int .i64 x2.c) := by rw [← hW0]; exact HX8.out
    clear hW0
    refine wpAnyH_take (i := 0) (v := ?_) rfl (by kernel_rfl) (by kernel_rfl) (by kernel_rfl) (fun _ _ _ h => h) (Or.inl ⟨by rfl, ?_⟩) (by assumption) ?_
    rotate_left
    · intro w hSw; (try dsimp only at hSw); go_simp
      try with_reducible rfl
    refine wpAnyH_take (i := 1) (v := ?_) rfl (by kernel_rfl) (by kernel_rfl) (by kernel_rfl) (fun _ _ _ h => h) (Or.inl ⟨by rfl, ?_⟩) (by assumption) ?_
    rotate_left
    · intro w hSw; (try dsimp only at hSw); go_simp
      try with_reducible rfl
    go_simp
    refine wpAnyH_take (i := 2) (v := ?_) rfl (by kernel_rfl) (by kernel_rfl) (by kernel_rfl) (fun _ _ _ h => h) (Or.inl ⟨by rfl, ?_⟩) (by assumption) ?_
    rotate_left
    · intro w hSw; (try dsimp only at hSw); go_simp
      try with_reducible rfl
    refine wpAnyH_take (i := 3) (v := ?_) rfl (by kernel_rfl) (by kernel_rfl) (by kernel_rfl) (fun _ _ _ h => h) (Or.inl ⟨by rfl, ?_⟩) (by assumption) ?_
    rotate_left
    · intro w hSw; (try dsimp only at hSw); go_simp
      try with_reducible rfl
    go_simp
    refine wpAnyH_take (i := 4) (v := ?_) rfl (by kernel_rfl) (by kernel_rfl) (by kernel_rfl) (fun _ _ _ h => h) (Or.inl ⟨by rfl, ?_⟩) (by assumption) ?_
    rotate_left
    · intro w hSw; (try dsimp only at hSw); go_simp
      try with_reducible rfl
    refine wpAnyH_take (i := 5) (v := ?_) rfl (by kernel_rfl) (by kernel_rfl) (by kernel_rfl) (fun _ _ _ h => h) (Or.inl ⟨by rfl, ?_⟩) (by assumption) ?_
    rotate_left
    · intro w hSw; (try dsimp only at hSw); go_simp
      try with_reducible rfl
    go_simp
    refine wpAnyH_take (i := 6) (v := ?_) rfl (by kernel_rfl) (by kernel_rfl) (by kernel_rfl) (fun _ _ _ h => h) (Or.inl ⟨by rfl, ?_⟩) (by assumption) ?_
    rotate_left
    · intro w hSw; (try dsimp only at hSw); go_simp
      try with_reducible rfl
    refine wpAnyH_take (i := 7) (v := ?_) rfl (by kernel_rfl) (by kernel_rfl) (by kernel_rfl) (fun _ _ _ h => h) (Or.inl ⟨by rfl, ?_⟩) (by assumption) ?_
    rotate_left
    · intro w hSw; (try dsimp only at hSw); go_simp
      try with_reducible rfl
    go_simp
    refine wpAnyH_take (i := 8) (v := ?_) rfl (by kernel_rfl) (by kernel_rfl) (by kernel_rfl) (fun _ _ _ h => h) (Or.inl ⟨by rfl, ?_⟩) (by assumption) ?_
    rotate_left
    · intro w hSw; (try dsimp only at hSw); go_simp
      try with_reducible rfl
    refine wpAnyH_take (i := 9) (v := ?_) rfl (by kernel_rfl) (by kernel_rfl) (by kernel_rfl) (fun _ _ _ h => h) (Or.inl ⟨by rfl, ?_⟩) (by assumption) ?_
    rotate_left
    · intro w hSw; (try dsimp only at hSw); go_simp
      try with_reducible rfl
    go_simp
    refine wpAnyH_take (i := 10) (v := ?_) rfl (by kernel_rfl) (by kernel_rfl) (by kernel_rfl) (fun _ _ _ h => h) (Or.inl ⟨by rfl, ?_⟩) (by assumption) ?_
    rotate_left
    · intro w hSw; (try dsimp only at hSw); go_simp
      try with_reducible rfl
    refine wpAnyH_take (i := 11) (v := ?_) rfl (by kernel_rfl) (by kernel_rfl) (by kernel_rfl) (fun _ _ _ h => h) (Or.inl ⟨by rfl, ?_⟩) (by assumption) ?_
    rotate_left
    · intro w hSw; (try dsimp only at hSw); go_simp
      try with_reducible rfl
    go_simp
    refine wpAnyH_take (i := 13) (v := ?_) rfl (by kernel_rfl) (by kernel_rfl) (by kernel_rfl) (fun _ _ _ h => h) (Or.inl ⟨by rfl, ?_⟩) (by assumption) ?_
    rotate_left
    · intro w hSw; (try dsimp only at hSw); go_simp
      try with_reducible rfl
    go_simp
    refine wpAnyH_ready (rs := [12]) (by kernel_rfl) (by simp) ?_
    refine AllReadyH.cons rfl (fun K hK => ?_) ?_
    rotate_left
    · exact AllReadyH.nil
    go_simp
    refine hK.out _ _ (hHeld) (fun hHeld => ?_)
    clear hK K
    have g1 : (W0.alloc (.cells #[.int .i64 x2.c, .int .i64 (cnt n0)] 2)).cell? ⟨L, k * 10 + 8, none⟩ = some (.int .i64 x2.c) := bl_keeps (bl_alloc (Below.refl _ _) _) r1
    have g2 : (W0.alloc (.cells #[.int .i64 x2.c, .int .i64 (cnt n0)] 2)).frozen? ⟨L, k * 10 + 8, none⟩ = false := (HT0.out.2.2.below (bl_alloc (Below.refl _ _) _)).free _
    have g3 : (W0.alloc (.cells #[.int .i64 x2.c, .int .i64 (cnt n0)] 2)).cell? ⟨S, 0, none⟩ = some (.slice (some ⟨L, 0, none⟩) n s.room) := bl_keeps (bl_alloc (Below.refl _ _) _) hHeld
    clear r1
    refine wpAnyH_ready (rs := [14]) (by kernel_rfl) (by simp) ?_
    refine AllReadyH.cons rfl (fun K hK => ?_) ?_
    rotate_left
    · exact AllReadyH.nil
    go_simp
    refine hK.out _ _ (g3) (fun hHeld => ?_)
    clear hK K
    refine wpAnyH_ready (rs := [15]) (by kernel_rfl) (by simp) ?_
    refine AllReadyH.cons rfl (fun K hK => ?_) AllReadyH.nil
    go_simp
    refine (Add2_w x2.c (cnt n0) _ _ (new_at rfl rfl) (new_at rfl rfl)).mono ?_
    rintro e w' ⟨rfl, rfl⟩
    dsimp only
    refine hK.out _ _ (g3) (fun hHeld => ?_)
    clear hK K
    go_simp
    obtain ⟨c3, hc3⟩ : ∃ c3, plus (cnt x2.c) (cnt n0) = c3 := ⟨_, rfl⟩
    rw [hc3]
    generalize hWX : World.alloc W0 _ = WX at hHeld g1 g2 g3 ⊢
    have HTX := Lib.hid (show SkO WX S L n ⟨l2, s.room, tt⟩ by rw [← hWX]; exact HT0.out.below (bl_alloc (Below.refl _ _) _))
    have HRX := Lib.hid (show Obj1 WX (w.heap.size + 1) #[.bool false, .int .u8 0, .int .u8 0, .int .u8 0, .int .u8 0, .int .u8 0, .int .u8 0, .int .u8 0, .int .i64 0, .int .i64 0] 32 by rw [← hWX]; exact HR0.out.alloc _)
    have HUX := Lib.hid (show Upd2 S L w WX by rw [← hWX]; exact HU0.out.next (bl_alloc (Below.refl _ _) _))
    have HC3 := Lib.hid (show plus (cnt x2.c) n0 = c3 by rw [← hc3, plus_cntR])
    clear hWX hc3
    have hset := (Upd.refl L WX).set (k * 10 + 8) (.int .i64 c3)
    have hSo := (HTX.out.2.1.of_grown hset (by simpa using HTX.out.ne))
    have g4 : (WX.setCell ⟨L, k * 10 + 8, none⟩ (.int .i64 c3)).cell? ⟨S, 0, none⟩ = some (.slice (some ⟨L, 0, none⟩) n s.room) := hSo.cell 0
    have hlt2 : k < l2.length := (List.getElem?_eq_some_iff.1 HX2.out).1
    have hRo := HTX.out.2.2.set (k * 10 + 8) (by have := HTX.out.1; simp at this; omega) (.int .i64 c3)
    rw [← slosC_count HPX2.out HX2.out c3] at hRo
    have HTY := Lib.hid (show SkO (WX.setCell ⟨L, k * 10 + 8, none⟩ (.int .i64 c3)) S L n ⟨l2.set k { x2 with c := c3 }, s.room, tt⟩ from ⟨by have := HTX.out.1; simpa using this, hSo, hRo⟩)
    have HRY := Lib.hid (HRX.out.of_grown hset (by simpa using hRL))
    have HUY := Lib.hid (HUX.out.trans (Upd2.of2 (B := S) hset))
    have HPX3 := Lib.hid (show ∀ x ∈ l2.set k { x2 with c := c3 }, okPx x.p from fun x hx => by
      rcases List.mem_or_eq_of_mem_set hx with h | h
      · exact HPX2.out x h
      · rw [h]; exact hx2p)
    have HX3 := Lib.hid (show (l2.set k { x2 with c := c3 })[k]? = some { x2 with c := c3 } by rw [List.getElem?_set_self hlt2])
    clear hset hSo hRo
    refine wpAnyH_take (i := 16) (v := ?_) rfl (by kernel_rfl) (by kernel_rfl) (by kernel_rfl) (fun _ _ _ h => h) (Or.inl ⟨by rfl, ?_⟩) (by assumption) ?_
    rotate_left
    · intro w hSw; (try dsimp only at hSw); go_simp
      try with_reducible rfl
    refine wpAnyH_take (i := 17) (v := ?_) rfl (by kernel_rfl) (by kernel_rfl) (by kernel_rfl) (fun _ _ _ h => h) (Or.inl ⟨by rfl, ?_⟩) (by assumption) ?_
    rotate_left
    · intro w hSw; (try dsimp only at hSw); go_simp
      try with_reducible rfl
    go_simp
    refine wpAnyH_ready (rs := [18]) (by kernel_rfl) (by simp) ?_
    refine AllReadyH.cons rfl (fun K hK => ?_) ?_
    rotate_left
    · exact AllReadyH.nil
    go_simp
    refine hK.out _ _ (g4) (fun hHeld => ?_)
    clear hK K
    refine wpAnyH_done (by kernel_rfl) ?_ _
    have HC := Lib.hid (slo_cells HTY.out.2.2 HPX3.out HX3.out)
    have HSZ := Lib.hid (slo_size (s := { x2 with c := c3 }) hx2p)
    have HSA := Lib.hid (slo_sizeA (s := { x2 with c := c3 }) hx2p)
    have hlen := sloC_length (s := { x2 with c := c3 }) hx2p
    clear g1 g2 g3
    generalize hWY : World.setCell WX _ _ = WY at hHeld g4 HTY HRY HUY HC ⊢
    clear hWY
    obtain ⟨x3, hx3⟩ : ∃ x3, x3 = ({ x2 with c := c3 } : Slo) := ⟨_, rfl⟩
    rw [← hx3] at HC HSZ HSA hlen HX3 HTY HPX3
    have HX3E := Lib.hid hx3
    clear hx3
    go_wp2_with (first
      | (refine load_cells rfl 32 (.tmp 106) rfl ⟨L, k * 10, none⟩ (sloC x3) _ rfl HC.out Try.underlying32 rfl HSZ.out ?_)
      | (refine store_obj rfl 32 (.tmp 6) (.tmp 107) rfl (w.heap.size + 1) 32 _ (sloC x3).toArray rfl rfl HRY.out (by simp [hlen]) HSA.out (all_oneCell_toArray (sloC_one x3)) ?_; intro w9 hob9 hup9; have HOB9 := Lib.hid hob9; have HUP9 := Lib.hid hup9; clear hob9 hup9))
    refine bodyPost_ret (results_cell_row rfl _ _ (w.heap.size + 1) 32 (sloC x3).toArray (0, 0) _ rfl HOB9.out Try.underlying32 rfl HSA.out) rfl ?_
    have hUend : Upd2 S L w w9 := HUY.out.aside HUP9.out (by omega)
    have hE : skAdd s p n0 = ⟨l2.set k x3, s.room, tt⟩ := by rw [HEQ.out, HC3.out, HTO9.out, HX3E.out]
    have hSO : SkO w9 S L n (skAdd s p n0) := by rw [hE]; exact HTY.out.grown HUP9.out (by have := HNE.out; simp; omega) (by have := HNE.out; simp; omega)
    exact ⟨x3, by rw [hE, HAT.out]; exact HX3.out, rfl, hSO, hUend⟩


theorem skAdd_w (S L n : Nat) (s : Sk) (hsk : okSk s) (p : Px) (hp : okPx p) (n0 : Int) (w : World) (h : SkO w S L n s) :
    Calls Try.prog 14 #[.pointer (some ⟨S, 0, none⟩), .agg (pxC p).toArray, .int .i64 n0] w fun e w' => ∃ x m, (skAdd s p n0).l[skAt s p]? = some x ∧ e = .returned (.agg (sloC x).toArray) ∧ SkO w' S L m (skAdd s p n0) ∧ Upd2 S L w w' := by
  by_cases h1 : fnd s.l p < s.l.length
  · refine (skAddFound_w S L n s hsk p hp n0 w h h1).mono ?_
    rintro e w' ⟨x, a, b, c, d⟩
    exact ⟨x, n, a, b, c, d⟩
  · by_cases h2 : s.l.length < s.room
    · refine (skAddRoom_w S L n s hsk p hp n0 w h h1 h2).mono ?_
      rintro e w' ⟨x, a, b, c, d⟩
      exact ⟨x, n + 1, a, b, c, d⟩
    · refine (skAddLeast_w S L n s hsk p hp n0 w h h1 h2).mono ?_
      rintro e w' ⟨x, a, b, c, d⟩
      exact ⟨x, n, a, b, c, d⟩
end Go.Proofs.Ytdmfmanmhlnleaa
