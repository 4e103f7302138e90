/- Waking and sleeping, whoever; few of bailifflaw15; acts that came in; what is left when one sleeps. -/
import Derived.Test.YtlnfenjoagkpdaaTurnsRoundW
namespace Go.Proofs.Ytlnfenjoagkpdaa
open Go.RowKit
set_option linter.unusedVariables false
set_option linter.unusedSimpArgs false

/-- A row of two numbers and a slice of numbers. -/
theorem SlQ.act15 {k0 k1 k2 : IntKind} {W : World} {A : Option Addr} {n c : Nat} {rows : List (List Value)} (h : SlQ [.i k0, .i k1, .sl k2] W A n c rows) (j : Nat) (hj : j < n) :
    ∃ b off x y a m d l, A = some ⟨b, off, none⟩ ∧ W.cell? ⟨b, off + j * 3, none⟩ = some (.int k0 x) ∧ W.cell? ⟨b, off + j * 3 + 1, none⟩ = some (.int k1 y) ∧ W.cell? ⟨b, off + j * 3 + 2, none⟩ = some (.slice a m d) ∧
      SlI k2 W a m d l ∧ (Lit.int k0 x).wf = true ∧ (Lit.int k1 y).wf = true := by
  obtain ⟨b, off, rfl⟩ := h.addr (by omega) (by simp)
  obtain ⟨r, hr, ho⟩ := h.row j hj
  obtain ⟨x, hx, wx⟩ := okS_int ho 0 k0 rfl
  obtain ⟨y, hy, wy⟩ := okS_int ho 1 k1 rfl
  obtain ⟨a, m, d, l, hs, hsl⟩ := okS_sl ho 2 k2 rfl
  exact ⟨b, off, x, y, a, m, d, l, rfl, h.cell hr hx, h.cell hr hy, h.cell hr hs, hsl, wx, wy⟩
theorem few15_w (A : Option Addr) (n c : Nat) (rows : List (List Value)) (w : World) (hs : SlQ [.i .u8, .i .i8, .sl .i64] w A n c rows) :
    Calls Try.prog 15 #[.slice A n c] w fun e w' => (∃ fw, e = .returned (.bool fw) ∧ (fw = true → n ≤ 60)) ∧ w = w' := by
  have hn : n ≤ 9223372036854775807 := Nat.le_trans hs.2.1 hs.2.2.1
  have HS := Lib.hid hs
  clear hs
  go_enter Try.func15, Try.ntmps15
  go_wp2_with fail
  go_loopw [6] (fun i wr => ∃ (k : Nat), k ≤ n ∧ i = .int .i64 k ∧ w = wr) (fun i _ => n - (intOf i).toNat)
  case atStart => exact ⟨0, Nat.zero_le _, rfl, rfl⟩
  case round =>
    obtain ⟨k, hk, rfl, rfl⟩ := hrel
    by_cases hlt : k < n
    · obtain ⟨b, off, x, y, a, m, d, l, rfl, c0, c1, c2, hsl, wx, wy⟩ := HS.out.act15 k hlt
      have hk0 : (0 : Int) ≤ (k : Int) := Int.natCast_nonneg k
      have hk1 : (k : Int) < (n : Int) := by omega
      clear hsl wx wy
      by_cases hm : 20 < m
      · go_wp2
        go_ret
        exact ⟨⟨false, rfl, fun h => by cases h⟩, rfl⟩
      · go_wp2_with fail
        go_roundw
        case rel => exact ⟨k + 1, by omega, by go_num, trivial⟩
        case measure => simp [intOf]; omega
    · obtain rfl : k = n := by omega
      go_wp2
      go_ret
      exact ⟨⟨_, rfl, fun h => by simp at h; omega⟩, rfl⟩

/-- Waking, whoever. -/
theorem wakeAny_w (T C L N m : Nat) (t : Tn) (hok : okTn t) (c : Int) (w : World) (h : TnO w T C L N m t) :
    Calls Try.prog 13 #[.pointer (some ⟨T, 0, none⟩), .int .i64 c] w fun e w' => ∃ b t' m', e = .returned (.bool b) ∧ TnO w' T C L N m' t' ∧ okTn t' ∧ Upd3 T C L w w' := by
  have hN129 : N ≤ 129 := by rw [← h.1.1]; exact hok.1.2
  by_cases hc : 0 ≤ c ∧ c < (N : Int)
  · obtain ⟨k, rfl⟩ := Int.eq_ofNat_of_zero_le hc.1
    refine (wake_w T C L N m t hok k (by omega) w h).mono ?_
    rintro e w' ⟨b, m', rfl, h1, h2, h3⟩
    exact ⟨b, _, m', rfl, h1, h2, h3⟩
  · refine (wakeNo_w T C L N m t c (.inl hc) hN129 w h).mono ?_
    rintro e w' ⟨rfl, rfl⟩
    exact ⟨false, t, m, rfl, h, hok, Upd3.refl _ _ _ _⟩
/-- Those that are others. -/
def restOf (c : Int) (l : List Nat) : List Nat := l.filter fun d => decide ¬ (d : Int) = c
theorem restOf_out {c : Int} {l : List Nat} (h : ∀ d ∈ l, ¬ (d : Int) = c) : restOf c l = l := List.filter_eq_self.2 fun d hd => decide_eq_true (h d hd)
theorem restOf_in {k : Nat} {l : List Nat} (hn : l.Nodup) : restOf (k : Int) l = l.eraseIdx (l.idxOf k) := by
  rw [← List.erase_eq_eraseIdx_of_idxOf (l := l) (a := k) rfl, hn.erase_eq_filter]
  unfold restOf
  refine List.filter_congr (fun d _ => ?_)
  by_cases h : d = k
  · subst h; simp
  · have : ¬ (d : Int) = (k : Int) := by omega
    simp [h, this]
theorem restOf_step {c : Int} {l : List Nat} {k d : Nat} (h : l[k]? = some d) : restOf c (l.take (k + 1)) = restOf c (l.take k) ++ (if (d : Int) = c then [] else [d]) := by
  obtain ⟨hk, he⟩ := List.getElem?_eq_some_iff.1 h
  rw [List.take_succ_eq_append_getElem hk, he]
  unfold restOf
  rw [List.filter_append]
  congr 1
  by_cases hd : (d : Int) = c
  · simp [hd]
  · simp [hd]
theorem restOf_len (c : Int) (l : List Nat) : (restOf c l).length ≤ l.length := List.length_filter_le _ _
theorem okTn.sleepAny {t : Tn} (h : okTn t) {c : Nat} (hc : c ∈ t.line) : okTn (tnSleep t c) := by
  obtain ⟨x, hx, ha⟩ := (h.2.2.1 c).1 hc
  refine h.step (y := ⟨false, false, 0⟩) hx ?_ (fun d => ?_) ⟨Int.le_refl 0, by have := h.2.2.2.1; show (0 : Int) ≤ 9216 + t.q; omega, fun _ => by show (0 : Int) ≤ 9216; omega⟩
  · rw [← List.erase_eq_eraseIdx_of_idxOf (l := t.line) (a := c) rfl]
    exact h.2.1.erase c
  · rw [← List.erase_eq_eraseIdx_of_idxOf (l := t.line) (a := c) rfl, h.2.1.mem_erase_iff]
    by_cases hd : d = c
    · simp [hd]
    · simp [hd]
theorem deOf_set {t : Tn} {c d : Nat} {y : Cl} {q : Int} {line : List Nat} (h : d ≠ c) : deOf ⟨q, t.l.set c y, line⟩ (d : Int) = deOf t (d : Int) := by
  unfold deOf
  show (if 0 ≤ (d : Int) ∧ (d : Int) < ((t.l.set c y).length : Int) then (match (t.l.set c y)[((d : Int)).toNat]? with | some x => x.de | none => 0) else 0) = _
  rw [List.length_set, show ((d : Int)).toNat = d from rfl, List.getElem?_set_ne (fun e => h e.symm)]
  cases t.l[d]? <;> rfl
/-- Sleeping, whoever. -/
theorem sleepAny_w (T C L N m : Nat) (t : Tn) (hok : okTn t) (c : Int) (w : World) (h : TnO w T C L N m t) :
    Calls Try.prog 18 #[.pointer (some ⟨T, 0, none⟩), .int .i64 c] w fun e w' => ∃ b t' m', e = .returned (.bool b) ∧ TnO w' T C L N m' t' ∧ okTn t' ∧ t'.line = restOf c t.line ∧ b = decide (m' < m) ∧ (∀ d ∈ restOf c t.line, deOf t' (d : Int) = deOf t (d : Int)) ∧ (b = true → ∃ (k : Nat) (x : Cl), c = (k : Int) ∧ t'.l[k]? = some x ∧ x.aw = false) ∧ Upd3 T C L w w' := by
  have hN129 : N ≤ 129 := by rw [← h.1.1]; exact hok.1.2
  by_cases hc : ∃ k : Nat, c = (k : Int) ∧ k ∈ t.line
  · obtain ⟨k, rfl, hk⟩ := hc
    refine (sleepYes_w T C L N m t hok k hk w h).mono ?_
    rintro e w' ⟨rfl, h1, h2⟩
    have hm : 1 ≤ m := by rw [← h.1.2]; exact List.length_pos_of_mem hk
    have hlt : k < t.l.length := hok.lt hk
    refine ⟨true, _, m - 1, rfl, h1, hok.sleepAny hk, ?_, ?_, ?_, ?_, h2⟩
    · rw [restOf_in hok.2.1]
      rfl
    · exact (decide_eq_true (by omega)).symm
    · intro d hd
      refine deOf_set (fun e => ?_)
      subst e
      unfold restOf at hd
      rw [List.mem_filter] at hd
      simp at hd
    · intro _
      exact ⟨k, ⟨false, false, 0⟩, rfl, List.getElem?_set_self hlt, rfl⟩
  · have hno : ∀ d ∈ t.line, ¬ (d : Int) = c := fun d hd e => hc ⟨d, e.symm, hd⟩
    have hn : ¬ (0 ≤ c ∧ c < (N : Int)) ∨ ∃ x, t.l[c.toNat]? = some x ∧ x.aw = false := by
      by_cases hh : 0 ≤ c ∧ c < (N : Int)
      · obtain ⟨k, rfl⟩ := Int.eq_ofNat_of_zero_le hh.1
        obtain ⟨x, hx⟩ : ∃ x, t.l[k]? = some x := ⟨_, List.getElem?_eq_getElem (by rw [h.1.1]; omega)⟩
        refine .inr ⟨x, by simpa using hx, ?_⟩
        cases hxa : x.aw with
        | false => rfl
        | true => exact absurd rfl (hno k ((hok.2.2.1 k).2 ⟨x, hx, hxa⟩))
      · exact .inl hh
    refine (sleepNo_w T C L N m t c hn hN129 w h).mono ?_
    rintro e w' ⟨rfl, rfl⟩
    exact ⟨false, t, m, rfl, h, hok, (restOf_out hno).symm, (decide_eq_false (by omega)).symm, fun _ _ => rfl, (fun hf => by cases hf), Upd3.refl _ _ _ _⟩
/-- Heads that came in stay as they are. -/
theorem SlI.heads {w w' : World} {A : Option Addr} {n c : Nat} {l : List Int} {B T C L : Nat} (h : SlI .i64 w A n c l) (hB : w.heap.size ≤ B) (hT : B ≤ T ∧ B ≤ C ∧ B ≤ L) {W : World} (hb : Below w.heap.size w W) (hu : Upd3 T C L W w') : RdI w' A l := by
  have h1 : RdI w A l := RdI.of (by have := h.1; have := h.2.1; have := h.2.2.1; omega) h.2.2.2.1
  refine ⟨h1.1, fun j hj => ?_⟩
  obtain ⟨ad, e, hc⟩ := h1.2 j hj
  refine ⟨ad, e, ?_⟩
  have hlt := cell_lt hc
  have hW := bl_keeps hb hc
  exact (World.cell?_of_block (w := W) (hu.2.2.2.2 (ad.add j).block (cell_lt hW) (by omega) (by omega) (by omega))).trans hW
/-- append onto a row of the call's own, behind a guard that says yes. -/
theorem own_apart {w : World} {B B' : Nat} {e e' : TypeId} {s s' : Nat} {v v' : Value} {n n' : Nat} {xs xs' : List Value} (h : w.ownsRow B e s v n xs) (h' : w.ownsRow B' e' s' v' n' xs') (he : e ≠ e') : v.ownBlock = none ∨ v.ownBlock ≠ v'.ownBlock := by
  rcases h.2 with ⟨rfl, _⟩ | ⟨g, cap, cur, rfl, _, hg, _⟩
  · exact .inl rfl
  · right
    intro hv
    rcases h'.2 with ⟨rfl, _⟩ | ⟨g', cap', cur', rfl, _, hg', _⟩
    · simp [Value.ownBlock] at hv
    · simp only [Value.ownBlock, Option.some.injEq] at hv
      subst hv
      rw [hg] at hg'
      cases hg'
      exact he rfl
section
variable {P : Program} {o : Oper} {ops : Array Oper} {rest : List Oper} {a : Act} {Q : Exit → Act → World → Prop}
theorem app_listG {W : World} (base : Nat) (hgd : Region.wanted o (yielded ops a.tmps) = true) (s x : Operand) (t e : TypeId) (z : Value) (size bytes : Nat)
    (ho : o.op = .call { callee := .builtin .append, args := #[s, x], argTypes := #[t, t] }) (ht : P.underlying t = some (.slice e))
    (hinfo : (P.info? e).map (fun i => (i.zero, i.size, i.bytes)) = some (some z, size, bytes)) (hz : z.cells.size = size) (hsz : 0 < size) (hb0 : 0 < bytes)
    (v : Value) (n : Nat) (xs : List Value) (A : Option Addr) (m c : Nat) (news : List Value) (hs : a.eval s = v) (hx : a.eval x = .slice A m c) (HO : W.ownsRow base e size v n xs) (hl : news.length = m * size) (HR : Rd W A news)
    (h1 : ∀ u ∈ news, u.oneCell' = true) (hbytes : (n + m) * bytes ≤ 140737488355328) (hbase : base ≤ W.heap.size)
    (h : ∀ v1 w1, w1.ownsRow base e size v1 (n + m) (xs ++ news) → W.grownBy w1 v.ownBlock → wpList P ops Q rest (a.put o.dst v1) w1) :
    wpList P ops Q (o :: rest) a W := by
  obtain ⟨v1, w1, hr, hown, hg, _⟩ := app_run (P := P) W base t o.type e z size bytes ht hinfo hz hsz hb0 v n xs HO A m c news hl HR h1 hbytes hbase
  refine BigFrame.wpList_want hgd fun K hK => ?_
  unfold Oper.wp execOp
  simp only [ho, resolve, invoke, builtin, Sem.run_bind, Sem.run_pure, Result.andThen_ok, List.map_toArray, List.map_cons, List.map_nil, hs, hx, hr]
  exact hK _ _ (h v1 w1 hown hg)
end
end Go.Proofs.Ytlnfenjoagkpdaa
