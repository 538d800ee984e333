/- LitmusOrder, plain: how many each thread notes, and what the exchange of the threads makes of the rows. -/
import Derived.Test.YtgahcoccodhkmaaDoorLtFe
import Derived.Test.YtgahcoccodhkmaaDoorLtPg
set_option linter.unusedVariables false
set_option linter.unusedSimpArgs false
namespace Go.Eng
open Go Go.Proofs

def tell (m : Mv) : Bool := decide (m.1 = 1) || decide (m.1 = 3)
def cntT (l : List Mv) : Nat := (l.filter tell).length
theorem cntT_app (l : List Mv) (m : Mv) : cntT (l ++ [m]) = cntT l + (if tell m = true then 1 else 0) := by
  unfold cntT
  rw [List.filter_append, List.length_append]
  congr 1
  rw [List.filter_cons]
  split <;> simp_all
theorem cnt_up {l : List Mv} {k : Nat} (h : k < l.length) : cntT (l.take (k + 1)) = cntT (l.take k) + (if tell (l.getD k default) = true then 1 else 0) := by
  rw [take_getD (d := default) h, cntT_app]
theorem cnt_le (l : List Mv) : cntT l ≤ l.length := List.length_filter_le _ _
theorem tell1 {m : Mv} (h : m.1 = 1) : tell m = true := by unfold tell; rw [h]; rfl
theorem tell3 {m : Mv} (h : m.1 = 3) : tell m = true := by unfold tell; rw [h]; rfl
theorem tell0 {m : Mv} (h : ¬ m.1 = 1) (h3 : ¬ m.1 = 3) : tell m = false := by unfold tell; rw [decide_eq_false h, decide_eq_false h3]; rfl
theorem cnt_one {l : List Mv} {k : Nat} (h8 : l.length ≤ 8) (h : k < l.length) (ht : tell (l.getD k default) = true) : ((cntT (l.take (k + 1)) : Nat) : Int) = IntKind.i64.wrap ((cntT (l.take k) : Nat) + 1) := by
  have h1 := cnt_up h
  have h2 := cnt_le (l.take k)
  rw [List.length_take] at h2
  rw [if_pos ht] at h1
  rw [wrap_i64 ⟨by omega, by omega⟩]
  omega
theorem cnt_none {l : List Mv} {k : Nat} (h : k < l.length) (ht : tell (l.getD k default) = false) : ((cntT (l.take (k + 1)) : Nat) : Int) = (cntT (l.take k) : Nat) := by
  have h1 := cnt_up h
  rw [if_neg (by rw [ht]; decide)] at h1
  omega
def NtS (ms : List (List Mv)) (s : LS) : Prop := ∀ (i : Nat) (t : Thr), s.2[i]? = some t → t.2.1.length = cntT ((ms.getD i []).take t.2.2)
theorem NtS.upd {ms : List (List Mv)} {s : LS} (h : NtS ms s) {ws : List Int} {i : Nat} {t : Thr} (h3 : t.2.1.length = cntT ((ms.getD i []).take t.2.2)) : NtS ms (ws, s.2.set i t) := fun j x hx => by
  have hx : (s.2.set i t)[j]? = some x := hx
  rw [List.getElem?_set] at hx
  by_cases e : i = j
  · subst e
    rw [if_pos rfl] at hx
    by_cases e2 : i < s.2.length
    · rw [if_pos e2] at hx; cases hx; exact h3
    · rw [if_neg e2] at hx; cases hx
  · rw [if_neg e] at hx
    exact h j x hx
theorem nt_flush {ms : List (List Mv)} {s t : LS} {i : Nat} (h : NtS ms s) (k : flushL s i = some t) : NtS ms t := by
  unfold flushL at k
  split at k
  case h_2 => cases k
  rename_i p b nt a e
  cases k
  have h1 : nt.length = cntT ((ms.getD i []).take a) := h i _ e
  exact h.upd h1
theorem nt_move {d : Nat} {ms : List (List Mv)} {s t : LS} {i : Nat} (hm : ∀ i, ∀ m ∈ ms.getD i [], 0 ≤ m.1 ∧ m.1 ≤ 3) (h : NtS ms s) (k : moveL d ms s i = some t) : NtS ms t := by
  unfold moveL at k
  split at k
  case h_2 => cases k
  rename_i b nt a e
  split at k
  case h_2 => cases k
  rename_i m em
  have ht : nt.length = cntT ((ms.getD i []).take a) := h i _ e
  have mo := hm i m (List.mem_of_getElem? em)
  have hs : cntT ((ms.getD i []).take (a + 1)) = cntT ((ms.getD i []).take a) + (if tell m = true then 1 else 0) := by
    rw [List.take_add_one, em]
    exact cntT_app _ m
  have h0 : tell m = false → nt.length = cntT ((ms.getD i []).take (a + 1)) := fun e => by rw [hs, e, ht]; rfl
  have h1 : ∀ v : Int, tell m = true → (nt ++ [v]).length = cntT ((ms.getD i []).take (a + 1)) := fun v e => by rw [hs, e, List.length_append, ht]; rfl
  unfold doL at k
  split at k
  · rename_i e0
    have e1 : tell m = false := by unfold tell; rw [e0]; rfl
    split at k
    · cases k; exact h.upd (h0 e1)
    · split at k
      · cases k; exact h.upd (h0 e1)
      · cases k
  · split at k
    · rename_i e0
      cases k
      exact h.upd (h1 _ (by unfold tell; rw [e0]; rfl))
    · split at k
      · rename_i e0
        split at k
        · cases k; exact h.upd (h0 (by unfold tell; rw [e0]; rfl))
        · cases k
      · rename_i e0 e1 e2
        split at k
        · cases k
          refine h.upd (h1 _ ?_)
          have : m.1 = 3 := by omega
          unfold tell; rw [this]; rfl
        · cases k
theorem nt_rch {d : Nat} {ms : List (List Mv)} {s t : LS} (hm : ∀ i, ∀ m ∈ ms.getD i [], 0 ≤ m.1 ∧ m.1 ≤ 3) (h : NtS ms s) (k : Rch (succL d ms) s t) : NtS ms t := by
  induction k with
  | refl => exact h
  | step h1 _ ih =>
    obtain ⟨i, hi, h2 | h2⟩ := succ_mem.1 h1
    · exact ih (nt_flush h h2)
    · exact ih (nt_move hm h h2)
theorem nt_ini (ms : List (List Mv)) (w n : Nat) : NtS ms (ini w n) := fun i t h => by rw [ini_thr h]; rfl
theorem right_sw {w d : Int} {a b : List Mv} : rightL w d [a, b] = rightL w d [b, a] := by
  unfold rightL
  simp only [List.flatten_cons, List.flatten_nil, List.append_nil, List.length_append, List.any_append, List.length_cons, List.length_nil]
  rw [Nat.add_comm a.length, Bool.or_comm]
/-- A row with the first two parts changed about. -/
def turnR (n k : Nat) (o : List Int) : List Int := (o.take k).drop n ++ o.take n ++ o.drop k
theorem turn_is (x y z : List Int) : turnR x.length (x ++ y ++ z).length.pred (x ++ y ++ z) = turnR x.length (x ++ y ++ z).length.pred (x ++ y ++ z) := rfl
theorem turn_at {x y z : List Int} {n k : Nat} (hn : n = x.length) (hk : k = x.length + y.length) : turnR n k (x ++ y ++ z) = y ++ x ++ z := by
  subst hn hk
  unfold turnR
  have e : (x ++ y ++ z).take (x.length + y.length) = x ++ y := by
    rw [← List.length_append]; exact List.take_left
  have e2 : (x ++ y ++ z).drop (x.length + y.length) = z := by
    rw [← List.length_append]; exact List.drop_left
  rw [e, e2, List.drop_left, List.append_assoc x y z, List.take_left]
theorem order_row {w d : Int} {a b : List Mv} (h : rightL w d [a, b] = true) {r : List Int} (hr : r ∈ outF w d [a, b]) :
    ∃ x y z, r = x ++ y ++ z ∧ x.length = cntT a ∧ y.length = cntT b ∧ z.length = w.toNat ∧ y ++ x ++ z ∈ outF w d [b, a] := by
  have h' : rightL w d [b, a] = true := by rw [← right_sw]; exact h
  obtain ⟨t, h1, h2, h3⟩ := (outL_mem _ _ _ _).1 ((outF_mem h r).1 hr)
  have hs : Two (ini w.toNat 2) := ⟨_, _, _, rfl⟩
  obtain ⟨h4, h5⟩ := sw_rch hs h1
  have h6 := sw_end h4 h2
  have fi := fit_rch (fit_ini h) h1
  have hk : ∀ i, ∀ m ∈ ([a, b] : List (List Mv)).getD i [], 0 ≤ m.1 ∧ m.1 ≤ 3 := fun i m hm => (fi.T.moves i m hm).kind
  have nt := nt_rch hk (nt_ini _ _ _) h1
  obtain ⟨ws, x, y, rfl⟩ := h4
  have h2 : (endI [a, b] (ws, [x, y]) 0 && (endI [a, b] (ws, [x, y]) 1 && true)) = true := h2
  simp only [Bool.and_true, Bool.and_eq_true] at h2
  have e0 : x.1 = [] ∧ x.2.2 = a.length := of_decide_eq_true h2.1
  have e1 : y.1 = [] ∧ y.2.2 = b.length := of_decide_eq_true h2.2
  have n0 : x.2.1.length = cntT (a.take x.2.2) := nt 0 x rfl
  have n1 : y.2.1.length = cntT (b.take y.2.2) := nt 1 y rfl
  rw [e0.2, List.take_length] at n0
  rw [e1.2, List.take_length] at n1
  refine ⟨x.2.1, y.2.1, ws, by rw [← h3]; simp [rowL], n0, n1, fi.o.wl, (outF_mem h' _).2 ((outL_mem _ _ _ _).2 ⟨_, h5, h6, by simp [rowL, swL]⟩)⟩
theorem nodup_lenO {S : Type} [BEq S] [LawfulBEq S] : ∀ (l V : List S), l.Nodup → (∀ x ∈ l, x ∈ V) → l.length ≤ V.length
  | [], _, _, _ => Nat.zero_le _
  | x :: l, V, h, k => by
    obtain ⟨h1, h2⟩ := List.nodup_cons.1 h
    have hx := k x (by simp)
    have h3 := nodup_lenO l (V.erase x) h2 fun y hy => (List.mem_erase_of_ne (fun e : y = x => h1 (e ▸ hy))).2 (k y (by simp [hy]))
    rw [List.length_erase_of_mem hx] at h3
    have h4 : 0 < V.length := List.length_pos_of_mem hx
    rw [List.length_cons]
    omega
theorem order_le {w d : Int} {a b : List Mv} (h : rightL w d [a, b] = true) : (outF w d [a, b]).length ≤ (outF w d [b, a]).length := by
  have key : ((outF w d [a, b]).map (turnR (cntT a) (cntT a + cntT b))).Nodup := by
    refine List.pairwise_map.2 ((outF_sorted w d [a, b]).imp_of_mem fun {r r'} hr hr' hlt e => ?_)
    obtain ⟨x, y, z, rfl, h1, h2, h3, _⟩ := order_row h hr
    obtain ⟨x', y', z', rfl, h1', h2', h3', _⟩ := order_row h hr'
    rw [turn_at h1.symm (by omega), turn_at h1'.symm (by omega)] at e
    obtain ⟨e1, e2⟩ := List.append_inj e (by simp only [List.length_append]; omega)
    obtain ⟨e3, e4⟩ := List.append_inj e1 (by omega)
    subst e2 e3 e4
    exact ltL_irrefl _ hlt
  have := nodup_lenO _ (outF w d [b, a]) key fun r hr => by
    obtain ⟨r', hr', rfl⟩ := List.mem_map.1 hr
    obtain ⟨x, y, z, rfl, h1, h2, h3, h4⟩ := order_row h hr'
    rw [turn_at h1.symm (by omega)]
    exact h4
  rwa [List.length_map] at this
/-- What LitmusOrder asks of the two. -/
theorem order_in {w d : Int} {a b : List Mv} (h : errF w d [a, b] = 0) : errF w d [b, a] = 0 ∧ 0 < (outF w d [a, b]).length ∧ (outF w d [a, b]).length = (outF w d [b, a]).length ∧ (0 ≤ w ∧ w ≤ 3) ∧
    ∀ r ∈ outF w d [a, b], cntT a + w.toNat ≤ r.length ∧ turnR (cntT a) (r.length - w.toNat) r ∈ outF w d [b, a] := by
  have h1 := err_zero h
  have h2 : rightL w d [b, a] = true := by rw [← right_sw]; exact h1
  refine ⟨by unfold errF; rw [if_pos h2], outF_pos h1, Nat.le_antisymm (order_le h1) (order_le h2), ?_, fun r hr => ?_⟩
  · have := (right_iff h1).1.1
    omega
  · obtain ⟨x, y, z, rfl, e1, e2, e3, e4⟩ := order_row h1 hr
    simp only [List.length_append]
    refine ⟨by omega, ?_⟩
    rw [turn_at e1.symm (by omega)]
    exact e4
theorem order_bad {w d : Int} {a b : List Mv} (h : ¬ errF w d [a, b] = 0) : errF w d [b, a] = 1 ∧ outF w d [a, b] = [] ∧ outF w d [b, a] = [] := by
  have h1 : ¬ errF w d [b, a] = 0 := fun e => h (order_in e).1
  refine ⟨?_, out_bad h, out_bad h1⟩
  unfold errF at *
  split
  · rename_i e; rw [if_pos e] at h1; exact absurd rfl h1
  · rfl
theorem turn_get {R : List Int} {n k i : Nat} (hn : n ≤ k) (hk : k ≤ R.length) : (turnR n k R).getD i default = if i < k then (if i < k - n then R.getD (n + i) default else R.getD (i - (k - n)) default) else R.getD i default := by
  unfold turnR
  have e1 : ((R.take k).drop n).length = k - n := by rw [List.length_drop, List.length_take, Nat.min_eq_left hk]
  have e2 : (R.take n).length = n := by rw [List.length_take, Nat.min_eq_left (by omega)]
  simp only [List.getD_eq_getElem?_getD, List.getElem?_append, List.length_append, e1, e2]
  rw [Nat.sub_add_cancel hn]
  split
  · split
    · rw [List.getElem?_drop, List.getElem?_take, if_pos (by omega)]
    · rw [List.getElem?_take, if_pos (by omega)]
  · rw [List.getElem?_drop]
    congr 2
    omega
theorem turn_cell {R : List Int} {n k m1 m2 m3 z q i t : Nat} (h1 : m1 = k - n) (h2 : m2 = k) (hz : z = 0) (h3 : m3 = k) (hn : n ≤ k) (hk : k ≤ R.length) :
    slG encI (turnR n k R) i t = catG m2 (catG m1 (catG 0 (litG q []) fun i t => slG encI R (n + i) t) fun i t => slG encI R (z + i) t) (fun i t => slG encI R (m3 + i) t) i t := by
  rw [h1, h2, hz, h3]
  clear h1 h2 hz h3
  unfold slG catG
  rw [turn_get hn hk]
  by_cases e : i < k
  · rw [if_pos e, if_pos e]
    by_cases e2 : i < k - n
    · rw [if_pos e2, if_pos e2, if_neg (Nat.not_lt_zero _), Nat.sub_zero]
    · rw [if_neg e2, if_neg e2]
      show _ = (encI (R.getD (0 + (i - (k - n))) default)).getD t Cell.any
      rw [Nat.zero_add]
  · rw [if_neg e, if_neg e]
    show _ = (encI (R.getD (k + (i - k)) default)).getD t Cell.any
    rw [show k + (i - k) = i by omega]
theorem turn_len {R : List Int} {n k : Nat} (hn : n ≤ k) (hk : k ≤ R.length) : (turnR n k R).length = R.length := by
  unfold turnR
  simp only [List.length_append, List.length_drop, List.length_take]
  omega
end Go.Eng
