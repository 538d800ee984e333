/- Grace: events cut, or without one of their syncs. -/
import Derived.Test.YthhangpcedbhdaaGrH
set_option linter.unusedVariables false
set_option linter.unusedSimpArgs false
namespace Go.Eng
open Go Go.Proofs

theorem getD_take' {l : List Ev} {c k : Nat} (h : k < c) : (l.take c).getD k default = l.getD k default := by
  rw [List.getD_eq_getElem?_getD, List.getElem?_take, if_pos h, ← List.getD_eq_getElem?_getD]
theorem dp_take {i o m : Int} {l : List Ev} {c : Nat} (a : Int) : ∀ k, k ≤ c → dp i o m (l.take c) a k = dp i o m l a k
  | 0, _ => rfl
  | k + 1, h => by
    show stp i o m ((l.take c).getD k default) a (dp i o m (l.take c) a k) = stp i o m (l.getD k default) a (dp i o m l a k)
    rw [dp_take a k (by omega), getD_take' (by omega)]
theorem gchk_right (y : List Sc) : ∀ (z : List Sc) (i : Nat), (gchk y z i).2 = true ↔ ∀ a ∈ z, ∀ s ∈ y, spnF a s = false
  | [], i => ⟨fun _ a ha => absurd ha List.not_mem_nil, fun _ => rfl⟩
  | a :: r, i => by
    rw [gchk]
    by_cases h : y.any (spnF a) = true
    · rw [if_pos h]
      refine ⟨fun q => absurd q Bool.noConfusion, fun q => ?_⟩
      obtain ⟨s, hs, e⟩ := List.any_eq_true.1 h
      rw [q a List.mem_cons_self s hs] at e
      exact absurd e Bool.noConfusion
    · rw [if_neg h, gchk_right y r (i + 1)]
      constructor
      · intro q b hb s hs
        rcases List.mem_cons.1 hb with e | hb
        · subst e
          by_cases q1 : spnF b s = true
          · exact absurd (List.any_eq_true.2 ⟨s, hs, q1⟩) h
          · exact Bool.eq_false_iff.2 q1
        · exact q b hb s hs
      · exact fun q b hb => q b (List.mem_cons_of_mem _ hb)
theorem gchk_zero (y : List Sc) : ∀ (z : List Sc) (i : Nat), (gchk y z i).2 = true → (gchk y z i).1 = 0
  | [], _, _ => rfl
  | a :: r, i, h => by
    rw [gchk] at h ⊢
    split at h
    · exact absurd h Bool.noConfusion
    · rename_i q
      rw [if_neg q]
      exact gchk_zero y r (i + 1) h
theorem chk_zero {l : List Ev} (h : (chkF l).2 = true) : (chkF l).1 = 0 := gchk_zero _ _ _ h
theorem spn_true {a s : Sc} : spnF a s = true ↔ a.fr < s.fr ∧ 0 ≤ s.to ∧ (a.to < 0 ∨ s.to < a.to) := decide_eq_true_iff
theorem chk_cut {l : List Ev} (hl : l.length ≤ 60) (h : (chkF l).2 = true) {c : Nat} (hc : c ≤ l.length) : (chkF (l.take c)).2 = true := by
  have h := (gchk_right _ _ _).1 h
  refine (gchk_right _ _ _).2 fun a ha s hs => ?_
  by_cases q : spnF a s = true
  case neg => exact Bool.eq_false_iff.2 q
  exfalso
  have q := spn_true.1 q
  have hlc : (l.take c).length = c := by rw [List.length_take]; omega
  obtain ⟨na, hna, ea⟩ := mem_gD ha
  have A := (sec_sts (l := l.take c) (by omega)).a na hna
  rw [ea] at A
  obtain ⟨ns, hns, es⟩ := mem_gD hs
  have S := (syn_sts (l.take c)).a ns hns
  rw [es] at S
  have a0 := A.f0
  have s0 := S.f0
  have af := A.fk
  have sf := S.fk
  have h1 := A.fi
  have h2 := A.ft
  have h3 := A.d0
  have g1 := S.fi
  have g2 := S.ft
  have g3 := S.d0
  rw [getD_take' (by omega)] at h1 h2 g1 g2
  rw [dp_take _ _ (by omega)] at h3 g3
  obtain ⟨a1, m1, e1, e2, e3⟩ := (sec_sts (l := l) (by omega)).late (c := s.to.toNat + 1) h2 h1 h3 (by omega) (fun j j1 j2 => by
    have j3 : j ≤ c := by rcases S.t with z | ⟨_, z, _⟩ <;> omega
    rw [← dp_take _ _ j3]
    exact A.dn j (by omega) (by omega) fun _ => by omega)
  rcases S.t with z | ⟨z1, z2, _, _, z3⟩
  · omega
  rw [dp_take _ _ (by omega)] at z3
  obtain ⟨s1, k1, f1, f2, f3⟩ := (syn_sts l).ended (t := s.to.toNat) g2 g1 g3 (by omega) (by omega) z3 (fun j j1 j2 => by
    rw [← dp_take _ _ (show j ≤ c by omega)]
    exact S.dn j (by omega) (by omega) fun _ => by omega)
  have := h a1 m1 s1 k1
  rw [spn_true.2 (by omega)] at this
  exact Bool.noConfusion this
/-- Which events are a sync's own. -/
def rmB (s : Sc) (k : Nat) (x : Ev) : Bool := decide (s.fr ≤ k ∧ (s.to < 0 ∨ (k : Int) ≤ s.to) ∧ x.2.1 = s.th ∧ (x.1 = 4 ∨ x.1 = 5))
def cutF (s : Sc) : List Ev → Nat → List Ev
  | [], _ => []
  | x :: r, k => if rmB s k x = true then cutF s r (k + 1) else x :: cutF s r (k + 1)
theorem cutF_append (s : Sc) : ∀ (a b : List Ev) (k : Nat), cutF s (a ++ b) k = cutF s a k ++ cutF s b (k + a.length)
  | [], b, k => rfl
  | x :: a, b, k => by
    have e := cutF_append s a b (k + 1)
    rw [List.cons_append, cutF, cutF, e, List.length_cons, show k + 1 + a.length = k + (a.length + 1) by omega]
    split <;> rfl
theorem cutF_len (s : Sc) : ∀ (a : List Ev) (k : Nat), (cutF s a k).length ≤ a.length
  | [], k => Nat.le_refl _
  | x :: a, k => by
    have := cutF_len s a (k + 1)
    rw [cutF]
    split
    · rw [List.length_cons]; omega
    · rw [List.length_cons, List.length_cons]; omega
def phi (s : Sc) (l : List Ev) (k : Nat) : Nat := (cutF s (l.take k) 0).length
theorem cutF_snoc {s : Sc} {l : List Ev} {k : Nat} (hk : k < l.length) : cutF s (l.take (k + 1)) 0 = cutF s (l.take k) 0 ++ if rmB s k (l.getD k default) = true then [] else [l.getD k default] := by
  rw [take_getD (d := default) hk, cutF_append, List.length_take, show 0 + min k l.length = k by omega]
  congr 1
theorem phi_succ {s : Sc} {l : List Ev} {k : Nat} (hk : k < l.length) : phi s l (k + 1) = phi s l k + if rmB s k (l.getD k default) = true then 0 else 1 := by
  unfold phi
  rw [cutF_snoc hk, List.length_append]
  split <;> rfl
theorem phi_all (s : Sc) (l : List Ev) : phi s l l.length = (cutF s l 0).length := by unfold phi; rw [List.take_length]
theorem cut_getD {s : Sc} {l : List Ev} {k : Nat} (hk : k < l.length) (h : rmB s k (l.getD k default) = false) : (cutF s l 0).getD (phi s l k) default = l.getD k default := by
  have e : l = l.take k ++ l.drop k := (List.take_append_drop k l).symm
  have e2 : cutF s l 0 = cutF s (l.take k) 0 ++ l.getD k default :: cutF s (l.drop (k + 1)) (k + 1) := by
    conv => lhs; rw [e]
    rw [cutF_append, List.length_take, show 0 + min k l.length = k by omega, drop_getD (d := default) hk, cutF, h]
    rfl
  rw [e2]
  exact gD_r
theorem phi_mono {s : Sc} {l : List Ev} {j : Nat} : ∀ {k : Nat}, j ≤ k → k ≤ l.length → phi s l j ≤ phi s l k
  | 0, h, _ => by rw [show j = 0 by omega]; exact Nat.le_refl _
  | k + 1, h, hk => by
    by_cases e : j = k + 1
    · rw [e]; exact Nat.le_refl _
    · have := phi_mono (s := s) (l := l) (j := j) (k := k) (by omega) (by omega)
      rw [phi_succ (by omega)]
      omega
theorem phi_kept {s : Sc} {l : List Ev} {k : Nat} (hk : k < l.length) (h : rmB s k (l.getD k default) = false) : phi s l (k + 1) = phi s l k + 1 := by rw [phi_succ hk, h]; rfl
theorem phi_lt {s : Sc} {l : List Ev} {e k : Nat} (he : rmB s e (l.getD e default) = false) (h : e < k) (hk : k ≤ l.length) : phi s l e < phi s l k := by
  have := phi_mono (s := s) (l := l) (j := e + 1) (k := k) h hk
  rw [phi_kept (by omega) he] at this
  omega
theorem phi_find {s : Sc} {l : List Ev} : ∀ k, k ≤ l.length → ∀ f, f < phi s l k → ∃ e, e < k ∧ rmB s e (l.getD e default) = false ∧ phi s l e = f
  | 0, _, f, h => absurd h (Nat.not_lt_zero _)
  | k + 1, hk, f, h => by
    by_cases q : f < phi s l k
    · obtain ⟨e, h1, h2⟩ := phi_find k (by omega) f q
      exact ⟨e, by omega, h2⟩
    · rw [phi_succ (by omega)] at h
      by_cases z : rmB s k (l.getD k default) = true
      · rw [if_pos z] at h; omega
      · rw [if_neg z] at h
        exact ⟨k, by omega, Bool.eq_false_iff.2 z, by omega⟩
theorem rmB_true {s : Sc} {k : Nat} {x : Ev} : rmB s k x = true ↔ s.fr ≤ k ∧ (s.to < 0 ∨ (k : Int) ≤ s.to) ∧ x.2.1 = s.th ∧ (x.1 = 4 ∨ x.1 = 5) := decide_eq_true_iff
theorem dp_cut {i o m : Int} {s : Sc} {l : List Ev} {a : Int} (hr : ∀ k, rmB s k (l.getD k default) = true → ∀ d, stp i o m (l.getD k default) a d = d) : ∀ k, k ≤ l.length → dp i o m (cutF s l 0) a (phi s l k) = dp i o m l a k
  | 0, _ => rfl
  | k + 1, hk => by
    have e := dp_cut hr k (by omega)
    by_cases z : rmB s k (l.getD k default) = true
    · rw [phi_succ (by omega), if_pos z, Nat.add_zero, e]
      exact (hr k z _).symm
    · rw [phi_kept (by omega) (Bool.eq_false_iff.2 z)]
      show stp i o m ((cutF s l 0).getD (phi s l k) default) a (dp i o m (cutF s l 0) a (phi s l k)) = stp i o m (l.getD k default) a (dp i o m l a k)
      rw [e, cut_getD (by omega) (Bool.eq_false_iff.2 z)]
theorem dp_cut2 (m : Int) (s : Sc) (l : List Ev) (a : Int) {k : Nat} (hk : k ≤ l.length) : dp 2 3 m (cutF s l 0) a (phi s l k) = dp 2 3 m l a k :=
  dp_cut (fun k h d => by
    have := rmB_true.1 h
    exact stp_skip (by omega) (by omega)) k hk
theorem dp_cut4 {s : Sc} {l : List Ev} {a : Int} (ha : ¬ a = s.th) {k : Nat} (hk : k ≤ l.length) : dp 4 5 1 (cutF s l 0) a (phi s l k) = dp 4 5 1 l a k :=
  dp_cut (fun k h d => by
    obtain ⟨_, _, h1, _⟩ := rmB_true.1 h
    unfold stp
    rw [h1, if_neg ha, if_neg (fun q : a = s.th ∧ _ => ha q.1)]
    split <;> (try split) <;> rfl) k hk
theorem dp_own {s : Sc} {l : List Ev} (S : StA l 4 5 1 l.length s) : ∀ k : Nat, k ≤ l.length → dp 4 5 1 (cutF s l 0) s.th (phi s l k) = if s.fr < k ∧ (s.to < 0 ∨ (k : Int) ≤ s.to) then 0 else dp 4 5 1 l s.th k
  | 0, _ => by split <;> rfl
  | k + 1, hk => by
    have e := dp_own S k (by omega)
    by_cases q : s.fr ≤ k ∧ (s.to < 0 ∨ (k : Int) ≤ s.to)
    · have e0 : dp 4 5 1 (cutF s l 0) s.th (phi s l k) = 0 := by
        rw [e]
        split
        · rfl
        · have : k = s.fr.toNat := by omega
          rw [this]; exact S.d0
      have e1 : dp 4 5 1 (cutF s l 0) s.th (phi s l (k + 1)) = 0 := by
        by_cases z : rmB s k (l.getD k default) = true
        · rw [phi_succ (by omega), if_pos z, Nat.add_zero]; exact e0
        · rw [phi_kept (by omega) (Bool.eq_false_iff.2 z)]
          show stp 4 5 1 ((cutF s l 0).getD (phi s l k) default) s.th (dp 4 5 1 (cutF s l 0) s.th (phi s l k)) = 0
          rw [e0, cut_getD (by omega) (Bool.eq_false_iff.2 z)]
          have z : ¬ ((l.getD k default).2.1 = s.th ∧ ((l.getD k default).1 = 4 ∨ (l.getD k default).1 = 5)) := fun z2 => z (rmB_true.2 ⟨q.1, q.2, z2⟩)
          unfold stp
          split
          · rw [if_neg (fun h => z ⟨h.symm, by omega⟩)]
          · split
            · rw [if_neg (fun h => h.2 rfl)]
            · rfl
      rw [e1]
      split
      · rfl
      · have h1 : (k : Int) = s.to := by omega
        rcases S.t with h2 | ⟨_, _, _, _, h2⟩
        · omega
        · rw [show k = s.to.toNat by omega]; exact h2.symm
    · have z : rmB s k (l.getD k default) = false := Bool.eq_false_iff.2 fun z => q ⟨(rmB_true.1 z).1, (rmB_true.1 z).2.1⟩
      rw [if_neg (by omega)] at e
      rw [if_neg (by omega), phi_kept (by omega) z]
      show stp 4 5 1 ((cutF s l 0).getD (phi s l k) default) s.th (dp 4 5 1 (cutF s l 0) s.th (phi s l k)) = stp 4 5 1 (l.getD k default) s.th (dp 4 5 1 l s.th k)
      rw [e, cut_getD (by omega) z]
theorem chk_skip {l : List Ev} (hl : l.length ≤ 60) (h : (chkF l).2 = true) {s : Sc} (hs : s ∈ synF l) : (chkF (cutF s l 0)).2 = true := by
  have h := (gchk_right _ _ _).1 h
  have hl' := cutF_len s l 0
  refine (gchk_right _ _ _).2 fun a ha t ht => ?_
  by_cases q : spnF a t = true
  case neg => exact Bool.eq_false_iff.2 q
  exfalso
  have q := spn_true.1 q
  obtain ⟨na, hna, ea⟩ := mem_gD ha
  have A := (sec_sts (l := cutF s l 0) (by omega)).a na hna
  rw [ea] at A
  obtain ⟨nt, hnt, et⟩ := mem_gD ht
  have T := (syn_sts (cutF s l 0)).a nt hnt
  rw [et] at T
  obtain ⟨ns, hns, es⟩ := mem_gD hs
  have S := (syn_sts l).a ns hns
  rw [es] at S
  have pa := phi_all s l
  have a0 := A.f0
  have t0 := T.f0
  have ak := A.fk
  have tk := T.fk
  rcases T.t with z | ⟨z1, z2, _, _, z3⟩
  · omega
  obtain ⟨fa, hfa, kfa, pfa⟩ := phi_find (s := s) (l := l) l.length (Nat.le_refl _) a.fr.toNat (by omega)
  obtain ⟨ft, hft, kft, pft⟩ := phi_find (s := s) (l := l) l.length (Nat.le_refl _) t.fr.toNat (by omega)
  obtain ⟨tt, htt, ktt, ptt⟩ := phi_find (s := s) (l := l) l.length (Nat.le_refl _) t.to.toNat (by omega)
  have ga := cut_getD hfa kfa
  have gt := cut_getD hft kft
  rw [pfa] at ga
  rw [pft] at gt
  have h1 := A.fi
  have h2 := A.ft
  have g1 := T.fi
  have g2 := T.ft
  rw [ga] at h1 h2
  rw [gt] at g1 g2
  have ptt1 := phi_kept htt ktt
  have o1 : fa < ft := by
    by_cases o : fa < ft
    · exact o
    · have := phi_mono (s := s) (l := l) (j := ft) (k := fa) (by omega) (by omega)
      omega
  have o2 : ft < tt := by
    by_cases o : ft < tt
    · exact o
    · have := phi_mono (s := s) (l := l) (j := tt) (k := ft) (by omega) (by omega)
      omega
  obtain ⟨a1, m1, e1, e2, e3⟩ := (sec_sts (l := l) (by omega)).late (c := tt + 1) h2 h1 (by rw [← dp_cut2 100 s l _ (by omega), pfa]; exact A.d0) hfa (fun j j1 j2 => by
    have j3 := phi_lt kfa j1 (by omega)
    have j4 := phi_mono (s := s) (l := l) j2 (by omega)
    rw [← dp_cut2 100 s l _ (by omega)]
    exact A.dn _ (by omega) (by omega) fun _ => by omega)
  have key : ∀ j : Nat, ft ≤ j → j ≤ tt + 1 → dp 4 5 1 (cutF s l 0) t.th (phi s l j) = dp 4 5 1 l t.th j := by
    intro j j1 j2
    by_cases e : t.th = s.th
    · rw [e, dp_own S j (by omega)]
      refine if_neg fun c => ?_
      by_cases c1 : s.fr ≤ ft
      · rw [rmB_true.2 ⟨c1, by omega, by rw [g2, e], .inl g1⟩] at kft
        exact Bool.noConfusion kft
      · have d0 := S.d0
        have j3 := phi_lt (k := s.fr.toNat) kft (by omega) (by omega)
        have j4 := phi_mono (s := s) (l := l) (j := s.fr.toNat) (k := tt) (by omega) (by omega)
        have := T.dn (phi s l s.fr.toNat) (by omega) (by omega) fun _ => by omega
        rw [e, dp_own S _ (by omega), if_neg (by omega)] at this
        omega
    · exact dp_cut4 e (by omega)
  obtain ⟨t1, k1, f1, f2, f3⟩ := (syn_sts l).ended (t := tt) g2 g1 (by rw [← key ft (by omega) (by omega), pft]; exact T.d0) o2 htt (by rw [← key (tt + 1) (by omega) (by omega), ptt1, ptt]; exact z3) (fun j j1 j2 => by
    have j3 := phi_lt kft j1 (by omega)
    have j4 := phi_mono (s := s) (l := l) j2 (by omega)
    rw [← key j (by omega) (by omega)]
    exact T.dn _ (by omega) (by omega) fun _ => by omega)
  have := h a1 m1 t1 k1
  rw [spn_true.2 (by omega)] at this
  exact Bool.noConfusion this
/-- How deep, within a stretch. -/
theorem apart_in {l : List Ev} (hl : l.length ≤ 60) {s : Sc} (A : StA l 2 3 100 l.length s) {k : Nat} (hx : (l.getD k default).1 = 2) (ht : (l.getD k default).2.1 = s.th) (hk : k < l.length) : dp 2 3 100 l s.th (k + 1) = dp 2 3 100 l s.th k + 1 := by
  show stp 2 3 100 _ s.th _ = _
  rw [stp_in hx, if_pos ht.symm]
  have := dp_le (i := 2) (o := 3) (most := 100) l s.th k
  unfold minW
  rw [if_neg (by omega)]
theorem apart_out {l : List Ev} {s : Sc} (A : StA l 2 3 100 l.length s) {k : Nat} (hx : (l.getD k default).1 = 3) (ht : (l.getD k default).2.1 = s.th) (hk : k < l.length) (h1 : s.fr ≤ k) (h2 : 0 ≤ s.to → (k : Int) ≤ s.to) : dp 2 3 100 l s.th (k + 1) = dp 2 3 100 l s.th k - 1 := by
  show stp 2 3 100 _ s.th _ = _
  rw [stp_out (by omega) hx]
  by_cases e : (k : Int) = s.fr
  · have := A.fi
    rw [show s.fr.toNat = k by omega, hx] at this
    exact absurd this (by decide)
  · have := A.dn k (by omega) (by omega) h2
    rw [if_pos ⟨ht.symm, by omega⟩]
theorem apart_else {l : List Ev} {s : Sc} {k : Nat} (h : ¬ ((l.getD k default).2.1 = s.th ∧ ((l.getD k default).1 = 2 ∨ (l.getD k default).1 = 3))) : dp 2 3 100 l s.th (k + 1) = dp 2 3 100 l s.th k := by
  show stp 2 3 100 _ s.th _ = _
  unfold stp
  split
  · rw [if_neg (fun q => h ⟨q.symm, by omega⟩)]
  split
  · rw [if_neg (fun q => h ⟨q.1.symm, by omega⟩)]
  · rfl
theorem apart_deep {l : List Ev} {s : Sc} (A : StA l 2 3 100 l.length s) {k : Nat} (hk : k < l.length) (h1 : s.fr ≤ k) (h2 : 0 ≤ s.to → (k : Int) ≤ s.to) (h3 : ¬ (k : Int) = s.to) : 1 ≤ dp 2 3 100 l s.th (k + 1) :=
  A.dn (k + 1) (by omega) (by omega) fun q => by have := h2 q; omega
theorem apart_two {l : List Ev} {L : List Sc} (h : Sts l 2 3 100 L) {m n : Nat} (hmn : m < n) (hn : n < L.length) : (L.getD m default).fr < (L.getD n default).fr ∧ ((L.getD n default).th = (L.getD m default).th → 0 ≤ (L.getD m default).to ∧ (L.getD m default).to < (L.getD n default).fr) := by
  have hb := h.b m n hmn hn
  refine ⟨hb, fun e => ?_⟩
  have A := h.a m (by omega)
  have B := h.a n hn
  have b0 := B.d0
  rw [e] at b0
  have a1 := A.f0
  have b1 := B.fk
  by_cases z : 0 ≤ (L.getD m default).to ∧ (L.getD m default).to < (L.getD n default).fr
  · exact z
  · have := A.dn (L.getD n default).fr.toNat (by omega) (by omega) fun _ => by omega
    omega
end Go.Eng
