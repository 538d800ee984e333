/- A part of the walks, and of the machine that proves them (StW). -/
import Derived.Test.YtgahcoccodhkmaaGreatStY
import Derived.Test.YtgahcoccodhkmaaGreatStI
import Derived.Test.YtgahcoccodhkmaaGreatBuA
set_option linter.unusedVariables false
set_option linter.unusedSimpArgs false
namespace Go.Eng
open Go Go.Proofs
theorem CutP.upS {regs : List RV} {bs : List (Nat × Blk)} {nx : Nat} {p : (G : Type) → (G → Prop) → (G → St) → Prop} {G : Type} (I : G → Prop) (live : List Nat)
    (U : G → List (Nat × RV)) (B : G → List (Nat × Blk)) (nx' : Nat)
    (h : p G I (fun g => ⟨maskR live (U g) 0 regs, B g, nx'⟩)) : CutP ⟨regs, bs, nx⟩ p := ⟨⟨G, I, _, h⟩⟩
def flushR (w : Wd) (i : Int) : Wd × Int := if worldR w = true ∧ 0 ≤ i ∧ i < w.th.length then (if 0 < (w.l.getD i.toNat default).length then (flushF w i, 0) else (wd0, 8)) else (wd0, atErr w)
def sFlushP : FSpec := spec (Wd × Int) (fun (w, i) => [.s (rWd w), .i i]) (fun (w, _) => SmallW w ∧ w.ev.length ≤ 1000000) fun (w, i) => rWdE (flushR w i)
def Wf1 : List (Nat × FSpec) := (49, sPop) :: (51, sStore) :: (50, sCloneL) :: Yt1
theorem Wf1_ok : GOK Tryz.prog (tab Wf1) := gok_cons pop_ok (gok_cons store_ok (gok_cons cloneL_ok Yt1_ok))
theorem flush_less {w m : Wd} {i : Int} (ho : WOk w i) (hm : m = midF w i) : LessPre m i := by
  obtain ⟨hn, hlf⟩ := midF_th w i ho.h
  have hleft := left_of ho.r
  have hlen := world_len ho.r
  have hh := ho.h
  rw [← hm] at hn hlf
  refine ⟨by omega, by omega, fun k => ?_⟩
  rw [hlf k, hn]
  exact hleft k
theorem bufE_drop {w : Wd} {i : Int} (hi : i.toNat < w.l.length) {k t : Nat} (hk : k < (dropW w i).l.length) (ht : t < 1) : slG bufE (dropW w i).l k t = upd2 (slG bufE w.l) i.toNat 0 (Sv.c (Cell.ro (List.drop 1 (w.l.getD i.toNat default)).length 2 false (slG encP (List.drop 1 (w.l.getD i.toNat default))))).cells k t :=
  (slG_set (enc := bufE) (k := 1) (fun _ => rfl) hi k (by have : k < (w.l.set i.toNat ((w.l.getD i.toNat default).drop 1)).length := hk; simpa using this) t ht).symm
def o83 : Oper := { dst := some 83, op := Op.move (Operand.tmp 6), type := 72, pos := "step.go:241", after := #[], guard := none }
def o84 : Oper := { dst := some 84, op := Op.makeFunc (Fn.func 52) #[] #[Operand.tmp 11], type := 1, pos := "step.go:241", after := #[], guard := none }
def o85 : Oper := { dst := some 85, op := Op.call { callee := Callee.value (Operand.func 33), args := #[Operand.tmp 83, Operand.tmp 84], argTypes := #[72, 1] }, type := 0, pos := "step.go:241", after := #[{ on := 0, ground := Ground.data }, { on := 1, ground := Ground.data }], guard := none }
set_option maxHeartbeats 2000000 in
set_option maxRecDepth 100000 in
theorem try_step {w : Wd} {i : Int} (ho : WOk w i) (hnz : ¬ (stOf w i).2 = 0) (rs : List Cell) (x0 x1 x2 x3 x4 x5 x7 x8 x9 x10 x12 x13 x14 x15 x16 x17 x18 x19 x20 x21 x22 x23 x24 x25 x26 x27 x28 x29 x30 x31 x32 x33 x34 x35 x36 x37 x38 x39 x40 x41 x42 x43 x44 x45 x46 x47 x48 x49 x50 x51 x52 x53 x54 x55 x56 x57 x58 x59 x60 x61 x62 x63 x64 x65 x66 x67 x68 x69 x70 x71 x72 x73 x74 x75 x76 x77 x78 x79 x80 x81 x82 x83 x84 x85 x86 x87 x88 x89 x90 x91 : RV) (Q : Ex → St → Prop)
  (h : ∀ va vb vc, Q .normal ⟨(x0 :: x1 :: x2 :: x3 :: x4 :: x5 :: .s (.c (.ptr 1 0)) :: x7 :: x8 :: x9 :: x10 :: .s (.c (.ptr 3 0)) :: x12 :: x13 :: x14 :: x15 :: x16 :: x17 :: x18 :: x19 :: x20 :: x21 :: x22 :: x23 :: x24 :: x25 :: x26 :: x27 :: x28 :: x29 :: x30 :: x31 :: x32 :: x33 :: x34 :: x35 :: x36 :: x37 :: x38 :: x39 :: x40 :: x41 :: x42 :: x43 :: x44 :: x45 :: x46 :: x47 :: x48 :: x49 :: x50 :: x51 :: x52 :: x53 :: x54 :: x55 :: x56 :: x57 :: x58 :: x59 :: x60 :: x61 :: x62 :: x63 :: x64 :: x65 :: x66 :: x67 :: x68 :: x69 :: x70 :: x71 :: x72 :: x73 :: x74 :: x75 :: x76 :: x77 :: x78 :: x79 :: x80 :: x81 :: x82 :: va :: vb :: vc :: x86 :: x87 :: x88 :: x89 :: x90 :: x91 :: []), [(0, .row 33 rs), (1, .row 77 (wxC (putW (dropW w i) i (faultT (thOf w i) (stOf w i).2)) i (faultT (thOf w i) (stOf w i).2) (insOr w (thOf w i)))), (2, .row 26 (memC (stOf w i).1.1 (stOf w i).1.2)), (3, .row 35 [.i (stOf w i).2])], 4⟩) :
  W Tryz.prog (tab Wf1) 0 [9, 10] true (.region 13 #[o83, o84, o85] false) Q ⟨(x0 :: x1 :: x2 :: x3 :: x4 :: x5 :: .s (.c (.ptr 1 0)) :: x7 :: x8 :: x9 :: x10 :: .s (.c (.ptr 3 0)) :: x12 :: x13 :: x14 :: x15 :: x16 :: x17 :: x18 :: x19 :: x20 :: x21 :: x22 :: x23 :: x24 :: x25 :: x26 :: x27 :: x28 :: x29 :: x30 :: x31 :: x32 :: x33 :: x34 :: x35 :: x36 :: x37 :: x38 :: x39 :: x40 :: x41 :: x42 :: x43 :: x44 :: x45 :: x46 :: x47 :: x48 :: x49 :: x50 :: x51 :: x52 :: x53 :: x54 :: x55 :: x56 :: x57 :: x58 :: x59 :: x60 :: x61 :: x62 :: x63 :: x64 :: x65 :: x66 :: x67 :: x68 :: x69 :: x70 :: x71 :: x72 :: x73 :: x74 :: x75 :: x76 :: x77 :: x78 :: x79 :: x80 :: x81 :: x82 :: x83 :: x84 :: x85 :: x86 :: x87 :: x88 :: x89 :: x90 :: x91 :: []), [(0, .row 33 rs), (1, .row 77 (wxC (dropW w i) i (thOf w i) (insOr w (thOf w i)))), (2, .row 26 (memC (stOf w i).1.1 (stOf w i).1.2)), (3, .row 35 [.i (stOf w i).2])], 4⟩ := by
  have hn := (world_small ho.r).n
  have hh := ho.h
  repeat' (first | exact @id (emp _ = true) | (intro h; first | exact Bool.noConfusion h | (simp only [Qn] at h) | skip) | ((conv => whnf) <;> (first | exact trivial | apply Qa | apply And.intro | (apply CallP.inr; apply CallP.inr; apply CallP.own2; refine CutE.at (A := Wd × Int × Th × Ins × Int) (dropW w i, i, thOf w i, insOr w (thOf w i), (stOf w i).2) ?_) | apply Qb | apply Qc | apply Qd | apply Qe | apply Qf | apply Qg | apply Qh | apply Qi | exact QA | exact QP | refine QG ?_ | apply Qj | apply Qk | apply Ql | apply Qm | apply Qo | apply Qp | apply Qw | apply Qv | apply Qu | apply Qt | apply Qs | apply Qr | apply Qq | apply Qx | apply wrapS | apply Qy | (with_reducible exact lenNil) | apply Eq.refl)) | ((with_reducible first | apply Y1 | apply Y2 | apply Y3 | show blkEq _ _ _); conv => whnf))
  all_goals first
    | exact hh.1
    | exact hh.2
    | exact hn
    | exact hnz
    | (apply hnz; assumption)
    | ((conv => whnf); exact h _ _ _)
    | trace_state
set_option maxHeartbeats 2000000 in
set_option maxRecDepth 100000 in
theorem flush_go {w : Wd} {i : Int} (ho : WOk w i) (hev : w.ev.length ≤ 1000000) (hl : 0 < (w.l.getD i.toNat default).length) : bodyF Tryz.prog (tab Wf1) [9, 10] Tryz.f26 sFlushP (w, i) := by
  have hs := world_small ho.r
  have hsm := hs.l.2 i.toNat
  have hlen := world_len ho.r
  have hn := hs.n
  have hh := ho.h
  have hpe : (if (w.l.getD i.toNat default).length = 0 then (8 : Int) else 0) = 0 := if_neg (by omega)
  have e1 : sFlushP.res (w, i) = rWdE (flushF w i, 0) := by
    show rWdE (flushR w i) = _
    unfold flushR; rw [if_pos ⟨ho.r, ho.h⟩, if_pos hl]
  obtain ⟨F, hF⟩ : ∃ F, flushF w i = F := ⟨_, rfl⟩
  rw [hF] at e1
  show bodyK Tryz.prog _ _ _ _ sFlushP _
  unfold bodyK retE
  rw [e1]
  clear e1
  repeat' (first | exact @id (emp _ = true) | (intro h; first | exact Bool.noConfusion h | (simp only [Qn] at h) | skip) | ((conv => whnf) <;> (first | exact trivial | apply Qa | apply And.intro | exact absurd hpe (by assumption) | (apply CallP.inl; apply CallP.own0; refine CutE.at (A := Bool × Wd × Int) (true, w, i) ?_) | (refine CutE.at (A := List Put) (w.l.getD i.toNat default) ?_) | (refine CutE.at (A := List (List Put)) w.l ?_) | apply Qb | apply Qc | apply Qd | apply Qe | apply Qf | apply Qg | apply Qh | apply Qi | exact QA | exact QP | refine QG ?_ | apply Qj | apply Qk | apply Ql | apply Qm | apply Qo | apply Qp | apply Qw | apply Qv | apply Qu | apply Qt | apply Qs | apply Qr | apply Qq | apply Qx | apply wrapS | apply Qy | (with_reducible exact lenNil) | apply Eq.refl)) | ((with_reducible first | apply Y1 | apply Y2 | apply Y3 | show blkEq _ _ _); conv => whnf))
  rotate_right 1
  · apply CutP.upS (G := Unit) (fun _ => True) [2, 4, 6, 8] (fun _ => []) (fun _ => [(0, .row 33 (wdC true w)), (1, .row 33 [.v (.slice none 0 0), .v (.slice none 0 0), .v (.slice none 0 0), .i 0, .v (.slice none 0 0), .v (.slice none 0 0), .v (.slice none 0 0)]), (2, .row 77 (wxC (dropW w i) i (thOf w i) (insOr w (thOf w i)))), (3, .row 47 [.i (oldest w i).1, .i (oldest w i).2])]) 4
    apply And.intro
    · repeat' (first | exact @id (emp _ = true) | (intro h; first | exact Bool.noConfusion h | (simp only [Qn] at h) | skip) | ((conv => whnf) <;> (first | exact trivial | apply Qa | apply And.intro | (refine CutE.at () ?_) | (refine EntP.at [⟨true, 2, 4, 0, 0⟩] [0, 1, 2, 3] ?_) | apply Qb | apply Qc | apply Qd | apply Qe | apply Qf | apply Qg | apply Qh | apply Qi | exact QA | exact QP | refine QG ?_ | apply Qj | apply Qk | apply Ql | apply Qm | apply Qo | apply Qp | apply Qw | apply Qv | apply Qu | apply Qt | apply Qs | apply Qr | apply Qq | apply Qx | apply wrapS | apply Qy | (with_reducible exact lenNil) | apply Eq.refl)) | ((with_reducible first | apply Y1 | apply Y2 | apply Y3 | show blkEq _ _ _); conv => whnf))
      all_goals first
        | omega
        | (show i < (w.l.length : Int); omega)
        | (show i.toNat < w.l.length; omega)
        | exact List.length_set
        | exact bufE_drop (by omega) (by assumption) (by assumption)
        | trace_state
    · intro _ _
      (conv => whnf)
      apply CutP.upS (G := Unit) (fun _ => True) [4, 6, 10, 11] (fun _ => [(4, .s (.c (.ptr 0 0))), (6, .s (.c (.ptr 1 0))), (10, .s (.c (.ptr 2 0))), (11, .s (.c (.ptr 3 0)))]) (fun _ => [(0, .row 33 [.v (.slice none 0 0), .v (.slice none 0 0), .v (.slice none 0 0), .i 0, .v (.slice none 0 0), .v (.slice none 0 0), .v (.slice none 0 0)]), (1, .row 77 (wxC (dropW w i) i (thOf w i) (insOr w (thOf w i)))), (2, .row 26 (memC (stOf w i).1.1 (stOf w i).1.2)), (3, .row 35 [.i (stOf w i).2])]) 4
      apply And.intro
      · repeat' (first | exact @id (emp _ = true) | (intro h; first | exact Bool.noConfusion h | (simp only [Qn] at h) | skip) | ((conv => whnf) <;> (first | exact trivial | apply Qa | apply And.intro | (refine CutE.at (A := List Int × List Int × Int × Int) (w.ws, w.ts, (oldest w i).1, (oldest w i).2) ?_) | (refine CutE.at () ?_) | (refine EntP.at [] [1, 2, 4, 5] ?_) | apply Qb | apply Qc | apply Qd | apply Qe | apply Qf | apply Qg | apply Qh | apply Qi | exact QA | exact QP | refine QG ?_ | apply Qj | apply Qk | apply Ql | apply Qm | apply Qo | apply Qp | apply Qw | apply Qv | apply Qu | apply Qt | apply Qs | apply Qr | apply Qq | apply Qx | apply wrapS | apply Qy | (with_reducible exact lenNil) | apply Eq.refl)) | ((with_reducible first | apply Y1 | apply Y2 | apply Y3 | show blkEq _ _ _); conv => whnf))
        all_goals first
          | exact True.intro
          | trace_state
      · intro _ _
        by_cases hnz : (stOf w i).2 = 0
        rotate_left 1
        by_cases hst : (thOf w i).st = 2
        rotate_left 1
        · have hmid : midF w i = putW (dropW w i) i (faultT (thOf w i) (stOf w i).2) := by unfold midF; rw [if_neg hnz, if_pos hst]
          have hflush := flush_less ho (m := putW (dropW w i) i (faultT (thOf w i) (stOf w i).2)) hmid.symm
          have e2 : F = thsW (putW (dropW w i) i (faultT (thOf w i) (stOf w i).2)) ((putW (dropW w i) i (faultT (thOf w i) (stOf w i).2)).th.map (lessT i)) := by rw [← hF]; unfold flushF; rw [hmid]
          subst e2
          clear hF
          (conv => whnf)
          apply br_rec
          · intro h; exact absurd (eq_of_beq h) hnz
          · intro _
            (conv => whnf)
            apply br_rec
            · intro _
              apply try_step ho hnz
              intro va vb vc
              repeat' (first | exact @id (emp _ = true) | (intro h; first | exact Bool.noConfusion h | (simp only [Qn] at h) | skip) | ((conv => whnf) <;> (first | exact trivial | apply Qa | apply And.intro | (refine CutE.at (A := Wk8) (putW (dropW w i) i (faultT (thOf w i) (stOf w i).2), i, faultT (thOf w i) (stOf w i).2, insOr w (thOf w i)) ?_) | apply Qb | apply Qc | apply Qd | apply Qe | apply Qf | apply Qg | apply Qh | apply Qi | exact QA | exact QP | refine QG ?_ | apply Qj | apply Qk | apply Ql | apply Qm | apply Qo | apply Qp | apply Qw | apply Qv | apply Qu | apply Qt | apply Qs | apply Qr | apply Qq | apply Qx | apply wrapS | apply Qy | (with_reducible exact lenNil) | apply Eq.refl)) | ((with_reducible first | apply Y1 | apply Y2 | apply Y3 | show blkEq _ _ _); conv => whnf))
              all_goals first
                | exact ho
                | exact hs
                | exact hsm
                | exact hs.l.1
                | exact hn
                | omega
                | exact hflush
                | (show LessPre _ _; exact hflush)
                | (show w.th.length ≤ 1000000; exact hn)
                | exact hh
                | exact hh.1
                | exact hh.2
                | (show (w.th.length : Nat) ≤ 1000000; exact hn)
                | (show i < (w.th.length : Int); exact hh.2)
                | exact hst (by assumption)
                | exact hnz
                | exact hnz (by assumption)
                | exact True.intro
                | trace_state
            · intro h; exfalso; exact hst (by simpa using h)
        · have hmid : midF w i = setMem (dropW w i) (stOf w i).1 := if_pos hnz
          have hflush := flush_less ho (m := setMem (dropW w i) (stOf w i).1) hmid.symm
          have e2 : F = thsW (setMem (dropW w i) (stOf w i).1) ((setMem (dropW w i) (stOf w i).1).th.map (lessT i)) := by rw [← hF]; unfold flushF; rw [hmid]
          subst e2
          clear hF
          (conv => whnf)
          apply br_rec
          · intro _
            repeat' (first | exact @id (emp _ = true) | (intro h; first | exact Bool.noConfusion h | (simp only [Qn] at h) | skip) | ((conv => whnf) <;> (first | exact trivial | apply Qa | apply And.intro | (refine CutE.at (A := Wk8) (setMem (dropW w i) (stOf w i).1, i, thOf w i, insOr w (thOf w i)) ?_) | apply Qb | apply Qc | apply Qd | apply Qe | apply Qf | apply Qg | apply Qh | apply Qi | exact QA | exact QP | refine QG ?_ | apply Qj | apply Qk | apply Ql | apply Qm | apply Qo | apply Qp | apply Qw | apply Qv | apply Qu | apply Qt | apply Qs | apply Qr | apply Qq | apply Qx | apply wrapS | apply Qy | (with_reducible exact lenNil) | apply Eq.refl)) | ((with_reducible first | apply Y1 | apply Y2 | apply Y3 | show blkEq _ _ _); conv => whnf))
            all_goals first
              | exact ho
              | exact hs
              | exact hsm
              | exact hs.l.1
              | exact hn
              | omega
              | exact hflush
              | (show LessPre _ _; exact hflush)
              | (show w.th.length ≤ 1000000; exact hn)
              | exact hh
              | exact hh.1
              | exact hh.2
              | (show (w.th.length : Nat) ≤ 1000000; exact hn)
              | (show i < (w.th.length : Int); exact hh.2)
              | exact hst (by assumption)
              | exact hnz
              | exact hnz (by assumption)
              | exact True.intro
              | trace_state
          · intro h; exfalso; exact ne_of_beq_false h hnz
        · have hmid : midF w i = dropW w i := by unfold midF; rw [if_neg hnz, if_neg (fun h => h hst)]
          have hflush := flush_less ho (m := dropW w i) hmid.symm
          have e2 : F = thsW (dropW w i) ((dropW w i).th.map (lessT i)) := by rw [← hF]; unfold flushF; rw [hmid]
          subst e2
          clear hF
          (conv => whnf)
          apply br_rec
          · intro h; exact absurd (eq_of_beq h) hnz
          · intro _
            (conv => whnf)
            apply br_rec
            · intro h; exact absurd hst (by simpa using h)
            · intro _
              repeat' (first | exact @id (emp _ = true) | (intro h; first | exact Bool.noConfusion h | (simp only [Qn] at h) | skip) | ((conv => whnf) <;> (first | exact trivial | apply Qa | apply And.intro | (refine CutE.at (A := Wk8) (dropW w i, i, thOf w i, insOr w (thOf w i)) ?_) | apply Qb | apply Qc | apply Qd | apply Qe | apply Qf | apply Qg | apply Qh | apply Qi | exact QA | exact QP | refine QG ?_ | apply Qj | apply Qk | apply Ql | apply Qm | apply Qo | apply Qp | apply Qw | apply Qv | apply Qu | apply Qt | apply Qs | apply Qr | apply Qq | apply Qx | apply wrapS | apply Qy | (with_reducible exact lenNil) | apply Eq.refl)) | ((with_reducible first | apply Y1 | apply Y2 | apply Y3 | show blkEq _ _ _); conv => whnf))
              all_goals first
                | exact ho
                | exact hs
                | exact hsm
                | exact hs.l.1
                | exact hn
                | omega
                | exact hflush
                | (show LessPre _ _; exact hflush)
                | (show w.th.length ≤ 1000000; exact hn)
                | exact hh
                | exact hh.1
                | exact hh.2
                | (show (w.th.length : Nat) ≤ 1000000; exact hn)
                | (show i < (w.th.length : Int); exact hh.2)
                | exact hst (by assumption)
                | exact hnz
                | exact hnz (by assumption)
                | exact True.intro
                | trace_state
  all_goals first
    | exact ho
    | exact hs
    | exact hsm
    | exact hs.l.1
    | exact hn
    | omega
    | exact hflush
    | (show LessPre _ _; exact hflush)
    | (show w.th.length ≤ 1000000; exact hn)
    | exact hh
    | exact hh.1
    | exact hh.2
    | (show (w.th.length : Nat) ≤ 1000000; exact hn)
    | (show i < (w.th.length : Int); exact hh.2)
    | exact hst (by assumption)
    | exact hnz
    | exact hnz (by assumption)
    | exact True.intro
    | trace_state
set_option maxHeartbeats 2000000 in
set_option maxRecDepth 100000 in
theorem flush_c4 {w : Wd} {i : Int} (ho : WOk w i) (hev : w.ev.length ≤ 1000000) (hl : ¬ 0 < (w.l.getD i.toNat default).length) : bodyF Tryz.prog (tab Wf1) [9, 10] Tryz.f26 sFlushP (w, i) := by
  have hs := world_small ho.r
  have hsm := hs.l.2 i.toNat
  have hlen := world_len ho.r
  have hn := hs.n
  have hh := ho.h
  have hpe : (if (w.l.getD i.toNat default).length = 0 then (8 : Int) else 0) = 8 := if_pos (by omega)
  have hpn : ¬ (if (w.l.getD i.toNat default).length = 0 then (8 : Int) else 0) = 0 := by rw [hpe]; decide
  have e1 : sFlushP.res (w, i) = rWdE (wd0, (if (w.l.getD i.toNat default).length = 0 then (8 : Int) else 0)) := by
    show rWdE (flushR w i) = _
    unfold flushR; rw [if_pos ⟨ho.r, ho.h⟩, if_neg hl, hpe]
  show bodyK Tryz.prog _ _ _ _ sFlushP _
  unfold bodyK retE
  rw [e1]
  clear e1
  repeat' (first | exact @id (emp _ = true) | (intro h; first | exact Bool.noConfusion h | (simp only [Qn] at h) | skip) | ((conv => whnf) <;> (first | exact trivial | apply Qa | apply And.intro | exact absurd (by assumption) hpn | (apply CallP.inl; apply CallP.own0; refine CutE.at (A := Bool × Wd × Int) (true, w, i) ?_) | (refine CutE.at (A := List Put) (w.l.getD i.toNat default) ?_) | (refine CutE.at (A := List (List Put)) w.l ?_) | apply Qb | apply Qc | apply Qd | apply Qe | apply Qf | apply Qg | apply Qh | apply Qi | exact QA | exact QP | refine QG ?_ | apply Qj | apply Qk | apply Ql | apply Qm | apply Qo | apply Qp | apply Qw | apply Qv | apply Qu | apply Qt | apply Qs | apply Qr | apply Qq | apply Qx | apply wrapS | apply Qy | (with_reducible exact lenNil) | apply Eq.refl)) | ((with_reducible first | apply Y1 | apply Y2 | apply Y3 | show blkEq _ _ _); conv => whnf))
  all_goals first
    | exact ho
    | exact hs
    | exact hsm
    | exact hs.l.1
    | exact hn
    | omega
    | exact hflush
    | (show LessPre _ _; exact hflush)
    | (show w.th.length ≤ 1000000; exact hn)
    | exact hh
    | exact hh.1
    | exact hh.2
    | (show (w.th.length : Nat) ≤ 1000000; exact hn)
    | (show i < (w.th.length : Int); exact hh.2)
    | exact hst (by assumption)
    | exact hnz
    | exact hnz (by assumption)
    | exact True.intro
    | trace_state
set_option maxHeartbeats 2000000 in
set_option maxRecDepth 100000 in
theorem flushP_ok : Meets Tryz.prog 26 sFlushP := by
  refine meets_plain Wf1_ok rfl [9, 10] (fn := Tryz.f26) rfl rfl rfl (by decide) fun ⟨w, i⟩ ⟨hs, hev⟩ => ?_
  have hs : SmallW w := hs
  have hev : w.ev.length ≤ 1000000 := hev
  have hno := @atErr_no w
  by_cases hr : worldR w = true ∧ 0 ≤ i ∧ i < w.th.length
  · have ho : WOk w i := ⟨hr.1, hr.2⟩
    by_cases hl : 0 < (w.l.getD i.toNat default).length
    · exact flush_go ho hev hl
    · exact flush_c4 ho hev hl
  · have e1 : sFlushP.res (w, i) = rWdE (wd0, atErr w) := by
      show rWdE (flushR w i) = _
      unfold flushR; rw [if_neg hr]
    show bodyK Tryz.prog _ _ _ _ sFlushP _
    unfold bodyK retE
    rw [e1]
    clear e1
    repeat' (first | exact @id (emp _ = true) | (intro h; first | exact Bool.noConfusion h | (simp only [Qn] at h) | skip) | ((conv => whnf) <;> (first | exact trivial | apply Qa | apply And.intro | exact absurd (by assumption) hno | (apply CallP.inr; apply CallP.nb; refine CutE.at (A := Bool × Wd × Int) (true, w, i) ?_) | apply Qb | apply Qc | apply Qd | apply Qe | apply Qf | apply Qg | apply Qh | apply Qi | exact QA | exact QP | refine QG ?_ | apply Qj | apply Qk | apply Ql | apply Qm | apply Qo | apply Qp | apply Qw | apply Qv | apply Qu | apply Qt | apply Qs | apply Qr | apply Qq | apply Qx | apply wrapS | apply Qy | (with_reducible exact lenNil) | apply Eq.refl)) | ((with_reducible first | apply Y1 | apply Y2 | apply Y3 | show blkEq _ _ _); conv => whnf))
    all_goals first
      | exact ⟨hs, hr⟩
      | exact hs
      | exact hr (by assumption)
      | exact (hno (by assumption)).elim
      | trace_state
end Go.Eng
