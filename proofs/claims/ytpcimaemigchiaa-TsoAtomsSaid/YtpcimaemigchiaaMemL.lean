/- The statements of memory, walked. -/
import Derived.Test.YtpcimaemigchiaaMemD
import Derived.Test.YtpcimaemigchiaaMemP
set_option linter.unusedVariables false
set_option linter.unusedSimpArgs false
namespace Go.Eng
open Go Go.Proofs

def sTrue (G : Type) (args : G → List RV) : FSpec := spec G args (fun _ => True) fun _ => .b true
def sMemAlive : FSpec := sTrue Unit fun _ => []
def M4 : List (Nat × FSpec) := (35, sMark) :: (36, sRMark) :: (29, sStore) :: (28, sLoad) :: (34, sRStore) :: (32, sSame) :: (27, sMem) :: (37, sNew) :: (38, sCount) :: (41, sRCount) :: (40, sRNew) :: M3
theorem M4_ok : GOK Try.prog (tab M4) := gok_cons mark_ok (gok_cons rmark_ok (gok_cons store_ok (gok_cons load_ok (gok_cons rstore_ok (gok_cons same_ok (gok_cons mem_ok (gok_cons new_ok (gok_cons count_ok (gok_cons rcount_ok (gok_cons rnew_ok M3_ok))))))))))

set_option maxHeartbeats 8000000 in
set_option maxRecDepth 100000 in
theorem memAlive_ok : Meets Try.prog 31 sMemAlive := by
  refine meets_plain M4_ok rfl [] (fn := Try.f31) rfl rfl rfl (by decide) fun _ _ => ?_
  repeat' (first | (intro h; first | exact Bool.noConfusion h | (guard_hyp h : true = true; clear h) | (guard_hyp h : false = false; clear h) | (simp only [decide_eq_true_eq, decide_eq_false_iff_not, beq_iff_eq, beq_eq_false_iff_ne, bne_iff_ne, bne_eq_false_iff_eq, Bool.not_eq_true', Bool.not_eq_false', ne_eq, Classical.not_not, Bool.not_true, Bool.not_false, beqL_iff, beqL_ff, List.cons.injEq, and_true] at h) | skip) | ((conv => whnf) <;> (first | exact True.intro | apply br_rec | apply And.intro | apply EntP.k0 | apply EntP.k1 | apply EntP.k2 | apply EntP.k3 | apply EntP.k4 | apply EntP.k5 | apply EntP.k6 | apply DrawP.go | (apply AnyP.mk; kernel_rfl) | (refine AggP.go 2 rfl (by kernel_rfl) ?_) | (refine AggP.go 1 rfl (by kernel_rfl) ?_) | (refine AggP.go 3 rfl (by kernel_rfl) ?_) | (refine AggP.go 4 rfl (by kernel_rfl) ?_) | (refine AggP.go 5 rfl (by kernel_rfl) ?_) | (refine AggP.go 8 rfl (by kernel_rfl) ?_) | (refine AggP.go 11 rfl (by kernel_rfl) ?_) | apply CallP.own0 | apply CallP.own1 | apply CallP.own2 | apply CallP.own3 | apply CallP.nb | apply CutE.go0 | apply CutE.go7 | apply CutE.go6 | apply CutE.go5 | apply CutE.go4 | apply CutE.go3 | apply CutE.go2 | apply CutE.go1 | apply RoP.id | apply wrapS | (with_reducible exact lenNil) | apply Eq.refl)) | ((first | (with_reducible show rvEq _ _ _ _) | (with_reducible show svEq _ _ _ _) | (with_reducible show cellEq _ _ _ _) | (with_reducible show blkEq _ _ _)); conv => whnf))
def M5 : List (Nat × FSpec) := (31, sMemAlive) :: M4
theorem M5_ok : GOK Try.prog (tab M5) := gok_cons memAlive_ok M4_ok

theorem loadF_bad {ws ts : List Int} (h : memR ws ts = false) (a : Int) : loadF ws ts a = (0, 1) := by
  have : useF ws ts a = 1 := by simp [useF, h]
  simp [loadF, this]
theorem storeF_bad {ws ts : List Int} (h : memR ws ts = false) (a v : Int) : storeF ws ts a v = (([], []), 1) := by
  have : useF ws ts a = 1 := by simp [useF, h]
  simp [storeF, this]
theorem storeF_len (ws ts : List Int) (a v : Int) : (storeF ws ts a v).1.1.length ≤ ws.length ∧ (storeF ws ts a v).1.2.length ≤ ts.length := by
  unfold storeF
  split <;> simp
theorem markN_len {tag : Int} : ∀ (n : Nat) (ts : List Int) (p : Nat), (markN tag ts p n).1.length ≤ ts.length
  | 0, ts, p => by simp [markN]
  | n + 1, ts, p => by
    rw [markN]
    split
    · exact Nat.le_trans (markN_len n _ _) (by simp)
    · simp
theorem markF_len (ws ts : List Int) (a n tag : Int) : (markF ws ts a n tag).1.1.length ≤ ws.length ∧ (markF ws ts a n tag).1.2.length ≤ ts.length := by
  unfold markF
  split
  · split
    · simp
    · split
      · exact ⟨Nat.le_refl _, markN_len _ _ _⟩
      · simp
  · simp
theorem sameF_self (a b : List Int) : sameF a b a b = true := by simp [sameF]
def sL4 : FSpec := sTrue (List Int × List Int × Int × Int) fun (ws, ts, a, v) => [.c (intsS ws), .c (intsS ts), .i a, .i v]
def sL5 : FSpec := sTrue (List Int × List Int × Int × Int × Int) fun (ws, ts, a, v, k) => [.c (intsS ws), .c (intsS ts), .i a, .i v, .i k]
def sL3 : FSpec := sTrue (Int × List Int × List Int) fun (n, ws, ts) => [.i n, .c (intsS ws), .c (intsS ts)]

end Go.Eng
