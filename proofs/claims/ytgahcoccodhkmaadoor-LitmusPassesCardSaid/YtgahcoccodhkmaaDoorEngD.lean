/- A part of the walks, and of the machine that proves them (EngD). -/
import Derived.Test.YtgahcoccodhkmaaDoorEngB
import Derived.RangeFuncRecord
import Derived.TacticsIn
import Derived.OrdersIn
import Derived.Orders
set_option linter.unusedVariables false
set_option linter.unusedSimpArgs false
namespace Go.Eng
open Go
section
variable {P : Program} {o : Oper} {regs : List RV} {bs : List (Nat × Blk)} {nx : Nat}
theorem bool_case {vc : RV} {A : Bool → Prop} (h : match vc with | .s (.c (.v (.bool t))) => A t | _ => False) : ∃ t, vc = .s (.c (.v (.bool t))) ∧ A t := by
  split at h
  · exact ⟨_, rfl, h⟩
  · exact h.elim
theorem i64_case {s : Sv} {A : Int → Prop} (h : match s with | .c (.v (.int .i64 x)) => A x | _ => False) : ∃ x, s = .c (.v (.int .i64 x)) ∧ A x := by
  split at h
  · exact ⟨_, rfl, h⟩
  · exact h.elim
theorem int2_case {vx vy : RV} {A : IntKind → Int → IntKind → Int → Prop} {B : Bool → Bool → Prop}
    (h : match vx, vy with | .s (.c (.v (.int q a))), .s (.c (.v (.int q' b))) => A q a q' b | .s (.c (.v (.bool a))), .s (.c (.v (.bool b))) => B a b | _, _ => False) :
    (∃ q a q' b, vx = .s (.c (.v (.int q a))) ∧ vy = .s (.c (.v (.int q' b))) ∧ A q a q' b) ∨ ∃ a b, vx = .s (.c (.v (.bool a))) ∧ vy = .s (.c (.v (.bool b))) ∧ B a b := by
  split at h
  · exact .inl ⟨_, _, _, _, rfl, rfl, h⟩
  · exact .inr ⟨_, _, rfl, rfl, h⟩
  · exact h.elim
theorem run_equal_bool {t : TypeId} (ht : P.underlying t = some .bool) (a b : Bool) (w : World) : (Op.equal t (.bool a) (.bool b)).run P w = .ok (a == b) w := by
  have h : ∀ d, (Op.equalIn (d + 1) t (.bool a) (.bool b)).run P w = .ok (a == b) w := by
    intro d
    unfold Op.equalIn
    simp [run_underlying ht]
  exact h 9999
theorem good_eqB {op : BinOp} {x y : Operand} {t t' : TypeId} {a b : Bool} {k : RV → Prop} (ho : o.op = .binOp op t x y t') (h1 : Opd regs x (.s (.c (.v (.bool a))))) (h2 : Opd regs y (.s (.c (.v (.bool b)))))
    (h : eqBK P op t (.s (.c (.v (.bool a)))) (.s (.c (.v (.bool b)))) k) : ∃ v, k v ∧ Good P o regs bs nx v [] [] [] nx := by
  unfold eqBK at h
  simp only at h
  split at h
  · rename_i ht
    refine ⟨_, h, good_pure (sub_nil _) fun F hs ρ w hr hw => ⟨.bool (a == b), ?_, rfl, rfl⟩⟩
    have e1 := rel_v (hr x (by simp [ho, Op.operands]) _ h1)
    have e2 := rel_v (hr y (by simp [ho, Op.operands]) _ h2)
    simp [execOp, ho, e1, e2, eqGuard, binOp, run_equal_bool ht]
  · rename_i ht
    refine ⟨_, h, good_pure (sub_nil _) fun F hs ρ w hr hw => ⟨.bool (a != b), ?_, rfl, rfl⟩⟩
    have e1 := rel_v (hr x (by simp [ho, Op.operands]) _ h1)
    have e2 := rel_v (hr y (by simp [ho, Op.operands]) _ h2)
    simp [execOp, ho, e1, e2, eqGuard, binOp, run_equal_bool ht, bne]
  · exact h.elim
theorem pix_case {s : Sv} {A : Int → Prop} {B : Cell → Prop} (h : match s with | .c (.v (.int .i64 x)) => A x | .c (.ro a b c d) => B (.ro a b c d) | .c (.osl a) => B (.osl a) | _ => False) : (∃ x, s = .c (.v (.int .i64 x)) ∧ A x) ∨ ∃ c, s = .c c ∧ B c := by
  split at h
  · exact .inl ⟨_, rfl, h⟩
  · exact .inr ⟨_, rfl, h⟩
  · exact .inr ⟨_, rfl, h⟩
  · exact h.elim
theorem good_store_pix {a x : Operand} {t : TypeId} {j base len : Nat} {i' : Int} {s : Sv} {i : TypeInfo} {k : List (Nat × Blk) → List (Nat × Blk) → Prop} (ho : o.op = .store t a x) (ha : Opd regs a (.s (.c (.pix j base len i')))) (hx : Opd regs x (.s s))
    (hi : P.info? t = some i) (hn : i.size = s.cells.length)
    (h : match (generalizing := false) s with
      | .c (.v (.int .i64 x)) => lookK bs j fun b => match b with
        | .row ty l => intsK l base len fun xs => setIntsK i' x xs 0 fun cs => ovrK l base cs fun r => k [(j, .row ty l)] [(j, .row ty r)]
        | _ => False
      | .c (.ro a b c d) => pixK bs j base len i' (.ro a b c d) k
      | .c (.osl a) => pixK bs j base len i' (.osl a) k
      | _ => False) : ∃ pre pb, k pre pb ∧ Good P o regs bs nx .un [] pre pb nx := by
  have h0 := pix_case (A := fun x => lookK bs j fun b => match b with
        | .row ty l => intsK l base len fun xs => setIntsK i' x xs 0 fun cs => ovrK l base cs fun r => k [(j, .row ty l)] [(j, .row ty r)]
        | _ => False) (B := fun c => pixK bs j base len i' c k) h
  clear h
  rcases h0 with ⟨x', rfl, h⟩ | ⟨c, rfl, h⟩
  rotate_left 1
  · unfold pixK at h
    obtain ⟨b, hb, h⟩ := lookK_spec _ _ _ h
    split at h
    case h_2 => exact h.elim
    rename_i ty l
    obtain ⟨m, rfl, h2⟩ := litI_spec h
    clear h
    split at h2
    case h_2 => exact h2.elim
    obtain ⟨r, h8, h9, h10, h11⟩ := ovrK_spec _ _ _ _ (litK_spec _ _ _ _ h2)
    refine ⟨_, _, h8, good_store_row (off := base + m) ho ha hx hi hn hb (fun O w hs u hu => ?_) h9 h10 h11⟩
    obtain ⟨b, h12, _, _, h13⟩ := hu
    exact ⟨b, h12, h13⟩
  obtain ⟨b, hb, h⟩ := lookK_spec _ _ _ h
  split at h
  · rename_i ty l
    obtain ⟨xs, h1, h2, h3, h4⟩ := intsK_spec _ _ _ _ h
    obtain ⟨cs, h5, h6, h7⟩ := setIntsK_spec _ _ _ _ _ h1
    obtain ⟨r, h8, h9, h10, h11⟩ := ovrK_spec _ _ _ _ h5
    by_cases hin : 0 ≤ i' ∧ i' < len
    · refine ⟨_, _, h8, good_store_row (off := base + i'.toNat) ho ha hx hi hn hb (fun O w hs u hu => ?_) h9 ?_ fun m => ?_⟩
      · obtain ⟨b, h12, _, _, h13⟩ := hu
        exact ⟨b, h12, h13⟩
      · simp [Sv.cells]; omega
      · rw [h11 m]
        change _ = if base + i'.toNat ≤ m ∧ m < base + i'.toNat + 1 then [Cell.v (Value.int IntKind.i64 x')][m - (base + i'.toNat)]? else l[m]?
        rw [h6, h2]
        by_cases hm : base ≤ m ∧ m < base + len
        · rw [if_pos hm, h7 (m - base) (by rw [h2]; omega)]
          split
          · rename_i he
            have e1 : m - (base + i'.toNat) = 0 := by omega
            rw [e1, if_pos (by omega)]
            rfl
          · rename_i he
            rw [if_neg (by omega)]
            have := h4 (m - base) (by omega)
            rw [show base + (m - base) = m by omega] at this
            exact this.symm
        · rw [if_neg hm, if_neg (by omega)]
    · -- the address lies in the array: this does not come up
      refine ⟨_, _, h8, ⟨?_, ?_, ?_, Nat.le_refl _, fun F hs ρ w hr hw hf => ?_⟩⟩
      · simpa using sub_one hb
      · intro i c h; simp [look] at h ⊢; exact h.1
      · intro i c h
        simp [look] at h
        exact .inl ⟨.row ty l, by simp [look, h.1]⟩
      · obtain ⟨b, _, h12, h13, _⟩ := hr a (by simp [ho, Op.operands]) _ ha
        exact (hin ⟨h12, h13⟩).elim
  · exact h.elim
theorem good_store {a x : Operand} {t : TypeId} {va : RV} {s : Sv} {k : List (Nat × Blk) → List (Nat × Blk) → Prop} (ho : o.op = .store t a x) (ha : Opd regs a va) (hx : Opd regs x (.s s)) (h : storeK P bs t va s k) :
    ∃ pre pb, k pre pb ∧ Good P o regs bs nx .un [] pre pb nx := by
  unfold storeK at h
  obtain ⟨i, hi, h⟩ := sizeK_spec h
  split at h
  case h_2 => exact h.elim
  rename_i hn
  have hn := Nat.eq_of_beq_eq_true hn
  split at h
  · rename_i j off
    obtain ⟨b, hb, h⟩ := lookK_spec _ _ _ h
    split at h
    · rename_i ty l
      obtain ⟨r, h1, h2, h3, h4⟩ := ovrK_spec _ _ _ _ h
      exact ⟨_, _, h1, good_store_row ho ha hx hi hn hb (fun O w hs u hu => rel_ptr hu) h2 h3 h4⟩
    · exact h.elim
  · rename_i j q p t0
    obtain ⟨b, hb, h⟩ := lookK_spec _ _ _ h
    split at h
    · rename_i ty q' m g
      split at h
      · rename_i hq hle
        have hle := Nat.le_of_ble_eq_true hle
        have hq := Nat.eq_of_beq_eq_true hq
        subst hq
        obtain ⟨hcl, hp, h⟩ := closedK_spec _ _ h
        exact ⟨_, _, h, good_store_slc ho ha hx hi hn hcl hb hp hle⟩
      · exact h.elim
    · exact h.elim
  · exact good_store_pix ho ha hx hi hn h
  · exact h.elim
theorem good_bin {op : BinOp} {x y : Operand} {t t' : TypeId} {vx vy : RV} {k : Kont} (ho : o.op = .binOp op t x y t') (h1 : Opd regs x vx) (h2 : Opd regs y vy)
    (h : binK P op t vx vy fun v => k v [] [] [] nx) : ∃ rv rd pre pb nx', k rv rd pre pb nx' ∧ Good P o regs bs nx rv rd pre pb nx' := by
  unfold binK at h
  rcases int2_case (B := fun a b => eqBK P op t (.s (.c (.v (.bool a)))) (.s (.c (.v (.bool b)))) fun v => k v [] [] [] nx) (A := fun q a q' b => match (generalizing := false) decide (q = q') with
    | true => match (generalizing := false) op with
      | .shl => False
      | .shr => False
      | op => intOp op q a b fun v => k (.s (.c (.v v))) [] [] [] nx
    | false => False) h with ⟨q, a, q', b, rfl, rfl, hh⟩ | ⟨a, b, rfl, rfl, hh⟩
  case inr =>
    obtain ⟨v, h3, h4⟩ := good_eqB (bs := bs) (nx := nx) ho h1 h2 hh
    exact ⟨_, _, _, _, _, h3, h4⟩
  clear h
  have h := hh
  clear hh
  cases hd : decide (q = q') with
  | true =>
    rw [hd] at h
    have hq := of_decide_eq_true hd
    subst hq
    have key : intOp op q a b (fun v => k (.s (.c (.v v))) [] [] [] nx) → ∃ rv rd pre pb nx', k rv rd pre pb nx' ∧ Good P o regs bs nx rv rd pre pb nx' := by
      intro h
      obtain ⟨v, h3, h4⟩ := good_binInt (bs := bs) (nx := nx) ho h1 h2 h
      exact ⟨_, _, _, _, _, h3, h4⟩
    cases op <;> first | exact key h | exact h.elim
  | false =>
    rw [hd] at h
    exact h.elim
theorem lo_spec {lo : Option Operand} {K : Int → Prop} (h : stepK.sliceLo regs lo K) : ∃ a, K a ∧ ((lo = none ∧ a = 0) ∨ ∃ y q, lo = some y ∧ Opd regs y (.s (.c (.v (.int q a))))) := by
  unfold stepK.sliceLo at h
  split at h
  · exact ⟨_, h, .inl ⟨rfl, rfl⟩⟩
  · obtain ⟨v, h1, h⟩ := opK_spec _ _ _ h
    split at h
    · exact ⟨_, h, .inr ⟨_, _, rfl, h1⟩⟩
    · exact h.elim
theorem hi_spec {hi : Option Operand} {n : Nat} {K : Int → Prop} (h : stepK.sliceHi regs hi n K) : ∃ a, K a ∧ ((hi = none ∧ a = n) ∨ ∃ y q, hi = some y ∧ Opd regs y (.s (.c (.v (.int q a))))) := by
  unfold stepK.sliceHi at h
  split at h
  · exact ⟨_, h, .inl ⟨rfl, rfl⟩⟩
  · obtain ⟨v, h1, h⟩ := opK_spec _ _ _ h
    split at h
    · exact ⟨_, h, .inr ⟨_, _, rfl, h1⟩⟩
    · exact h.elim
theorem good_slice {t : TypeId} {x : Operand} {lo hi : Option Operand} {k : Kont} (ho : o.op = .slice t x lo hi none)
    (h : match P.underlying t with
    | some (.slice e) => opK regs x fun vx => sizeK P e fun m => readsK bs vx fun n q g rd => match Nat.beq m q with
      | true => stepK.sliceLo regs lo fun a => stepK.sliceHi regs hi n fun b =>
        Need (0 ≤ a ∧ a ≤ b ∧ b ≤ n) (stepK.fzK rd fun pb => k (.s (.c (.ro (b - a).toNat q (stepK.tightOf vx hi) fun i t => g (a.toNat + i) t))) [] rd pb nx)
      | false => False
    | some (.array len e) => opK regs x fun vx => sizeK P e fun m => slArrK regs vx len m lo hi fun v => k v [] [] [] nx
    | some .string => strSlK regs x lo hi fun v => k v [] [] [] nx
    | _ => False) : ∃ rv rd pre pb nx', k rv rd pre pb nx' ∧ Good P o regs bs nx rv rd pre pb nx' := by
  split at h
  case h_4 => exact h.elim
  case h_3 =>
    rename_i ht
    unfold strSlK at h
    cases lo with
    | none => exact h.elim
    | some l => cases hi with
      | none => exact h.elim
      | some hh =>
        simp only [strCutK] at h
        obtain ⟨vx, h1, h⟩ := opK_spec _ _ _ h
        obtain ⟨vl, h2, h⟩ := opK_spec _ _ _ h
        obtain ⟨vh, h3, h⟩ := opK_spec _ _ _ h
        split at h
        · obtain ⟨⟨h4, h5, h6⟩, h⟩ := h
          exact ⟨_, _, _, _, _, h, good_strCut ho ht h1 h2 h3 h4 h5 h6⟩
        · exact h.elim
  case h_2 =>
    rename_i len e ht
    obtain ⟨vx, h1, h⟩ := opK_spec _ _ _ h
    obtain ⟨inf, hi', h⟩ := sizeK_spec h
    unfold slArrK at h
    split at h
    · split at h
      · obtain ⟨vz, h2, h⟩ := opK_spec _ _ _ h
        split at h
        · obtain ⟨b', hb', hk⟩ := litI_spec h
          subst hb'
          split at hk
          · rename_i hlt1 hlt2
            have hlt1 := Nat.le_of_ble_eq_true hlt1
            have hlt2 := Nat.le_of_ble_eq_true hlt2
            exact ⟨_, _, _, _, _, hk, good_slArrHi ho ht h1 hi' h2 hlt1 hlt2⟩
          · exact hk.elim
        · exact h.elim
      · exact h.elim
    · split at h
      · split at h
        · rename_i hlt
          have hlt := Nat.le_of_ble_eq_true hlt
          have hg := good_slArr (bs := bs) (nx := nx) (a := 0) ho ht h1 hi' (.inl ⟨rfl, rfl⟩) (by omega)
          rw [Nat.zero_mul, Nat.add_zero, Nat.sub_zero] at hg
          exact ⟨_, _, _, _, _, h, hg⟩
        · exact h.elim
      · obtain ⟨vy, h2, h⟩ := opK_spec _ _ _ h
        split at h
        · unfold litI at h
          split at h
          · have h := litK_spec _ _ _ _ h
            split at h
            · rename_i hlt
              have hlt := Nat.le_of_ble_eq_true hlt
              have h := litK_spec _ _ _ _ h
              have h := litK_spec _ _ _ _ h
              exact ⟨_, _, _, _, _, h, good_slArr ho ht h1 hi' (.inr ⟨_, _, rfl, h2⟩) (by omega)⟩
            · exact h.elim
          · exact h.elim
        · exact h.elim
    · exact h.elim
  rename_i e ht
  obtain ⟨vx, h1, h⟩ := opK_spec _ _ _ h
  obtain ⟨inf, hi', h⟩ := sizeK_spec h
  obtain ⟨n, q, g, rd, h, hsub, hrd, hread⟩ := readsK_spec h
  split at h
  case h_2 => exact h.elim
  rename_i hq
  have hq := Nat.eq_of_beq_eq_true hq
  obtain ⟨a, h, hlo⟩ := lo_spec h
  obtain ⟨b, h, hhi⟩ := hi_spec h
  obtain ⟨⟨h2, h3, h4⟩, h⟩ := h
  have hfin : k (.s (.c (.ro (b - a).toNat q (stepK.tightOf vx hi) fun i t => g (a.toNat + i) t))) [] rd (fzL rd) nx := by
    unfold stepK.fzK at h
    rcases hrd with ⟨rfl, _⟩ | ⟨j, ty, rfl, _⟩ | ⟨j, rfl, _⟩ <;> exact h
  refine ⟨_, _, _, _, _, hfin, good_cut ho ht h1 hi' hq ?_ hlo hhi (.inl rfl) h2 h3 h4⟩
  rcases hrd with ⟨rfl, t', rfl⟩ | ⟨j, ty, rfl, rfl, hj⟩ | ⟨j, rfl, rfl, hj⟩
  · refine .inl ⟨rfl, t', rfl, fun htt => .inr ?_⟩
    unfold stepK.tightOf at htt
    rcases hhi with ⟨rfl, rfl⟩ | ⟨y, q', rfl, _⟩
    · exact ⟨htt, rfl⟩
    · cases htt
  · exact .inr (.inl ⟨j, ty, rfl, rfl, hj, fun htt => by unfold stepK.tightOf at htt; cases htt⟩)
  · exact .inr (.inr ⟨j, rfl, rfl, hj, fun htt => by unfold stepK.tightOf at htt; cases htt⟩)
theorem good_slice3 {t : TypeId} {x hi mx : Operand} {lo : Option Operand} {k : Kont} (ho : o.op = .slice t x lo (some hi) (some mx))
    (h : match P.underlying t with
    | some (.slice e) => opK regs x fun vx => sizeK P e fun m => readsK bs vx fun n q g rd => match Nat.beq m q with
      | true => stepK.sliceLo regs lo fun a => stepK.sliceHi regs (some hi) n fun b => stepK.sliceHi regs (some mx) n fun c =>
        Need (0 ≤ a ∧ a ≤ b ∧ b ≤ n ∧ c = b) (stepK.fzK rd fun pb => k (.s (.c (.ro (b - a).toNat q true fun i t => g (a.toNat + i) t))) [] rd pb nx)
      | false => False
    | _ => False) : ∃ rv rd pre pb nx', k rv rd pre pb nx' ∧ Good P o regs bs nx rv rd pre pb nx' := by
  split at h
  case h_2 => exact h.elim
  rename_i e ht
  obtain ⟨vx, h1, h⟩ := opK_spec _ _ _ h
  obtain ⟨inf, hi', h⟩ := sizeK_spec h
  obtain ⟨n, q, g, rd, h, hsub, hrd, hread⟩ := readsK_spec h
  split at h
  case h_2 => exact h.elim
  rename_i hq
  have hq := Nat.eq_of_beq_eq_true hq
  obtain ⟨a, h, hlo⟩ := lo_spec h
  obtain ⟨b, h, hhi⟩ := hi_spec h
  obtain ⟨c, h, hmx⟩ := hi_spec h
  obtain ⟨⟨h2, h3, h4, rfl⟩, h⟩ := h
  have hfin : k (.s (.c (.ro (c - a).toNat q true fun i t => g (a.toNat + i) t))) [] rd (fzL rd) nx := by
    unfold stepK.fzK at h
    rcases hrd with ⟨rfl, _⟩ | ⟨j, ty, rfl, _⟩ | ⟨j, rfl, _⟩ <;> exact h
  have hmx2 : ∃ y q z q', some mx = some y ∧ Opd regs y (.s (.c (.v (.int q c)))) ∧ some hi = some z ∧ Opd regs z (.s (.c (.v (.int q' c)))) := by
    rcases hhi with ⟨e1, _⟩ | ⟨y, q1, e1, h5⟩
    · cases e1
    · rcases hmx with ⟨e2, _⟩ | ⟨z, q2, e2, h6⟩
      · cases e2
      · exact ⟨z, q2, y, q1, e2, h6, e1, h5⟩
  refine ⟨_, _, _, _, _, hfin, good_cut ho ht h1 hi' hq ?_ hlo hhi (.inr hmx2) h2 h3 h4⟩
  rcases hrd with ⟨rfl, t', rfl⟩ | ⟨j, ty, rfl, rfl, hj⟩ | ⟨j, rfl, rfl, hj⟩
  · exact .inl ⟨rfl, t', rfl, fun _ => .inl ⟨_, rfl⟩⟩
  · exact .inr (.inl ⟨j, ty, rfl, rfl, hj, fun _ => ⟨_, rfl⟩⟩)
  · exact .inr (.inr ⟨j, rfl, rfl, hj, fun _ => ⟨_, rfl⟩⟩)
theorem good_append {c : Call} {vs : List RV} {k : Kont} (hlt : ∀ j b, look bs j = some b → j < nx) (ho : o.op = .call c) (hc : c.callee = .builtin .append) (hl : vs.length = c.args.toList.length)
    (hv : ∀ (i : Nat) y u, c.args.toList[i]? = some y → vs[i]? = some u → Opd regs y u)
    (h : match (generalizing := false) vs, c.argTypes.toList with
      | [v, x], [t, t'] => match Nat.beq t t', P.underlying t with
        | true, some (.slice e) => match P.info? e with
          | some i => zeroK P e fun z => readsK bs x fun m q g2 rd => match Nat.beq i.size z.length, Nat.ble 1 i.size, Nat.beq q i.size with
            | true, true, true => match v with
              | .s (.c (.v (.slice none 0 0))) =>
                Need (m ≤ 9223372036854775807 ∧ m * i.bytes ≤ 140737488355328) (litK 400 0 (nx + 1) fun nx' => k (.s (.c (.osl nx))) rd [] [(nx, .slc e q m g2)] nx')
              | .s (.c (.osl j)) => lookK bs j fun b => match b with
                | .slc ty q' n g => match Nat.beq q q', Nat.beq ty e with
                  | true, true => Need (n + m ≤ 9223372036854775807 ∧ (n + m) * i.bytes ≤ 140737488355328)
                    (litK 400 0 (nx + 1) fun nx' => k (.s (.c (.osl nx))) rd [(j, .slc ty q' n g)] [(j, .gone), (nx, .slc e q (n + m) (catG n g g2))] nx')
                  | _, _ => False
                | _ => False
              | .s (.c (.ro n q' true g)) => match Nat.beq q q' with
                | true => Need (0 < m ∧ n + m ≤ 9223372036854775807 ∧ (n + m) * i.bytes ≤ 140737488355328)
                  (litK 400 0 (nx + 1) fun nx' => k (.s (.c (.osl nx))) rd [] [(nx, .slc e q (n + m) (catG n g g2))] nx')
                | false => False
              | _ => False
            | _, _, _ => False
          | none => False
        | false, some (.slice e) => appStrK P bs nx e t' v x k
        | _, _ => False
      | _, _ => False) : ∃ rv rd pre pb nx', k rv rd pre pb nx' ∧ Good P o regs bs nx rv rd pre pb nx' := by
  split at h
  case h_2 => exact h.elim
  rename_i v x t t' hty
  split at h
  case h_3 => exact h.elim
  case h_2 =>
    rename_i e _ hu
    exact good_appstr hlt ho hc hl hv hty hu h
  rename_i e htt hu
  have htt := Nat.eq_of_beq_eq_true htt
  subst htt
  split at h
  case h_2 => exact h.elim
  rename_i i hi
  obtain ⟨i', z, hi', hz, h, hz1⟩ := zeroK_spec h
  rw [hi] at hi'; cases hi'
  obtain ⟨m, q, g2, rd, h, hsub, hrd, hread⟩ := readsK_spec h
  split at h
  case h_2 => exact h.elim
  rename_i hs hp hq
  have hs := Nat.eq_of_beq_eq_true hs
  have hp := Nat.le_of_ble_eq_true hp
  have hq := Nat.eq_of_beq_eq_true hq
  subst hq
  have hzs : z.cells.size = i.size := by simpa using hs.symm
  split at h
  · obtain ⟨⟨h1, h2⟩, h⟩ := h
    exact ⟨_, _, _, _, _, litK_spec _ _ _ _ h, good_append_nil ho hc hl hv hty hu hi hz hzs hp hsub hread (by simpa [maxLen] using h1) h2⟩
  · rename_i j
    obtain ⟨b, hb, h⟩ := lookK_spec _ _ _ h
    split at h
    · rename_i ty q' n g
      split at h
      · rename_i hq' hty'
        have hq' := Nat.eq_of_beq_eq_true hq'
        have hty' := Nat.eq_of_beq_eq_true hty'
        subst hq' hty'
        obtain ⟨⟨h1, h2⟩, h⟩ := h
        exact ⟨_, _, _, _, _, litK_spec _ _ _ _ h, good_append_own ho hc hl hv hty hu hi hz hzs hp hsub hb (hlt _ _ hb) hread (by simpa [maxLen] using h1) h2⟩
      · exact h.elim
    · exact h.elim
  · rename_i n q' g
    split at h
    · rename_i hq'
      have hq' := Nat.eq_of_beq_eq_true hq'
      subst hq'
      obtain ⟨⟨h0, h1, h2⟩, h⟩ := h
      exact ⟨_, _, _, _, _, litK_spec _ _ _ _ h, good_append_tight ho hc hl hv hty hu hi hz hzs hp hsub h0 hread (by simpa [maxLen] using h1) h2⟩
    · exact h.elim
  · exact h.elim
theorem stepK_sound {Γ : FuncId → Option FSpec} (hΓ : GOK P Γ) {k : Kont} (hlt : ∀ j b, look bs j = some b → j < nx) (h : stepK P Γ o regs bs nx k) :
    ∃ rv rd pre pb nx', k rv rd pre pb nx' ∧ Good P o regs bs nx rv rd pre pb nx' := by
  unfold stepK at h
  split at h
  · rename_i x ho
    obtain ⟨v, h1, h2⟩ := opK_spec _ _ _ h
    exact ⟨_, _, _, _, _, h2, good_move (.inl ho) h1⟩
  · rename_i x ho
    obtain ⟨v, h1, h2⟩ := opK_spec _ _ _ h
    exact ⟨_, _, _, _, _, h2, good_move (.inr ho) h1⟩
  · rename_i c a b ho
    obtain ⟨vc, h1, h⟩ := opK_spec _ _ _ h
    obtain ⟨va, h2, h⟩ := opK_spec _ _ _ h
    obtain ⟨vb, h3, h⟩ := opK_spec _ _ _ h
    obtain ⟨t, rfl, h⟩ := bool_case (A := fun t => Br t (k va [] [] [] nx) (k vb [] [] [] nx)) h
    cases t with
    | true => exact ⟨_, _, _, _, _, h, good_pick ho h1 h2 h3 rfl⟩
    | false => exact ⟨_, _, _, _, _, h, good_pick ho h1 h2 h3 rfl⟩
  · rename_i e ho
    obtain ⟨i, z, hi, hz, h, h1⟩ := zeroK_spec h
    exact ⟨_, _, _, _, _, litK_spec _ _ _ _ h, good_alloc ho hi hz h1⟩
  · rename_i e x ho
    obtain ⟨v, h1, h⟩ := opK_spec _ _ _ h
    split at h
    · exact ⟨_, _, _, _, _, litK_spec _ _ _ _ h, good_box ho h1⟩
    · exact h.elim
  · rename_i t parts ho
    obtain ⟨l, h1, h2⟩ := good_build (bs := bs) (nx := nx) ho h
    exact ⟨_, _, _, _, _, h1, h2⟩
  · rename_i t len parts ho
    exact good_bsF hlt ho h
  · rename_i t a ho
    obtain ⟨va, h1, h⟩ := opK_spec _ _ _ h
    obtain ⟨v, rd, h2, h3⟩ := good_load (nx := nx) ho h1 h
    exact ⟨_, _, _, _, _, h2, h3⟩
  · rename_i t a x ho
    obtain ⟨va, h1, h⟩ := opK_spec _ _ _ h
    obtain ⟨vx, h2, h⟩ := opK_spec _ _ _ h
    split at h
    · obtain ⟨pre, pb, h3, h4⟩ := good_store (nx := nx) ho h1 h2 h
      exact ⟨_, _, _, _, _, h3, h4⟩
    · exact h.elim
  · rename_i x ho
    obtain ⟨vx, h1, h⟩ := opK_spec _ _ _ h
    split at h
    · exact ⟨_, _, _, _, _, h, good_nilCheck ho h1 fun O w hs u hu => by obtain ⟨b, _, rfl⟩ := hu; exact .inl ⟨_, rfl⟩⟩
    · exact ⟨_, _, _, _, _, h, good_nilCheck ho h1 fun O w hs u hu => by obtain ⟨b, off, rfl, _⟩ := hu; exact .inl ⟨_, rfl⟩⟩
    · exact ⟨_, _, _, _, _, h, good_nilCheck ho h1 fun O w hs u hu => by obtain ⟨b, n, c, _, _, rfl⟩ := hu; exact .inl ⟨_, rfl⟩⟩
    · exact ⟨_, _, _, _, _, h, good_nilCheck ho h1 fun O w hs u hu => by obtain ⟨b, _, _, _, rfl⟩ := hu; exact .inl ⟨_, rfl⟩⟩
    · exact ⟨_, _, _, _, _, h, good_nilCheck ho h1 fun O w hs u hu => by obtain ⟨b, _, _, _, rfl⟩ := hu; exact .inl ⟨_, rfl⟩⟩
    · exact ⟨_, _, _, _, _, h, good_nilCheck ho h1 fun O w hs u hu => by obtain ⟨b, rfl, _⟩ := hu; exact .inr ⟨_, _, rfl⟩⟩
    · exact h.elim
  · rename_i op t x y t' ho
    obtain ⟨vx, h1, h⟩ := opK_spec _ _ _ h
    obtain ⟨vy, h2, h⟩ := opK_spec _ _ _ h
    exact good_cmp ho h1 h2 h fun h => good_bin ho h1 h2 h
  · rename_i t x ix ho
    obtain ⟨vx, h1, h⟩ := opK_spec _ _ _ h
    obtain ⟨vi, h2, h⟩ := opK_spec _ _ _ h
    exact good_idx ho h1 h2 h
  · rename_i op t x ho
    obtain ⟨vx, h1, h⟩ := opK_spec _ _ _ h
    split at h
    · exact ⟨_, _, _, _, _, h, good_unOp_not ho h1⟩
    · exact ⟨_, _, _, _, _, h, good_unOp_neg ho h1⟩
    · exact h.elim
  · rename_i src dst x ho
    obtain ⟨vx, h1, h⟩ := opK_spec _ _ _ h
    split at h
    · rename_i hs hd
      exact ⟨_, _, _, _, _, h, good_convert ho hd (by rw [hs]; rfl) h1⟩
    · rename_i hs hd
      split at h
      · rename_i he
        obtain ⟨n, q, g, rd, h, hsub, _, hread⟩ := readsK_spec h
        split at h
        · rename_i hq
          have hq := Nat.eq_of_beq_eq_true hq
          subst hq
          obtain ⟨s, hn, hg, h⟩ := h.ex
          exact ⟨_, _, _, _, _, h, good_bytesStr ho hs he hd h1 hsub hread hn hg⟩
        · exact h.elim
      · exact h.elim
    · exact h.elim
  · rename_i d x ho
    obtain ⟨vx, h1, h⟩ := opK_spec _ _ _ h
    split at h
    · rename_i hd
      split at h
      · rename_i hle
        exact ⟨_, _, _, _, _, h, good_arrPtr ho hd (Nat.le_of_ble_eq_true hle) h1⟩
      · exact h.elim
    · exact h.elim
  · rename_i f first captured ho
    split at h
    · rename_i h0
      obtain ⟨vs, h1, h2, h3⟩ := opsK_spec _ _ _ h
      have key : ∀ (vs : List RV) (K : List Cap → Prop), capsK vs K → ∃ cs, K cs ∧ vs = cs.map Cap.rv := by
        intro vs
        induction vs with
        | nil => intro K h; exact ⟨[], h, rfl⟩
        | cons v l ih =>
          intro K h
          unfold capsK at h
          split at h
          · rename_i heq; cases heq
          · rename_i j oo l' heq
            obtain ⟨rfl, rfl⟩ := List.cons.inj heq
            obtain ⟨cs, h4, h5⟩ := ih _ h
            exact ⟨_, h4, by rw [h5]; rfl⟩
          · rename_i xx l' heq
            obtain ⟨rfl, rfl⟩ := List.cons.inj heq
            obtain ⟨cs, h4, h5⟩ := ih _ h
            exact ⟨_, h4, by rw [h5]; rfl⟩
          · exact h.elim
      obtain ⟨cs, h4, h5⟩ := key _ _ h1
      exact ⟨_, _, _, _, _, h4, good_makeFunc ho h0 (by rw [h2]; simp) (fun i x v hx hv => h3 i x v (by simpa using hx) hv) h5⟩
    · split at h
      · rename_i h00 h0
        obtain ⟨vs, h1, h2, h3⟩ := opsK_spec _ _ _ h
        have key : ∀ (vs : List RV) (K : List Cap → Prop), capsK vs K → ∃ cs, K cs ∧ vs = cs.map Cap.rv := by
          intro vs
          induction vs with
          | nil => intro K h; exact ⟨[], h, rfl⟩
          | cons v l ih =>
            intro K h
            unfold capsK at h
            split at h
            · rename_i heq; cases heq
            · rename_i j oo l' heq
              obtain ⟨rfl, rfl⟩ := List.cons.inj heq
              obtain ⟨cs, h4, h5⟩ := ih _ h
              exact ⟨_, h4, by rw [h5]; rfl⟩
            · rename_i xx l' heq
              obtain ⟨rfl, rfl⟩ := List.cons.inj heq
              obtain ⟨cs, h4, h5⟩ := ih _ h
              exact ⟨_, h4, by rw [h5]; rfl⟩
            · exact h.elim
        obtain ⟨cs, h4, h5⟩ := key _ _ h1
        exact ⟨_, _, _, _, _, h4, good_makeFuncB ho h0 (by rw [h2]; simp) (fun i x v hx hv => h3 i x v (by simpa using hx) hv) h5⟩
      · exact h.elim
  · rename_i t ho
    split at h
    · rename_i kt et ht
      split at h
      · exact ⟨_, _, _, _, _, litK_spec _ _ _ _ h, good_makeMapP ho ht⟩
      · exact ⟨_, _, _, _, _, litK_spec _ _ _ _ h, good_makeMapS ho ht⟩
      · exact ⟨_, _, _, _, _, litK_spec _ _ _ _ h, good_makeMap ho ht⟩
    · exact h.elim
  · rename_i t l c ho
    obtain ⟨vl, h1, h⟩ := opK_spec _ _ _ h
    obtain ⟨vc, h2, h⟩ := opK_spec _ _ _ h
    split at h
    · rename_i e a b ht _
      split at h
      · rename_i i hi
        obtain ⟨i', z, hi', hz, h, hz1⟩ := zeroK_spec h
        rw [hi] at hi'; cases hi'
        split at h
        · rename_i hs hp
          have hs := Nat.eq_of_beq_eq_true hs
          have hp := Nat.le_of_ble_eq_true hp
          obtain ⟨⟨h3, rfl, h4, h5⟩, hh⟩ := h
          obtain ⟨l', hh, hweak⟩ := weakK_spec hh
          exact ⟨_, _, _, _, _, litK_spec _ _ _ _ hh, good_makeSlice ho ht h1 h2 hi hz hz1 hs hp h3 h4 h5 hweak⟩
        · exact h.elim
      · exact h.elim
    · exact h.elim
  · rename_i t x lo hi ho
    split at h
    · exact good_view ho (by assumption) h
    · exact good_slice ho h
  · rename_i t x lo hi mx ho
    exact good_slice3 ho h
  · rename_i s x f ho
    obtain ⟨vx, h1, h⟩ := opK_spec _ _ _ h
    obtain ⟨v, h2, h3⟩ := good_fieldAddr (bs := bs) (nx := nx) ho h1 h
    exact ⟨_, _, _, _, _, h2, h3⟩
  · rename_i s x f ho
    obtain ⟨vx, h1, h⟩ := opK_spec _ _ _ h
    obtain ⟨fs, fl, i, h2, h3, h4, _, h⟩ := fieldK_spec h
    split at h
    · rename_i ha _
      obtain ⟨r, h5, h6, h7, h8⟩ := subK_spec _ _ _ _ h
      exact ⟨_, _, _, _, _, h5, good_field_agg ho h1 h2 h3 h4 ha h6 h7 h8⟩
    · rename_i ha _
      obtain ⟨c, h5, h6⟩ := nthK_spec _ _ _ h
      exact ⟨_, _, _, _, _, h6, good_field_one ho h1 h2 h3 ha h5⟩
    · exact h.elim
  · rename_i t x ix ho
    obtain ⟨vx, h1, h⟩ := opK_spec _ _ _ h
    obtain ⟨vi, h2, h⟩ := opK_spec _ _ _ h
    split at h
    · obtain ⟨v, rd, h3, h4⟩ := good_indexAddr (nx := nx) ho h1 h2 h
      exact ⟨_, _, _, _, _, h3, h4⟩
    · exact h.elim
  · rename_i t m ix ok ho
    split at h
    · rename_i kt et ht
      obtain ⟨vm, h1, h⟩ := opK_spec _ _ _ h
      obtain ⟨vi, h2, h⟩ := opK_spec _ _ _ h
      split at h
      · rename_i j a hk he _
        obtain ⟨b, hb, h⟩ := lookK_spec _ _ _ h
        split at h
        · rename_i f
          split at h
          · rename_i inf hi
            split at h
            · rename_i hz
              cases ok with
              | false => exact ⟨_, _, _, _, _, h, good_lookup ho ht hk hi hz h1 h2 hb rfl⟩
              | true => exact ⟨_, _, _, _, _, h, good_lookup ho ht hk hi hz h1 h2 hb rfl⟩
            · exact h.elim
          · exact h.elim
        · exact h.elim
      · rename_i sf j l hk he _
        obtain ⟨hok, h⟩ := h
        have hp := pairT_spec hok
        split at h
        · rename_i hl
          have hl := Nat.eq_of_beq_eq_true hl
          obtain ⟨xs, h, hx1, hx2, hx3⟩ := intsK_spec _ _ _ _ h
          obtain ⟨b, hb, h⟩ := lookK_spec _ _ _ h
          split at h
          · rename_i f
            split at h
            · rename_i inf hi
              split at h
              · rename_i hz
                cases ok with
                | false => exact ⟨_, _, _, _, _, h, good_lookupP ho ht hp hi hz h1 h2 hl hx1 hx3 hb rfl⟩
                | true => exact ⟨_, _, _, _, _, h, good_lookupP ho ht hp hi hz h1 h2 hl hx1 hx3 hb rfl⟩
              · exact h.elim
            · exact h.elim
          · exact h.elim
        · exact h.elim
      · rename_i j a hk he _
        obtain ⟨b, hb, h⟩ := lookK_spec _ _ _ h
        split at h
        · rename_i f
          split at h
          · rename_i inf hi
            split at h
            · rename_i hz
              cases ok with
              | false => exact ⟨_, _, _, _, _, h, good_lookupS ho ht hk hi hz h1 h2 hb rfl⟩
              | true => exact ⟨_, _, _, _, _, h, good_lookupS ho ht hk hi hz h1 h2 hb rfl⟩
            · exact h.elim
          · exact h.elim
        · exact h.elim
      · exact h.elim
    · exact h.elim
  · rename_i t m ix x ho
    split at h
    · rename_i kt et ht
      obtain ⟨vm, h1, h⟩ := opK_spec _ _ _ h
      obtain ⟨vi, h2, h⟩ := opK_spec _ _ _ h
      obtain ⟨vx, h3, h⟩ := opK_spec _ _ _ h
      split at h
      · rename_i j a c hk _ _
        obtain ⟨b, hb, h⟩ := lookK_spec _ _ _ h
        split at h
        · exact ⟨_, _, _, _, _, h, good_mapUpdate ho ht hk h1 h2 h3 hb⟩
        · exact h.elim
      · rename_i sf j l c hk _ _
        obtain ⟨hok, h⟩ := h
        have hp := pairT_spec hok
        split at h
        · rename_i hl
          have hl := Nat.eq_of_beq_eq_true hl
          obtain ⟨xs, h, hx1, hx2, hx4⟩ := intsK_spec _ _ _ _ h
          obtain ⟨b, hb, h⟩ := lookK_spec _ _ _ h
          split at h
          · exact ⟨_, _, _, _, _, h, good_mapUpdateP ho ht hp h1 h2 hl hx1 hx4 h3 hb⟩
          · exact h.elim
        · exact h.elim
      · rename_i j a c hk _ _
        obtain ⟨b, hb, h⟩ := lookK_spec _ _ _ h
        split at h
        · exact ⟨_, _, _, _, _, h, good_mapUpdateS ho ht hk h1 h2 h3 hb⟩
        · exact h.elim
      · exact h.elim
    · exact h.elim
  · rename_i x ix ho
    obtain ⟨vx, h1, h⟩ := opK_spec _ _ _ h
    split at h
    · obtain ⟨s, h2, h3⟩ := nthK_spec _ _ _ h
      exact ⟨_, _, _, _, _, h3, good_extract ho h1 h2⟩
    · exact h.elim
  · rename_i c ho
    split at h
    · rename_i hc
      obtain ⟨vs, h, hl, hv⟩ := opsK_spec _ _ _ h
      split at h
      case h_2 => exact h.elim
      rename_i v t hty
      split at h
      · rename_i e hu
        obtain ⟨n, rd, h1, h2⟩ := good_len (nx := nx) ho hc hl hv hty hu h
        exact ⟨_, _, _, _, _, h1, h2⟩
      · rename_i n e hu
        exact ⟨_, _, _, _, _, h, good_len_array ho hc hl hv hty hu⟩
      · rename_i hu
        split at h
        · exact ⟨_, _, _, _, _, h, good_len_str ho hc hl hv hty hu⟩
        · exact h.elim
      · exact h.elim
    · rename_i hc
      obtain ⟨vs, h, hl, hv⟩ := opsK_spec _ _ _ h
      split at h
      · exact ⟨_, _, _, _, _, h, good_min ho hc hl hv⟩
      · exact h.elim
    · rename_i hc
      obtain ⟨vs, h, hl, hv⟩ := opsK_spec _ _ _ h
      split at h
      · exact ⟨_, _, _, _, _, h, good_max ho hc hl hv⟩
      · exact h.elim
    · rename_i hc
      obtain ⟨vs, h, hl, hv⟩ := opsK_spec _ _ _ h
      exact good_append hlt ho hc hl hv h
    · rename_i hc
      obtain ⟨vs, h, hl, hv⟩ := opsK_spec _ _ _ h
      exact good_clear ho hc hl hv h
    · rename_i hc
      obtain ⟨vs, h, hl, hv⟩ := opsK_spec _ _ _ h
      split at h
      case h_3 => exact h.elim
      case h_2 =>
        rename_i j off n q j2 off2 n2 q2 t s hty
        split at h
        case h_2 => exact h.elim
        rename_i e hu
        obtain ⟨b, hb, h⟩ := lookK_spec _ _ _ h
        obtain ⟨b2, hb2, h⟩ := lookK_spec _ _ _ h
        obtain ⟨inf, hi, h⟩ := sizeK_spec h
        split at h
        case h_2 => exact h.elim
        rename_i ty l ty2 l2
        split at h
        case h_2 => exact h.elim
        rename_i hq hq2 hn hj
        have hq := Nat.eq_of_beq_eq_true hq
        have hq2 := Nat.eq_of_beq_eq_true hq2
        have hn := Nat.eq_of_beq_eq_true hn
        have hj : j ≠ j2 := fun e => by subst e; simp at hj
        subst hq2
        subst hn
        have h := litK_spec _ _ _ _ h
        obtain ⟨r, h, h1, h2, h3⟩ := subK_spec _ _ _ _ h
        obtain ⟨r', h, h4, h5, h6⟩ := ovrK_spec _ _ _ _ h
        exact ⟨_, _, _, _, _, h, good_copy_row ho hc hl hv hty hu hi hq hb hb2 hj h1 (fun m hm => (h3 m hm).symm) h4 h5 h6⟩
      rename_i j x t s hty
      split at h
      case h_2 => exact h.elim
      rename_i e hu
      obtain ⟨b, hb, h⟩ := lookK_spec _ _ _ h
      split at h
      case h_2 => exact h.elim
      rename_i ty q n g
      obtain ⟨m, q', g2, rd, h, hsub, hrd, hread⟩ := readsK_spec h
      obtain ⟨inf, hi, h⟩ := sizeK_spec h
      split at h
      case h_2 => exact h.elim
      rename_i hq hq2
      have hq := Nat.eq_of_beq_eq_true hq
      have hq2 := Nat.eq_of_beq_eq_true hq2
      obtain ⟨h1, hh⟩ := h
      subst hq
      subst h1
      exact ⟨_, _, _, _, _, hh, good_copy ho hc hl hv hty hu hi hq2 hb hsub hread⟩
    · rename_i f hc
      obtain ⟨vf, hf, h⟩ := opK_spec _ _ _ h
      obtain ⟨vs, h, hl, hv⟩ := opsK_spec _ _ _ h
      split at h
      · exact good_call hΓ hlt ho hc (.inl hf) hl hv h
      · split at h
        · rename_i h0
          exact good_call hΓ hlt ho hc (.inr ⟨h0, hf⟩) hl hv h
        · exact h.elim
      · exact h.elim
    · exact h.elim
  · exact h.elim
end
end Go.Eng
namespace Go.Eng
open Go
/-- The registers. -/
def Regs (O : Nat → Prop) (w : World) (hs : Names) (R : Nat → Option RV) (tmps : Array Value) : Prop :=
  ∀ t rv, R t = some rv → ∃ u, tmps[t]? = some u ∧ RVRel O w rv hs u
def OpdF (R : Nat → Option RV) (x : Operand) (rv : RV) : Prop :=
  match x with
  | .tmp t => R t = some rv
  | .const v => rv = ofV v ∧ flatV v
  | .func f => rv = .s (.c (.fn f []))
  | .global _ => False
theorem opd_opdF {regs : List RV} {x : Operand} {rv : RV} (h : Opd regs x rv) : OpdF (fun t => regs[t]?) x rv := by
  cases x <;> exact h
theorem ofV_rel {O : Nat → Prop} {w : World} {hs : Names} {v : Value} (h : flatV v) : RVRel O w (ofV v) hs v := by
  cases v with
  | agg cs =>
    refine ⟨cs, rfl, by simp, fun i c u hc hu => ?_⟩
    simp only [List.getElem?_map, Option.map_eq_some_iff] at hc
    obtain ⟨x, hx, rfl⟩ := hc
    have : x = u := by
      rw [Array.getElem?_toList] at hx
      rw [hx] at hu; exact Option.some.inj hu
    subst this
    exact ⟨rfl, h x (by simpa using Array.mem_of_getElem? hu)⟩
  | _ => exact ⟨rfl, h⟩
theorem eval_rel {O : Nat → Prop} {w : World} {hs : Names} {R : Nat → Option RV} {a : Act} (hr : Regs O w hs R a.tmps) {x : Operand} {rv : RV} (h : OpdF R x rv) : RVRel O w rv hs (a.eval x) := by
  cases x with
  | tmp t =>
    obtain ⟨u, h1, h2⟩ := hr t rv h
    show RVRel O w rv hs (a.tmps.getD t undef)
    rw [Array.getD_eq_getD_getElem?, h1]
    exact h2
  | const v =>
    obtain ⟨rfl, h⟩ := h
    exact ofV_rel h
  | func f =>
    have h : rv = .s (.c (.fn f [])) := h
    subst h
    exact ⟨#[], rfl, rfl, fun i c x hc => by simp at hc⟩
  | global g => exact h.elim
/-- The part B of C, with the rest forbidden. -/
theorem part_rep {F : Nat → Prop} {hs : Names} {B C : Mem} {w : World} (hsub : Sub B C) (hC : WRep F hs C w) :
    (∀ x, Osum F hs C x ↔ Osum (fun x => F x ∨ own hs (fun j => match B j with | some _ => none | none => C j) x) hs B x) ∧
    WRep (fun x => F x ∨ own hs (fun j => match B j with | some _ => none | none => C j) x) hs B w := by
  have hrest : ∀ j b, (match B j with | some _ => (none : Option Blk) | none => C j) = some b → B j = none ∧ C j = some b := by
    intro j b hj
    cases hB : B j with
    | some _ => rw [hB] at hj; cases hj
    | none => rw [hB] at hj; exact ⟨rfl, hj⟩
  have hO0 : ∀ x, Osum F hs C x ↔ Osum (fun x => F x ∨ own hs (fun j => match B j with | some _ => none | none => C j) x) hs B x := by
    intro x
    constructor
    · rintro (hx | ⟨j, b, u, hb, hu, ho⟩)
      · exact .inl (.inl hx)
      · cases hB : B j with
        | some b0 =>
          have := hsub j b0 hB
          rw [hb] at this; cases this
          exact .inr ⟨j, b, u, hB, hu, ho⟩
        | none => exact .inl (.inr ⟨j, b, u, by simp [hB, hb], hu, ho⟩)
    · rintro ((hx | hx) | ⟨j, b, u, hb, hu, ho⟩)
      · exact .inl hx
      · obtain ⟨j, b, u, hb, hu, ho⟩ := hx
        obtain ⟨hn, hc⟩ := hrest j b hb
        exact .inr ⟨j, b, u, hc, hu, ho⟩
      · exact .inr ⟨j, b, u, hsub j b hb, hu, ho⟩
  have hOeq : Osum F hs C = Osum (fun x => F x ∨ own hs (fun j => match B j with | some _ => none | none => C j) x) hs B := funext fun x => propext (hO0 x)
  refine ⟨hO0, ⟨?_, ?_, ?_, ?_⟩⟩
  · intro j b hj
    obtain ⟨u, hu, hr⟩ := hC.blk j b (hsub j b hj)
    exact ⟨u, hu, by rw [← hOeq]; exact hr⟩
  · intro i j bi bj ui uj x hbi hbj hui huj hoi hoj
    exact hC.sep i j bi bj ui uj x (hsub i bi hbi) (hsub j bj hbj) hui huj hoi hoj
  · rintro x (hx | ⟨j, b, u, hb, hu, ho⟩)
    · exact hC.lt x hx
    · exact own_lt hC ⟨j, b, u, (hrest j b hb).2, hu, ho⟩
  · rintro x (hx | ⟨j, b, u, hb, hu, ho⟩) ⟨i, bi, ui, hbi, hui, hoi⟩
    · exact hC.apart x hx ⟨i, bi, ui, hsub i bi hbi, hui, hoi⟩
    · obtain ⟨hn, hc⟩ := hrest j b hb
      have := hC.sep i j bi b ui u x (hsub i bi hbi) hc hui hu hoi ho
      subst this
      rw [hn] at hbi; cases hbi
/-- A fence that lets all in: that of a call, or of a round. -/
inductive Free : Fence → Prop where
  | wide : Free Fence.wide
  | round (l : Nat) : Free (Fence.wide.inRound l)
theorem Free.fn {Φ : Fence} (h : Free Φ) (f : FuncId) : Φ.fn f := by cases h <;> trivial
theorem Free.depth {Φ : Fence} (h : Free Φ) {n : Nat} : Φ.depth.isSome = true → 1 ≤ n := by cases h <;> (intro h; cases h)
theorem Free.calls {Φ : Fence} (h : Free Φ) {n : Nat} {P : Program} {f : FuncId} {args : Array Value} {w : World} {R : Ending → World → Prop} (hc : Calls P f args w R) : CallsIn Φ n P f args w R := by
  cases h with
  | wide => exact callsIn_wide.2 hc
  | round l =>
    have h : CallsIn Fence.wide n P f args w R := callsIn_wide.2 hc
    exact h
theorem yield_defer {P : Program} {R : Value → World → Prop} {o : Oper} {c : Call} (ho : o.op = .defer c) {ρ : Operand → Value} {w : World} (h : Yield P R ((execOp ρ o).run P w)) : False := by
  unfold execOp at h
  rw [ho] at h
  simp only [Sem.run_bind] at h
  cases hr : (resolve ρ c o.type).run P w with
  | ok a w' => rw [hr] at h; simp [Result.andThen, Yield] at h
  | halt x w' => rw [hr] at h; exact h
theorem Free.sem {Φ : Fence} (hΦ : Free Φ) {P : Program} {R : Value → World → Prop} {o : Oper} {ρ : Operand → Value} {w : World} (h : Yield P R ((execOp ρ o).run P w)) : o.semAt Φ.round ρ = execOp ρ o := by
  cases hΦ with
  | wide => exact Oper.semAt_none _ _
  | round l => exact Oper.semAt_some _ _ _ fun c hc => yield_defer hc h
/-- Where the marks of a function's ranges lie, what it has deferred before, and whether there are no marks. -/
structure Dfr where
  n : Nat
  tl : List Deferred
  no : Bool
instance : Coe Nat Dfr := ⟨fun n => ⟨n, [], false⟩⟩
instance (k : Nat) : OfNat Dfr k := ⟨⟨k, [], false⟩⟩
/-- Marks of ranges over functions, ahead of what was deferred before. -/
def DOK (b : Dfr) (ds : List Deferred) (w : World) : Prop := ∃ Ds : List Nat, ds = Ds.map (fun D => { target := .collected D, args := #[] }) ++ b.tl ∧ Ds.Nodup ∧ (∀ D ∈ Ds, b.n ≤ D ∧ w.heap[D]? = some (.deferred (some []))) ∧ (b.no = true → Ds = [])
theorem DOK.tail (b : Dfr) (w : World) : DOK b b.tl w := ⟨[], rfl, List.nodup_nil, (fun D h => by cases h), fun _ => rfl⟩
theorem DOK.nil (b : Nat) (w : World) : DOK b [] w := ⟨[], rfl, List.nodup_nil, (fun D h => by cases h), fun _ => rfl⟩
theorem DOK.none {b : Dfr} {ds : List Deferred} {w : World} (h : DOK b ds w) (hn : b.no = true) : ds = b.tl := by
  obtain ⟨Ds, h1, _, _, h4⟩ := h
  rw [h4 hn] at h1
  exact h1
theorem DOK.mono {b b' : Dfr} {ds : List Deferred} {w w' : World} (h : DOK b ds w) (hb : b'.n ≤ b.n) (hk : ∀ (D : Nat) o, w.heap[D]? = some (Obj.deferred o) → w'.heap[D]? = some (Obj.deferred o)) (ht : b.tl = b'.tl := by rfl) (hn : b.no = b'.no := by rfl) : DOK b' ds w' := by
  obtain ⟨Ds, h1, h2, h3, h4⟩ := h
  exact ⟨Ds, by rw [← ht]; exact h1, h2, fun D hD => ⟨Nat.le_trans hb (h3 D hD).1, hk _ _ (h3 D hD).2⟩, by rw [← hn]; exact h4⟩
/-- What is owned is no block of deferred calls. -/
theorem own_not_deferred {F : Nat → Prop} {hs : Names} {C : Mem} {w : World} (hC : WRep F hs C w) {x : Nat} (hx : own hs C x) : ∀ o, w.heap[x]? ≠ some (.deferred o) := by
  intro o ho
  obtain ⟨j, b, v, hb, hv, hown⟩ := hx
  obtain ⟨v', hv', hr⟩ := hC.blk j b hb
  rw [hv] at hv'; cases hv'
  cases b with
  | row ty cells =>
    obtain ⟨y, cs, h1, h2, _⟩ := hr
    subst h1
    simp [owner] at hown; subst hown
    rw [ho] at h2; cases h2
  | slc ty k n g =>
    rcases hr with ⟨h1, _⟩ | ⟨y, cap, cs, h1, _, _, h3, _⟩
    · subst h1; simp [owner] at hown
    · subst h1; simp [owner] at hown; subst hown
      rw [ho] at h3; cases h3
  | fsl k n g => simp [owner] at hown
  | imap f =>
    obtain ⟨r, es, clk, h1, h2, _⟩ := hr
    subst h1; simp [owner] at hown; subst hown
    rw [ho] at h2; cases h2
  | pmap f =>
    obtain ⟨r, es, clk, h1, h2, _⟩ := hr
    subst h1; simp [owner] at hown; subst hown
    rw [ho] at h2; cases h2
  | smap f =>
    obtain ⟨r, es, clk, h1, h2, _⟩ := hr
    subst h1; simp [owner] at hown; subst hown
    rw [ho] at h2; cases h2
  | gone => simp [owner] at hown
theorem fr_deferred {F : Nat → Prop} {hs : Names} {C : Mem} {w w' : World} (hC : WRep F hs C w) (h : Fr (own hs C) w w') : ∀ (D : Nat) o, w.heap[D]? = some (Obj.deferred o) → w'.heap[D]? = some (Obj.deferred o) := by
  intro D o hD
  rw [h.block D (Array.getElem?_eq_some_iff.1 hD).1 fun hx => own_not_deferred hC hx o hD]
  exact hD
theorem yield_upon {Φ : Fence} (hΦ : Free Φ) {n : Nat} {P : Program} {R : Value → World → Prop} {o : Oper} {a : Act} {next : Act → World → Prop} {Q : Exit → Act → World → Prop} {r : Result Next} (h : Yield P R r)
    (hn : ∀ v w', R v w' → next (a.put o.dst v) w') : o.uponIn Φ n P a next Q r := by
  cases r with
  | ok n w' =>
    cases n <;> simp only [Yield, Oper.uponIn] at h ⊢ <;> first | exact h.elim | skip
    · exact hn _ _ h
    · exact hn _ _ h
    · exact ⟨hΦ.depth, hΦ.calls (h.mono fun e w'' he => by
        obtain ⟨v, rfl, hv⟩ := he
        exact hn _ _ hv)⟩
  | halt x w' => exact h.elim
/-- What has been since the beginning. -/
structure Since (O0 : Nat → Prop) (hs0 : Names) (w0 : World) (hs : Names) (C : Mem) (w : World) : Prop where
  names : ∀ j h, hs0 j = some h → hs j = some h
  fr : Fr O0 w0 w
  own : ∀ x, own hs C x → O0 x ∨ w0.heap.size ≤ x
/-- **One operation.** -/
theorem oper_wp {Φ : Fence} (hΦ : Free Φ) {n : Nat} {P : Program} {o : Oper} {regs : List RV} {bs : List (Nat × Blk)} {nx : Nat} {rv : RV} {rd pre pb : List (Nat × Blk)} {nx' : Nat} (hg : Good P o regs bs nx rv rd pre pb nx')
    {F : Nat → Prop} {hs : Names} {C : Mem} {w : World} {a : Act} {R : Nat → Option RV} {O0 : Nat → Prop} {hs0 : Names} {w0 : World}
    (hsub : Sub (look (pre ++ rd)) C) (hC : WRep F hs C w) (hR : Regs (Osum F hs C) w hs R a.tmps) (hops : ∀ x ∈ o.op.operands, ∀ v, Opd regs x v → OpdF R x v)
    (hf : ∀ j, nx ≤ j → j < nx' → hs j = none) (hS : Since O0 hs0 w0 hs C w) {next : Act → World → Prop} {Q : Exit → Act → World → Prop}
    (hnext : ∀ v w' hs', RVRel (Osum F hs' (joinM C (look (pre ++ rd)) (look (pb ++ rd)))) w' rv hs' v → WRep F hs' (joinM C (look (pre ++ rd)) (look (pb ++ rd))) w' →
      Regs (Osum F hs' (joinM C (look (pre ++ rd)) (look (pb ++ rd)))) w' hs' R a.tmps → (∀ j, ¬ (nx ≤ j ∧ j < nx') → hs' j = hs j) →
      Since O0 hs0 w0 hs' (joinM C (look (pre ++ rd)) (look (pb ++ rd))) w' → Fr (own hs C) w w' → next (a.put o.dst v) w') : o.wpIn Φ n P a w next Q := by
  obtain ⟨hO, hB⟩ := part_rep hsub hC
  have hOeq : Osum F hs C = _ := funext fun x => propext (hO x)
  have hy := hg.run _ hs a.eval w (fun x hx v hv => by rw [← hOeq]; exact eval_rel hR (hops x hx v hv)) hB hf
  refine ⟨fun f _ => hΦ.fn f, ?_⟩
  rw [hΦ.sem hy]
  refine yield_upon hΦ hy fun v w' hp => ?_
  have hnew : ∀ j b, look (pb ++ rd) j = some b → (∃ b0, look (pre ++ rd) j = some b0) ∨ C j = none := by
    intro j b hj
    rcases hg.new j b hj with h | ⟨h1, h2⟩
    · exact .inl h
    · right
      cases hc : C j with
      | none => rfl
      | some c =>
        obtain ⟨u, hu, _⟩ := hC.blk j c hc
        rw [hf j h1 h2] at hu; cases hu
  obtain ⟨hs', g1, g2, g3, g4, g5, g6⟩ := post_frame hsub hC hnew hp
  have hOm : ∀ x, Osum F hs' (joinM C (look (pre ++ rd)) (look (pb ++ rd))) x → Osum F hs C x ∨ w.heap.size ≤ x := by
    rintro x (hx | hx)
    · exact .inl (.inl hx)
    · exact (g6 x hx).imp .inr id
  refine hnext v w' hs' g1 g2 (fun t r ht => ?_) g4 ⟨fun j h hj => g3 j h (hS.names j h hj), ?_, fun x hx => ?_⟩ g5
  · obtain ⟨u, hu, hr⟩ := hR t r ht
    exact ⟨u, hu, RVRel.mono g5.size (fun x hx hn => g5.block x hx fun h => hn (.inr h)) hOm g3 hr⟩
  · exact hS.fr.trans g5 hS.own
  · rcases g6 x hx with h | h
    · exact hS.own x h
    · exact .inr (Nat.le_trans hS.fr.size h)
end Go.Eng
namespace Go.Eng
open Go
/-- Names of one operation's step: what it looks at, what it turns. -/
structure Sig where
  i : Nat
  fp : List Nat
  md : List Nat
def memN (x : Nat) : List Nat → Bool
  | [] => false
  | y :: l => match Nat.beq x y with
    | true => true
    | false => memN x l
def subN : List Nat → List Nat → Bool
  | [], _ => true
  | x :: l, m => match memN x m with
    | true => subN l m
    | false => false
def meetN : List Nat → List Nat → Bool
  | [], _ => false
  | x :: l, m => match memN x m with
    | true => true
    | false => meetN l m
def fsts : List (Nat × Blk) → List Nat
  | [] => []
  | (j, _) :: l => j :: fsts l
/-- An operation, then k. (Its own constant: the kernel then holds k against k once.) -/
def goT (P : Program) (Γ : FuncId → Option FSpec) (i : Nat) (o : Oper) (bs : List (Nat × Blk)) (nx : Nat) (k : List RV → List (Nat × Blk) → Nat → Sig → Prop) (regs : List RV) : Prop :=
  stepK P Γ o regs bs nx fun v rd pre pb nx' => match subN (fsts pre) (fsts pb) with
    | true => setD regs o.dst v fun regs' => putsK bs pb fun bs' => k regs' bs' nx' ⟨i, fsts pre ++ fsts rd, fsts pb⟩
    | false => False
def skipT (i : Nat) (o : Oper) (bs : List (Nat × Blk)) (nx : Nat) (k : List RV → List (Nat × Blk) → Nat → Sig → Prop) (regs : List RV) : Prop :=
  setD regs o.dst .un fun regs' => k regs' bs nx ⟨i, [], []⟩
def guardT (P : Program) (Γ : FuncId → Option FSpec) (ops : List Oper) (i : Nat) (o : Oper) (regs : List RV) (bs : List (Nat × Blk)) (nx : Nat) (k : List RV → List (Nat × Blk) → Nat → Sig → Prop) : Prop :=
  match o.guard with
  | none => goT P Γ i o bs nx k regs
  | some (j, want) => nthK ops j fun oj => match oj.dst with
    | some d => nthK regs d fun r => match r with
      | .s (.c (.v (.bool t))) => match want with
        | true => Br t (setK regs d (.b true) (goT P Γ i o bs nx k)) (setK regs d (.b false) (skipT i o bs nx k))
        | false => Br t (setK regs d (.b true) (skipT i o bs nx k)) (setK regs d (.b false) (goT P Γ i o bs nx k))
      | .un => skipT i o bs nx k regs
      | _ => False
    | none => False
def runT (P : Program) (Γ : FuncId → Option FSpec) (ops : List Oper) : List (Nat × Oper) → St → (List Sig → St → Prop) → Prop
  | [], st, K => K [] st
  | (i, o) :: rest, ⟨regs, bs, nx⟩, K => guardT P Γ ops i o regs bs nx fun regs' bs' nx' sg => runT P Γ ops rest ⟨regs', bs', nx'⟩ fun sgs st => K (sg :: sgs) st
structure Stp where
  i : Nat
  o : Oper
  ran : Bool
  regs : List RV
  bs : List (Nat × Blk)
  nx : Nat
  rv : RV
  rd : List (Nat × Blk)
  pre : List (Nat × Blk)
  pb : List (Nat × Blk)
  nx' : Nat
def Stp.sig (s : Stp) : Sig := ⟨s.i, fsts s.pre ++ fsts s.rd, fsts s.pb⟩
structure StepOK (P : Program) (ops : List Oper) (s : Stp) : Prop where
  op : ops[s.i]? = some s.o
  sub : subN (fsts s.pre) (fsts s.pb) = true
  dst : ∀ d, s.o.dst = some d → d < s.regs.length
  le : s.nx ≤ s.nx'
  on : s.ran = true → Good P s.o s.regs s.bs s.nx s.rv s.rd s.pre s.pb s.nx' ∧
    ∀ j want, s.o.guard = some (j, want) → ∃ oj d, ops[j]? = some oj ∧ oj.dst = some d ∧ s.regs[d]? = some (.s (.c (.v (.bool want))))
  off : s.ran = false → s.rv = .un ∧ s.rd = [] ∧ s.pre = [] ∧ s.pb = [] ∧ s.nx' = s.nx ∧
    ∃ j want oj d r, s.o.guard = some (j, want) ∧ ops[j]? = some oj ∧ oj.dst = some d ∧ s.regs[d]? = some r ∧ (r = .un ∨ r = .s (.c (.v (.bool (!want)))))
inductive Tr (P : Program) (ops : List Oper) : List (Nat × Oper) → St → List Stp → St → Prop
  | nil (st : St) : Tr P ops [] st [] st
  | cons {i : Nat} {o : Oper} {rest : List (Nat × Oper)} {s : Stp} {st : St} {regs' : List RV} {bs' : List (Nat × Blk)} {l : List Stp} {st2 : St}
      (hi : s.i = i) (ho : s.o = o) (h1 : s.regs = st.regs) (h2 : s.bs = st.blks) (h3 : s.nx = st.next) (hok : StepOK P ops s)
      (hr : ∀ t, regs'[t]? = if o.dst = some t then some s.rv else st.regs[t]?) (hb : ∀ j, look bs' j = look (s.pb ++ st.blks) j)
      (ht : Tr P ops rest ⟨regs', bs', s.nx'⟩ l st2) : Tr P ops ((i, o) :: rest) st (s :: l) st2
theorem memN_iff {x : Nat} : ∀ {l : List Nat}, memN x l = true ↔ x ∈ l
  | [] => by simp [memN]
  | y :: l => by
    unfold memN
    split
    · rename_i h
      have := Nat.eq_of_beq_eq_true h
      simp [this]
    · rename_i h
      have : x ≠ y := by rintro rfl; rw [Nat.beq_refl] at h; cases h
      rw [memN_iff]; simp [this]
theorem subN_iff {m : List Nat} : ∀ {l : List Nat}, subN l m = true ↔ ∀ x ∈ l, x ∈ m
  | [] => by simp [subN]
  | y :: l => by
    unfold subN
    split
    · rename_i h
      rw [subN_iff]; simp [memN_iff.1 h]
    · rename_i h
      have : y ∉ m := fun h' => by rw [memN_iff.2 h'] at h; cases h
      simp [this]
theorem meetN_iff {m : List Nat} : ∀ {l : List Nat}, meetN l m = true ↔ ∃ x ∈ l, x ∈ m
  | [] => by simp [meetN]
  | y :: l => by
    unfold meetN
    split
    · rename_i h
      simp [memN_iff.1 h]
    · rename_i h
      have : y ∉ m := fun h' => by rw [memN_iff.2 h'] at h; cases h
      rw [meetN_iff]; simp [this]
theorem fsts_iff {j : Nat} : ∀ {l : List (Nat × Blk)}, j ∈ fsts l ↔ ∃ b, look l j = some b
  | [] => by simp [fsts, look]
  | (i, b) :: l => by
    simp only [fsts, look, List.mem_cons]
    by_cases h : i = j
    · simp [h]
    · simp only [h, if_false]
      rw [fsts_iff]
      exact ⟨fun h' => h'.resolve_left fun e => h e.symm, .inr⟩
theorem setD_spec {regs : List RV} {d : Option Tmp} {v : RV} {K : List RV → Prop} (h : setD regs d v K) :
    ∃ regs', K regs' ∧ (∀ t, d = some t → t < regs.length) ∧ ∀ t, regs'[t]? = if d = some t then some v else regs[t]? := by
  unfold setD at h
  split at h
  · exact ⟨regs, h, (fun t h => by cases h), fun t => by simp⟩
  · rename_i t0
    obtain ⟨h1, h2⟩ := setK_spec _ _ _ _ h
    refine ⟨_, h2, fun t h => by cases h; exact h1, fun t => ?_⟩
    rw [List.getElem?_set]
    by_cases e : t0 = t
    · subst e; simp [h1]
    · simp [e]
theorem setK_self {regs : List RV} {d : Nat} {x : RV} (h : regs[d]? = some x) {k : List RV → Prop} (hk : setK regs d x k) : k regs := by
  obtain ⟨h1, h2⟩ := setK_spec _ _ _ _ hk
  have e : regs[d] = x := by rw [List.getElem?_eq_getElem h1] at h; exact Option.some.inj h
  have : regs.set d x = regs := by rw [← e]; exact List.set_getElem_self h1
  rw [this] at h2; exact h2
theorem run_skip {P : Program} {Γ : FuncId → Option FSpec} {ops : List Oper} {i : Nat} {o : Oper} {rest : List (Nat × Oper)} {regs : List RV} {bs : List (Nat × Blk)} {nx : Nat} {K : List Sig → St → Prop}
    (ho : ops[i]? = some o) {j : Nat} {want : Bool} {oj : Oper} {d : Nat} {r : RV} (hg : o.guard = some (j, want)) (hj : ops[j]? = some oj) (hd : oj.dst = some d) (hrd : regs[d]? = some r)
    (hr : r = .un ∨ r = .s (.c (.v (.bool (!want)))))
    (ih : ∀ st K, (∀ j b, look st.blks j = some b → j < st.next) → runT P Γ ops rest st K → ∃ l st2, K (l.map Stp.sig) st2 ∧ Tr P ops rest st l st2)
    (hlt : ∀ j b, look bs j = some b → j < nx)
    (h : setD regs o.dst .un fun regs' => runT P Γ ops rest ⟨regs', bs, nx⟩ fun sg st => K (⟨i, [], []⟩ :: sg) st) :
    ∃ l st2, K (l.map Stp.sig) st2 ∧ Tr P ops ((i, o) :: rest) ⟨regs, bs, nx⟩ l st2 := by
  obtain ⟨regs', h, h1, h2⟩ := setD_spec h
  obtain ⟨l, st2, h3, h4⟩ := ih _ _ hlt h
  refine ⟨⟨i, o, false, regs, bs, nx, .un, [], [], [], nx⟩ :: l, st2, h3, .cons (regs' := regs') (bs' := bs) rfl rfl rfl rfl rfl
    ⟨ho, rfl, h1, Nat.le_refl _, (fun h => by cases h), fun _ => ⟨rfl, rfl, rfl, rfl, rfl, j, want, oj, d, r, hg, hj, hd, hrd, hr⟩⟩ (fun t => h2 t) (fun j => rfl) h4⟩
theorem run_go {P : Program} {Γ : FuncId → Option FSpec} (hΓ : GOK P Γ) {ops : List Oper} {i : Nat} {o : Oper} {rest : List (Nat × Oper)} {regs : List RV} {bs : List (Nat × Blk)} {nx : Nat} {K : List Sig → St → Prop}
    (ho : ops[i]? = some o) (hg : ∀ j want, o.guard = some (j, want) → ∃ oj d, ops[j]? = some oj ∧ oj.dst = some d ∧ regs[d]? = some (.s (.c (.v (.bool want)))))
    (ih : ∀ st K, (∀ j b, look st.blks j = some b → j < st.next) → runT P Γ ops rest st K → ∃ l st2, K (l.map Stp.sig) st2 ∧ Tr P ops rest st l st2)
    (hlt : ∀ j b, look bs j = some b → j < nx)
    (h : stepK P Γ o regs bs nx fun v rd pre pb nx' => match subN (fsts pre) (fsts pb) with
      | true => setD regs o.dst v fun regs' => putsK bs pb fun bs' => runT P Γ ops rest ⟨regs', bs', nx'⟩ fun sg st => K (⟨i, fsts pre ++ fsts rd, fsts pb⟩ :: sg) st
      | false => False) :
    ∃ l st2, K (l.map Stp.sig) st2 ∧ Tr P ops ((i, o) :: rest) ⟨regs, bs, nx⟩ l st2 := by
  obtain ⟨rv, rd, pre, pb, nx', h, hgood⟩ := stepK_sound hΓ hlt h
  split at h
  case h_2 => exact h.elim
  rename_i hsub
  obtain ⟨regs', h, h1, h2⟩ := setD_spec h
  obtain ⟨bs', h, h3⟩ := putsK_spec _ _ _ h
  have hb' : ∀ j b, look bs' j = some b → j < nx' := by
    intro j b hj
    rw [h3, look_append] at hj
    cases hp : look pb j with
    | none => rw [hp] at hj; exact Nat.lt_of_lt_of_le (hlt j b hj) hgood.le
    | some c =>
      rcases hgood.new j c (by rw [look_append, hp]; rfl) with ⟨b0, h6⟩ | h6
      · exact Nat.lt_of_lt_of_le (hlt j b0 (hgood.sub j b0 h6)) hgood.le
      · exact h6.2
  obtain ⟨l, st2, h4, h5⟩ := ih _ _ hb' h
  exact ⟨⟨i, o, true, regs, bs, nx, rv, rd, pre, pb, nx'⟩ :: l, st2, h4, .cons (regs' := regs') (bs' := bs') rfl rfl rfl rfl rfl
      ⟨ho, hsub, h1, hgood.le, fun _ => ⟨hgood, hg⟩, (fun h => by cases h)⟩ (fun t => h2 t) (fun j => h3 j) h5⟩
theorem runT_sound {P : Program} {Γ : FuncId → Option FSpec} (hΓ : GOK P Γ) {ops : List Oper} : ∀ (l : List (Nat × Oper)), (∀ p ∈ l, ops[p.1]? = some p.2) → ∀ (st : St) (K : List Sig → St → Prop),
    (∀ j b, look st.blks j = some b → j < st.next) → runT P Γ ops l st K → ∃ tr st2, K (tr.map Stp.sig) st2 ∧ Tr P ops l st tr st2
  | [], _, st, K, _, h => ⟨[], st, h, .nil st⟩
  | (i, o) :: rest, hl, ⟨regs, bs, nx⟩, K, hlt, h => by
    have ih := runT_sound hΓ rest fun p hp => hl p (List.mem_cons_of_mem _ hp)
    have ho : ops[i]? = some o := hl (i, o) (List.mem_cons_self ..)
    unfold runT guardT at h
    split at h
    · rename_i hg
      exact run_go hΓ ho (fun j want h => by rw [hg] at h; cases h) ih hlt h
    · rename_i j want hg
      obtain ⟨oj, hj, h⟩ := nthK_spec _ _ _ h
      split at h
      case h_2 => exact h.elim
      rename_i d hd
      obtain ⟨r, hr, h⟩ := nthK_spec _ _ _ h
      split at h
      · rename_i t
        cases want <;> cases t
        · exact run_go hΓ ho (fun j' w' h' => by rw [hg] at h'; cases h'; exact ⟨oj, d, hj, hd, hr⟩) ih hlt (setK_self hr h)
        · exact run_skip ho hg hj hd hr (.inr rfl) ih hlt (setK_self hr h)
        · exact run_skip ho hg hj hd hr (.inr rfl) ih hlt (setK_self hr h)
        · exact run_go hΓ ho (fun j' w' h' => by rw [hg] at h'; cases h'; exact ⟨oj, d, hj, hd, hr⟩) ih hlt (setK_self hr h)
      · exact run_skip ho hg hj hd hr (.inl rfl) ih hlt h
      · exact h.elim
end Go.Eng
namespace Go.Eng
open Go
def ovl {β : Type} (f : Stp → Nat → Option β) : List Stp → (Nat → Bool) → (Nat → Option β) → Nat → Option β
  | [], _, B => B
  | s :: l, L, B => ovl f l L (fun j => if L s.i then (f s j).or (B j) else B j)
section
variable {β : Type} {f : Stp → Nat → Option β}
theorem ovl_congr {j : Nat} : ∀ (l : List Stp) (L L' : Nat → Bool) (B B' : Nat → Option β), (∀ q ∈ l, L q.i = L' q.i) → B j = B' j → ovl f l L B j = ovl f l L' B' j
  | [], _, _, _, _, _, h => h
  | s :: l, L, L', B, B', hL, h => by
    unfold ovl
    refine ovl_congr l L L' _ _ (fun q hq => hL q (List.mem_cons_of_mem _ hq)) ?_
    simp only [hL s (List.mem_cons_self ..), h]
theorem ovl_none {j : Nat} : ∀ (l : List Stp) (L : Nat → Bool) (B : Nat → Option β), (∀ q ∈ l, (∃ b, f q j = some b) → L q.i = false) → ovl f l L B j = B j
  | [], _, _, _ => rfl
  | s :: l, L, B, h => by
    unfold ovl
    rw [ovl_none l L _ fun q hq => h q (List.mem_cons_of_mem _ hq)]
    cases hs : f s j with
    | none => simp
    | some b => rw [h s (List.mem_cons_self ..) ⟨b, hs⟩]; simp
theorem ovl_append (l1 l2 : List Stp) (L : Nat → Bool) (B : Nat → Option β) : ovl f (l1 ++ l2) L B = ovl f l2 L (ovl f l1 L B) := by
  induction l1 generalizing B with
  | nil => rfl
  | cons s l ih => simp only [List.cons_append, ovl, ih]
theorem ovl_some {j : Nat} : ∀ (l : List Stp) (L : Nat → Bool) (B : Nat → Option β), (B j).isSome → (ovl f l L B j).isSome
  | [], _, _, h => h
  | s :: l, L, B, h => by
    unfold ovl
    refine ovl_some l L _ ?_
    show (if L s.i then (f s j).or (B j) else B j).isSome
    split
    · cases hs : f s j with
      | none => simpa using h
      | some b => rfl
    · exact h
theorem ovl_put {j : Nat} {l1 l2 : List Stp} {s : Stp} {L L' : Nat → Bool} {B : Nat → Option β} (h1 : ∀ q ∈ l1, L' q.i = L q.i) (h2 : ∀ q ∈ l2, L' q.i = L q.i) (hs : L s.i = false) (hs' : L' s.i = true)
    (h : ∀ q ∈ l2, (∃ b, f q j = some b) → (∃ b, f s j = some b) → L q.i = false) : ovl f (l1 ++ s :: l2) L' B j = (f s j).or (ovl f (l1 ++ s :: l2) L B j) := by
  rw [ovl_append, ovl_append]
  simp only [ovl, hs, hs', if_true]
  have e1 : ovl f l1 L' B j = ovl f l1 L B j := ovl_congr l1 L' L B B h1 rfl
  cases hf : f s j with
  | none =>
    rw [Option.none_or]
    exact ovl_congr l2 L' L _ _ h2 (by simp [hf, e1])
  | some b =>
    rw [ovl_none l2 L' _ (fun q hq hb => by rw [h2 q hq]; exact h q hq hb ⟨b, hf⟩)]
    simp [hf]
end
def fm (s : Stp) : Nat → Option Blk := look s.pb
def fr (s : Stp) : Nat → Option RV := fun t => if s.o.dst = some t then some s.rv else none
def tmpsOf : List Operand → List Nat
  | [] => []
  | .tmp t :: l => t :: tmpsOf l
  | _ :: l => tmpsOf l
def looks (ops : List Oper) (o : Oper) : List Nat :=
  tmpsOf o.op.operands.toList ++ match o.guard with
    | some (g, _) => match ops[g]? with
      | some og => match og.dst with
        | some d => [d]
        | none => []
      | none => []
    | none => []
theorem tmpsOf_mem {t : Nat} : ∀ {l : List Operand}, Operand.tmp t ∈ l → t ∈ tmpsOf l
  | [], h => by cases h
  | x :: l, h => by
    rcases List.mem_cons.1 h with rfl | h
    · simp [tmpsOf]
    · have := tmpsOf_mem h
      cases x <;> simp [tmpsOf, this]
section
variable {P : Program} {ops : List Oper}
theorem tr_some {ls : List (Nat × Oper)} {st : St} {tr : List Stp} {st2 : St} (h : Tr P ops ls st tr st2) : ∀ {l1 l2 : List Stp} {s : Stp}, tr = l1 ++ s :: l2 → ∀ t : Nat, (s.regs[t]?).isSome → (st.regs[t]?).isSome := by
  induction h with
  | nil st => intro l1 l2 s e; cases l1 <;> cases e
  | @cons i o rest s0 st regs' bs' l st2 hi ho h1 h2 h3 hok hr hb ht ih =>
    intro l1 l2 s e t hs
    cases l1 with
    | nil => cases e; rw [← h1]; exact hs
    | cons q l1 =>
      cases e
      have := ih rfl t hs
      rw [hr t] at this
      split at this
      · rename_i hd
        rw [← h1, List.getElem?_eq_getElem (hok.dst t (by rw [ho]; exact hd))]; rfl
      · exact this
theorem tr_mem {ls : List (Nat × Oper)} {st : St} {tr : List Stp} {st2 : St} (h : Tr P ops ls st tr st2) : ∀ {l1 l2 : List Stp} {s : Stp}, tr = l1 ++ s :: l2 → ∀ (L : Nat → Bool) (j : Nat),
    (∀ q ∈ l1, (∃ b, fm q j = some b) → L q.i = true) → (∀ q ∈ s :: l2, (∃ b, fm q j = some b) → L q.i = false) → ovl fm tr L (look st.blks) j = look s.bs j := by
  induction h with
  | nil st => intro l1 l2 s e; cases l1 <;> cases e
  | @cons i o rest s0 st regs' bs' l st2 hi ho h1 h2 h3 hok hr hb ht ih =>
    intro l1 l2 s e L j hl1 hl2
    cases l1 with
    | nil =>
      cases e
      rw [ovl_none _ _ _ hl2, h2]
    | cons q l1 =>
      cases e
      rw [← ih rfl L j (fun q hq => hl1 q (List.mem_cons_of_mem _ hq)) hl2]
      refine ovl_congr (f := fm) _ L L (fun j => if L s0.i then (fm s0 j).or (look st.blks j) else look st.blks j) _ (fun _ _ => rfl) ?_
      rw [hb j, look_append]
      cases hp : look s0.pb j with
      | none => simp [fm, hp]
      | some b => rw [hl1 s0 (List.mem_cons_self ..) ⟨b, hp⟩]; simp [fm, hp]
theorem tr_reg {ls : List (Nat × Oper)} {st : St} {tr : List Stp} {st2 : St} (h : Tr P ops ls st tr st2) : ∀ {l1 l2 : List Stp} {s : Stp}, tr = l1 ++ s :: l2 → ∀ (L : Nat → Bool) (t : Nat),
    (∀ q ∈ l1, q.o.dst = some t → L q.i = true) → (∀ q ∈ s :: l2, q.o.dst = some t → L q.i = false) → ovl fr tr L (fun t => st.regs[t]?) t = s.regs[t]? := by
  induction h with
  | nil st => intro l1 l2 s e; cases l1 <;> cases e
  | @cons i o rest s0 st regs' bs' l st2 hi ho h1 h2 h3 hok hr hb ht ih =>
    intro l1 l2 s e L t hl1 hl2
    cases l1 with
    | nil =>
      cases e
      rw [ovl_none _ _ _ (fun q hq ⟨b, hb⟩ => hl2 q hq (by unfold fr at hb; split at hb <;> simp_all)), h1]
    | cons q l1 =>
      cases e
      rw [← ih rfl L t (fun q hq => hl1 q (List.mem_cons_of_mem _ hq)) hl2]
      refine ovl_congr (f := fr) _ L L (fun t => if L s0.i then (fr s0 t).or (st.regs[t]?) else st.regs[t]?) _ (fun _ _ => rfl) ?_
      simp only [hr t, ← ho]
      by_cases e : s0.o.dst = some t
      · rw [hl1 s0 (List.mem_cons_self ..) e]; simp [fr, e]
      · simp [fr, e]
/-- All have come up. -/
theorem tr_end {ls : List (Nat × Oper)} {st : St} {tr : List Stp} {st2 : St} (h : Tr P ops ls st tr st2) : ∀ (L : Nat → Bool), (∀ q ∈ tr, L q.i = true) →
    (∀ j, ovl fm tr L (look st.blks) j = look st2.blks j) ∧ (∀ t, ovl fr tr L (fun t => st.regs[t]?) t = st2.regs[t]?) := by
  induction h with
  | nil st => intro L _; exact ⟨fun _ => rfl, fun _ => rfl⟩
  | @cons i o rest s0 st regs' bs' l st2 hi ho h1 h2 h3 hok hr hb ht ih =>
    intro L hL
    obtain ⟨a1, a2⟩ := ih L fun q hq => hL q (List.mem_cons_of_mem _ hq)
    have h0 := hL s0 (List.mem_cons_self ..)
    constructor
    · intro j
      rw [← a1 j]
      refine ovl_congr (f := fm) _ L L (fun j => if L s0.i then (fm s0 j).or (look st.blks j) else look st.blks j) _ (fun _ _ => rfl) ?_
      simp only [h0, if_true, hb j, look_append]
      rfl
    · intro t
      rw [← a2 t]
      refine ovl_congr (f := fr) _ L L (fun t => if L s0.i then (fr s0 t).or (st.regs[t]?) else st.regs[t]?) _ (fun _ _ => rfl) ?_
      simp only [h0, if_true, hr t, ← ho, fr]
      split <;> rfl
theorem tr_nx {ls : List (Nat × Oper)} {st : St} {tr : List Stp} {st2 : St} (h : Tr P ops ls st tr st2) : st.next ≤ st2.next ∧ (∀ q ∈ tr, st.next ≤ q.nx ∧ q.nx ≤ q.nx' ∧ q.nx' ≤ st2.next) ∧
    ∀ {l1 l2 : List Stp} {s : Stp}, tr = l1 ++ s :: l2 → (∀ q ∈ l1, q.nx' ≤ s.nx) ∧ (∀ q ∈ l2, s.nx' ≤ q.nx) := by
  induction h with
  | nil st => exact ⟨Nat.le_refl _, fun q hq => (by cases hq), fun {l1 l2 s} e => by cases l1 <;> cases e⟩
  | @cons i o rest s0 st regs' bs' l st2 hi ho h1 h2 h3 hok hr hb ht ih =>
    obtain ⟨i1, i2, i3⟩ := ih
    have hle := hok.le
    refine ⟨by simp only at i1; omega, fun q hq => ?_, fun {l1 l2 s} e => ?_⟩
    · rcases List.mem_cons.1 hq with rfl | hq
      · exact ⟨by omega, hle, i1⟩
      · have := i2 q hq
        simp only at this
        omega
    · cases l1 with
      | nil =>
        cases e
        exact ⟨fun q hq => (by cases hq), fun q hq => (i2 q hq).1⟩
      | cons q l1 =>
        cases e
        obtain ⟨j1, j2⟩ := i3 rfl
        refine ⟨fun q hq => ?_, j2⟩
        rcases List.mem_cons.1 hq with rfl | hq
        · exact (i2 s (by simp)).1
        · exact j1 q hq
theorem tr_ok {ls : List (Nat × Oper)} {st : St} {tr : List Stp} {st2 : St} (h : Tr P ops ls st tr st2) : ∀ s ∈ tr, StepOK P ops s := by
  induction h with
  | nil st => intro s h; cases h
  | cons hi ho h1 h2 h3 hok hr hb ht ih =>
    intro s hs
    rcases List.mem_cons.1 hs with rfl | hs
    · exact hok
    · exact ih s hs
theorem tr_idx {ls : List (Nat × Oper)} {st : St} {tr : List Stp} {st2 : St} (h : Tr P ops ls st tr st2) : tr.map Stp.i = ls.map Prod.fst := by
  induction h with
  | nil st => rfl
  | cons hi ho h1 h2 h3 hok hr hb ht ih => simp [hi, ih]
end
end Go.Eng
namespace Go.Eng
open Go
/-- Where a region is: the operations of L have come up. -/
structure Inv (d : Dfr) (F : Nat → Prop) (O0 : Nat → Prop) (hs0 : Names) (w0 : World) (tr : List Stp) (st st2 : St) (L : Nat → Bool) (a : Act) (w : World) : Prop where
  ex : ∃ hs : Names, WRep F hs (ovl fm tr L (look st.blks)) w ∧ Regs (Osum F hs (ovl fm tr L (look st.blks))) w hs (ovl fr tr L fun t => st.regs[t]?) a.tmps ∧
    (∀ q ∈ tr, L q.i = false → ∀ j, q.nx ≤ j → j < q.nx' → hs j = none) ∧ (∀ j, st2.next ≤ j → hs j = none) ∧ Since O0 hs0 w0 hs (ovl fm tr L (look st.blks)) w
  defers : DOK d a.defers w
section
variable {d : Dfr} {P : Program} {ops : List Oper} {F : Nat → Prop} {O0 : Nat → Prop} {hs0 : Names} {w0 : World}
theorem put_tmps (a : Act) (d : Option Tmp) (v : Value) (t : Nat) : (a.put d v).tmps[t]? = if d = some t ∧ t < a.tmps.size then some v else a.tmps[t]? := by
  cases d with
  | none => simp [Act.put]
  | some d =>
    simp only [Act.put, Array.getElem?_setIfInBounds, Option.some.injEq]
    by_cases e : d = t
    · subst e
      by_cases h : d < a.tmps.size
      · simp [h]
      · simp [h]
    · simp [e]
theorem put_defers (a : Act) (d : Option Tmp) (v : Value) : (a.put d v).defers = a.defers := by cases d <;> rfl
theorem regs_put {O : Nat → Prop} {w : World} {hs : Names} {R : Nat → Option RV} {a : Act} {d : Option Tmp} {v : Value} {rv : RV} (h : Regs O w hs R a.tmps) (hv : RVRel O w rv hs v)
    (hd : ∀ t, d = some t → (R t).isSome) : Regs O w hs (fun t => (if d = some t then some rv else none).or (R t)) (a.put d v).tmps := by
  intro t r ht
  rw [put_tmps]
  by_cases e : d = some t
  · simp only [e, if_true, Option.some_or, Option.some.injEq] at ht
    subst ht
    obtain ⟨r0, hr0⟩ := Option.isSome_iff_exists.1 (hd t e)
    obtain ⟨u, hu, _⟩ := h t r0 hr0
    have := (Array.getElem?_eq_some_iff.1 hu).1
    exact ⟨v, by simp [e, this], hv⟩
  · simp only [e, if_false, Option.none_or] at ht
    obtain ⟨u, hu, hr⟩ := h t r ht
    exact ⟨u, by simp [e, hu], hr⟩
theorem wanted_of {a : Act} {o oj : Oper} {j d : Nat} {want : Bool} {u : Value} (hg : o.guard = some (j, want)) (hj : ops[j]? = some oj) (hd : oj.dst = some d) (hu : a.tmps[d]? = some u) :
    Region.wanted o (yielded ops.toArray a.tmps) = match u with | .bool b => b == want | _ => false := by
  simp only [Region.wanted, hg, yielded, List.getElem?_toArray, hj, Option.bind_some, hd, hu]
  cases u <;> simp
theorem step_at {Φ : Fence} (hΦ : Free Φ) {n : Nat} {ls : List (Nat × Oper)} {st : St} {tr : List Stp} {st2 : St} (hT : Tr P ops ls st tr st2) {l1 l2 : List Stp} {s : Stp} (he : tr = l1 ++ s :: l2)
    (hn1 : ∀ q ∈ l1, q.i ≠ s.i) (hn2 : ∀ q ∈ l2, q.i ≠ s.i) {L L' : Nat → Bool} (hL : L s.i = false) (hL' : L' = fun i => L i || i == s.i)
    (m1 : ∀ q ∈ l1, ∀ j, j ∈ s.sig.fp → j ∈ q.sig.md → L q.i = true) (m2 : ∀ q ∈ l2, ∀ j, (j ∈ s.sig.fp ∨ j ∈ s.sig.md) → j ∈ q.sig.md → L q.i = false)
    (r1 : ∀ q ∈ l1, ∀ t, q.o.dst = some t → t ∈ looks ops s.o → L q.i = true) (r2 : ∀ q ∈ l2, ∀ t, q.o.dst = some t → (t ∈ looks ops s.o ∨ s.o.dst = some t) → L q.i = false)
    {a : Act} {w : World} (inv : Inv d F O0 hs0 w0 tr st st2 L a w) {K : Act → World → Prop} {Q : Exit → Act → World → Prop}
    (hK : ∀ a' w', a'.defers = a.defers → Inv d F O0 hs0 w0 tr st st2 L' a' w' → K a' w') : wpOpIn Φ n P ops.toArray Q s.i K a w := by
  have hok := tr_ok hT s (by rw [he]; simp)
  obtain ⟨⟨hs, hw, hR, hf, hfe, hS⟩, hdef⟩ := inv
  have hmem : ∀ j, j ∈ s.sig.fp → ovl fm tr L (look st.blks) j = look s.bs j := fun j hj =>
    tr_mem hT he L j (fun q hq hb => m1 q hq j hj (fsts_iff.2 hb)) fun q hq hb => by
      rcases List.mem_cons.1 hq with rfl | hq
      · exact hL
      · exact m2 q hq j (.inl hj) (fsts_iff.2 hb)
  have hreg : ∀ t, t ∈ looks ops s.o → ovl fr tr L (fun t => st.regs[t]?) t = s.regs[t]? := fun t ht =>
    tr_reg hT he L t (fun q hq hd => r1 q hq t hd ht) fun q hq hd => by
      rcases List.mem_cons.1 hq with rfl | hq
      · exact hL
      · exact r2 q hq t hd (.inl ht)
  have hl1 : ∀ q ∈ l1, L' q.i = L q.i := fun q hq => by rw [hL']; simp [hn1 q hq]
  have hl2 : ∀ q ∈ l2, L' q.i = L q.i := fun q hq => by rw [hL']; simp [hn2 q hq]
  have hls : L' s.i = true := by rw [hL']; simp
  have hputm : ∀ j, ovl fm tr L' (look st.blks) j = (look s.pb j).or (ovl fm tr L (look st.blks) j) := fun j => by
    rw [he]
    exact ovl_put hl1 hl2 hL hls fun q hq hb hb' => m2 q hq j (.inr (fsts_iff.2 hb')) (fsts_iff.2 hb)
  have hputr : ∀ t, ovl fr tr L' (fun t => st.regs[t]?) t = (fr s t).or (ovl fr tr L (fun t => st.regs[t]?) t) := fun t => by
    rw [he]
    refine ovl_put hl1 hl2 hL hls fun q hq ⟨b, hb⟩ ⟨b', hb'⟩ => ?_
    have e1 : q.o.dst = some t := by unfold fr at hb; split at hb <;> simp_all
    have e2 : s.o.dst = some t := by unfold fr at hb'; split at hb' <;> simp_all
    exact r2 q hq t e1 (.inr e2)
  have hdsome : ∀ t, s.o.dst = some t → (ovl fr tr L (fun t => st.regs[t]?) t).isSome := fun t ht =>
    ovl_some _ _ _ (tr_some hT he t (by rw [List.getElem?_eq_getElem (hok.dst t ht)]; rfl))
  have hfr : ovl fr tr L' (fun t => st.regs[t]?) = fun t => (if s.o.dst = some t then some s.rv else none).or (ovl fr tr L (fun t => st.regs[t]?) t) := funext hputr
  have hin : ∀ q ∈ tr, L' q.i = false → q ∈ l1 ∨ q ∈ l2 := by
    intro q hq hqL
    rw [he] at hq
    rcases List.mem_append.1 hq with h | h
    · exact .inl h
    · rcases List.mem_cons.1 h with rfl | h
      · rw [hls] at hqL; cases hqL
      · exact .inr h
  have hLL : ∀ i, L' i = false → L i = false := fun i h => by rw [hL'] at h; simp at h; exact h.1
  obtain ⟨_, n2, n3⟩ := tr_nx hT
  obtain ⟨n3, n4⟩ := n3 he
  have hsnx : s.nx' ≤ st2.next := (n2 s (by rw [he]; simp)).2.2
  unfold wpOpIn
  rw [List.getElem?_toArray, hok.op]
  simp only
  cases hran : s.ran with
  | true =>
    obtain ⟨hgood, hguard⟩ := hok.on hran
    have hwant : Region.wanted s.o (yielded ops.toArray a.tmps) = true := by
      cases hg : s.o.guard with
      | none => simp [Region.wanted, hg]
      | some p =>
        obtain ⟨j, want⟩ := p
        obtain ⟨oj, d, h1, h2, h3⟩ := hguard j want hg
        have hd : d ∈ looks ops s.o := by simp [looks, hg, h1, h2]
        obtain ⟨u, hu, hru⟩ := hR d _ ((hreg d hd).trans h3)
        have := rel_v hru
        subst this
        rw [wanted_of hg h1 h2 hu]; simp
    rw [if_pos hwant]
    have hsub : Sub (look (s.pre ++ s.rd)) (ovl fm tr L (look st.blks)) := by
      intro j b hj
      rw [hmem j ?_]
      · exact hgood.sub j b hj
      · have : j ∈ fsts (s.pre ++ s.rd) := fsts_iff.2 ⟨b, hj⟩
        rw [fsts_iff, look_append] at this
        obtain ⟨b', hb'⟩ := this
        show j ∈ fsts s.pre ++ fsts s.rd
        rw [List.mem_append, fsts_iff, fsts_iff]
        cases hp : look s.pre j with
        | some c => exact .inl ⟨c, rfl⟩
        | none => rw [hp] at hb'; exact .inr ⟨b', hb'⟩
    have hjoin : joinM (ovl fm tr L (look st.blks)) (look (s.pre ++ s.rd)) (look (s.pb ++ s.rd)) = ovl fm tr L' (look st.blks) := by
      funext j
      rw [hputm]
      unfold joinM
      rw [look_append, look_append]
      cases hpb : look s.pb j with
      | some b => simp
      | none =>
        have hpre : look s.pre j = none := by
          cases hp : look s.pre j with
          | none => rfl
          | some c =>
            have := subN_iff.1 hok.sub j (fsts_iff.2 ⟨c, hp⟩)
            obtain ⟨b, hb⟩ := fsts_iff.1 this
            rw [hpb] at hb; cases hb
        rw [hpre]
        simp only [Option.none_or]
        cases hrd : look s.rd j with
        | some b => exact (hsub j b (by rw [look_append, hpre, hrd]; rfl)).symm
        | none => rfl
    refine (oper_wp hΦ hgood hsub hw hR (fun x hx v hv => ?_) (fun j h1 h2 => hf s (by rw [he]; simp) hL j h1 h2) hS fun v w' hs' g1 g2 g3 g4 g5 g6 => hK _ _ (put_defers ..) ⟨⟨hs', ?_⟩, by rw [put_defers]; exact hdef.mono (Nat.le_refl _) (fr_deferred hw g6)⟩)
    · cases x with
      | tmp t =>
        show ovl fr tr L _ t = some v
        rw [hreg t ?_]
        · exact hv
        · exact List.mem_append.2 (.inl (tmpsOf_mem (by simpa using hx)))
      | const c => exact hv
      | func f => exact hv
      | global g => exact hv.elim
    · rw [hjoin] at g1 g2 g3 g5
      refine ⟨g2, ?_, ?_, ?_, g5⟩
      · rw [hfr]
        exact regs_put g3 g1 hdsome
      · intro q hq hqL j h1 h2
        rw [g4 j ?_]
        · exact hf q hq (hLL _ hqL) j h1 h2
        · rcases hin q hq hqL with h | h
          · have := n3 q h; omega
          · have := n4 q h; omega
      · intro j hj
        rw [g4 j (by omega)]
        exact hfe j hj
  | false =>
    obtain ⟨e1, e2, e3, e4, e5, j, want, oj, d, r, hg, h1, h2, h3, h4⟩ := hok.off hran
    have hd : d ∈ looks ops s.o := by simp [looks, hg, h1, h2]
    obtain ⟨u, hu, hru⟩ := hR d _ ((hreg d hd).trans h3)
    have hwant : Region.wanted s.o (yielded ops.toArray a.tmps) = false := by
      rw [wanted_of hg h1 h2 hu]
      rcases h4 with rfl | rfl
      · have : u = undef := hru
        subst this
        rfl
      · have := rel_v hru
        subst this
        cases want <;> rfl
    rw [hwant]
    simp only [Bool.false_eq_true, if_false]
    have hmm : ovl fm tr L' (look st.blks) = ovl fm tr L (look st.blks) := by
      funext j
      rw [hputm, e4]
      simp [look]
    refine ⟨fun f _ => hΦ.fn f, hK _ _ (put_defers ..) ⟨⟨hs, ?_⟩, by rw [put_defers]; exact hdef⟩⟩
    rw [hmm]
    refine ⟨hw, ?_, fun q hq hqL => hf q hq (hLL _ hqL), hfe, hS⟩
    rw [hfr, e1]
    exact regs_put hR rfl hdsome
end
end Go.Eng
namespace Go.Eng
open Go
def deps (o : Oper) : List Nat := go o.after.toList
where
  go : List Edge → List Nat
    | [] => []
    | e :: l => match Region.binds .any e with
      | true => e.on :: go l
      | false => go l
structure Ent where
  s : Sig
  o : Oper
  an : List Nat
def dstL (o : Oper) : List Nat :=
  match o.dst with
  | some d => [d]
  | none => []
/-- May q and s not change places? -/
def confl (ops : List Oper) (q s : Sig) (oq os : Oper) : Bool :=
  meetN (dstL oq) (looks ops os) || meetN (dstL os) (looks ops oq) || meetN (dstL oq) (dstL os) || meetN q.md s.fp || meetN q.fp s.md || meetN q.md s.md
def addN : List Nat → List Nat → List Nat
  | [], m => m
  | x :: l, m => match memN x m with
    | true => addN l m
    | false => addN l (x :: m)
def ancOf (ds : List Nat) : List Ent → List Nat
  | [] => []
  | t :: T => match memN t.s.i ds with
    | true => addN t.an (ancOf ds T)
    | false => ancOf ds T
def idx : List Ent → List Nat
  | [] => []
  | t :: T => t.s.i :: idx T
def apartT (ops : List Oper) (s : Sig) (o : Oper) (an : List Nat) : List Ent → Bool
  | [] => true
  | t :: T => (match memN t.s.i an with
    | true => true
    | false => !confl ops t.s s t.o o) && apartT ops s o an T
def chk (ops : List Oper) : List Sig → List Ent → Bool
  | [], _ => true
  | s :: l, T => match ops[s.i]? with
    | none => false
    | some o =>
      let an := addN (deps o) (ancOf (deps o) T)
      subN (deps o) (idx T) && !memN s.i (idx T) && apartT ops s o an T && chk ops l (⟨s, o, an⟩ :: T)
def covN : Nat → List Nat → Bool
  | 0, _ => true
  | n + 1, l => memN n l && covN n l
def Sig.is : List Sig → List Nat
  | [] => []
  | s :: l => s.i :: Sig.is l
/-- Any order does. -/
def anyB (ops : List Oper) (sg : List Sig) : Bool := chk ops sg [] && covN ops.length (Sig.is sg) && Nat.ble sg.length ops.length
theorem addN_mem {x : Nat} : ∀ {l m : List Nat}, x ∈ addN l m → x ∈ l ∨ x ∈ m
  | [], m, h => .inr h
  | y :: l, m, h => by
    unfold addN at h
    split at h
    · rcases addN_mem h with h | h
      · exact .inl (List.mem_cons_of_mem _ h)
      · exact .inr h
    · rcases addN_mem h with h | h
      · exact .inl (List.mem_cons_of_mem _ h)
      · rcases List.mem_cons.1 h with rfl | h
        · exact .inl (List.mem_cons_self ..)
        · exact .inr h
theorem idx_mem {i : Nat} : ∀ {T : List Ent}, i ∈ idx T ↔ ∃ t ∈ T, t.s.i = i
  | [] => by simp [idx]
  | t :: T => by
    simp only [idx, List.mem_cons, idx_mem]
    constructor
    · rintro (rfl | ⟨u, hu, rfl⟩)
      · exact ⟨t, .inl rfl, rfl⟩
      · exact ⟨u, .inr hu, rfl⟩
    · rintro ⟨u, rfl | hu, rfl⟩
      · exact .inl rfl
      · exact .inr ⟨u, hu, rfl⟩
theorem ancOf_mem {ds : List Nat} {x : Nat} : ∀ {T : List Ent}, x ∈ ancOf ds T → ∃ t ∈ T, t.s.i ∈ ds ∧ x ∈ t.an
  | [], h => by cases h
  | t :: T, h => by
    unfold ancOf at h
    split at h
    · rename_i hm
      rcases addN_mem h with h | h
      · exact ⟨t, List.mem_cons_self .., memN_iff.1 hm, h⟩
      · obtain ⟨u, h1, h2⟩ := ancOf_mem h
        exact ⟨u, List.mem_cons_of_mem _ h1, h2⟩
    · obtain ⟨u, h1, h2⟩ := ancOf_mem h
      exact ⟨u, List.mem_cons_of_mem _ h1, h2⟩
theorem apartT_spec {ops : List Oper} {s : Sig} {o : Oper} {an : List Nat} : ∀ {T : List Ent}, apartT ops s o an T = true → ∀ t ∈ T, confl ops t.s s t.o o = true → t.s.i ∈ an
  | [], _, t, h, _ => by cases h
  | u :: T, h, t, ht, hc => by
    unfold apartT at h
    rw [Bool.and_eq_true] at h
    rcases List.mem_cons.1 ht with rfl | ht
    · have h := h.1
      split at h
      · rename_i hm; exact memN_iff.1 hm
      · rw [hc] at h; cases h
    · exact apartT_spec h.2 t ht hc
/-- L lists no operation ahead of one that it waits for. -/
def Closed (ops : List Oper) (L : Nat → Bool) : Prop := ∀ i o, ops[i]? = some o → L i = true → ∀ d ∈ deps o, L d = true
structure EntOK (ops : List Oper) (t : Ent) : Prop where
  op : ops[t.s.i]? = some t.o
  an : ∀ L, Closed ops L → (∀ d ∈ deps t.o, L d = true) → ∀ x ∈ t.an, L x = true
theorem chk_spec {ops : List Oper} : ∀ (l : List Sig) (T : List Ent), chk ops l T = true → (∀ t ∈ T, EntOK ops t) → ∀ {l1 l2 : List Sig} {s : Sig}, l = l1 ++ s :: l2 → ∃ o, ops[s.i]? = some o ∧
    (∀ d ∈ deps o, d ∈ idx T ∨ ∃ q ∈ l1, q.i = d) ∧ (∀ t ∈ T, t.s.i ≠ s.i) ∧ (∀ q ∈ l1, q.i ≠ s.i) ∧
    (∀ t ∈ T, confl ops t.s s t.o o = true → ∀ L, Closed ops L → (∀ d ∈ deps o, L d = true) → L t.s.i = true) ∧
    (∀ q ∈ l1, ∀ oq, ops[q.i]? = some oq → confl ops q s oq o = true → ∀ L, Closed ops L → (∀ d ∈ deps o, L d = true) → L q.i = true)
  | [], _, _, _, l1, l2, s, e => by cases l1 <;> cases e
  | s0 :: l, T, h, hT, l1, l2, s, e => by
    unfold chk at h
    split at h
    case h_1 => cases h
    rename_i o0 ho0
    simp only [Bool.and_eq_true, Bool.not_eq_true'] at h
    obtain ⟨⟨⟨h1, h2⟩, h3⟩, h4⟩ := h
    have han : ∀ L, Closed ops L → (∀ d ∈ deps o0, L d = true) → ∀ x ∈ addN (deps o0) (ancOf (deps o0) T), L x = true := by
      intro L hL hd x hx
      rcases addN_mem hx with hx | hx
      · exact hd x hx
      · obtain ⟨t, h5, h6, h7⟩ := ancOf_mem hx
        exact (hT t h5).an L hL (hL _ _ (hT t h5).op (hd _ h6)) x h7
    cases l1 with
    | nil =>
      cases e
      refine ⟨o0, ho0, fun d hd => .inl (subN_iff.1 h1 d hd), fun t ht he => ?_, fun q hq => (by cases hq), fun t ht hc L hL hd => han L hL hd _ (apartT_spec h3 t ht hc), fun q hq => by cases hq⟩
      have : memN s0.i (idx T) = true := memN_iff.2 (idx_mem.2 ⟨t, ht, he⟩)
      rw [this] at h2; cases h2
    | cons q l1 =>
      cases e
      obtain ⟨o, g1, g2, g3, g4, g5, g6⟩ := chk_spec _ _ h4 (fun t ht => by
        rcases List.mem_cons.1 ht with rfl | ht
        · exact ⟨ho0, han⟩
        · exact hT t ht) rfl
      refine ⟨o, g1, fun d hd => ?_, fun t ht => g3 t (List.mem_cons_of_mem _ ht), fun q hq => ?_, fun t ht => g5 t (List.mem_cons_of_mem _ ht), fun q hq oq hoq hc => ?_⟩
      · rcases g2 d hd with h | ⟨q, hq, rfl⟩
        · simp only [idx, List.mem_cons] at h
          rcases h with rfl | h
          · exact .inr ⟨s0, List.mem_cons_self .., rfl⟩
          · exact .inl h
        · exact .inr ⟨q, List.mem_cons_of_mem _ hq, rfl⟩
      · rcases List.mem_cons.1 hq with rfl | hq
        · exact g3 _ (List.mem_cons_self ..)
        · exact g4 q hq
      · rcases List.mem_cons.1 hq with rfl | hq
        · rw [ho0] at hoq; cases hoq
          exact g5 _ (List.mem_cons_self ..) hc
        · exact g6 q hq oq hoq hc
theorem covN_spec {l : List Nat} : ∀ {n : Nat}, covN n l = true → ∀ i, i < n → i ∈ l
  | 0, _, i, h => by omega
  | n + 1, h, i, hi => by
    simp only [covN, Bool.and_eq_true] at h
    by_cases e : i = n
    · subst e; exact memN_iff.1 h.1
    · exact covN_spec h.2 i (by omega)
theorem is_mem {i : Nat} : ∀ {l : List Sig}, i ∈ Sig.is l ↔ ∃ s ∈ l, s.i = i
  | [] => by simp [Sig.is]
  | t :: T => by
    simp only [Sig.is, List.mem_cons, is_mem]
    constructor
    · rintro (rfl | ⟨u, hu, rfl⟩)
      · exact ⟨t, .inl rfl, rfl⟩
      · exact ⟨u, .inr hu, rfl⟩
    · rintro ⟨u, rfl | hu, rfl⟩
      · exact .inl rfl
      · exact .inr ⟨u, hu, rfl⟩
theorem deps_mem {o : Oper} {e : Edge} (he : e ∈ o.after) (hb : Region.binds .any e = true) : e.on ∈ deps o := by
  have key : ∀ l : List Edge, e ∈ l → e.on ∈ deps.go l := by
    intro l
    induction l with
    | nil => intro h; cases h
    | cons x l ih =>
      intro h
      unfold deps.go
      rcases List.mem_cons.1 h with rfl | h
      · rw [hb]; exact List.mem_cons_self ..
      · split
        · exact List.mem_cons_of_mem _ (ih h)
        · exact ih h
  exact key _ (by simpa using he)
theorem deps_of {o : Oper} {d : Nat} (h : d ∈ deps o) : ∃ e ∈ o.after, Region.binds .any e = true ∧ e.on = d := by
  have key : ∀ l : List Edge, d ∈ deps.go l → ∃ e ∈ l, Region.binds .any e = true ∧ e.on = d := by
    intro l
    induction l with
    | nil => intro h; cases h
    | cons x l ih =>
      intro h
      unfold deps.go at h
      split at h
      · rename_i hb
        rcases List.mem_cons.1 h with rfl | h
        · exact ⟨x, List.mem_cons_self .., hb, rfl⟩
        · obtain ⟨e, h1, h2⟩ := ih h
          exact ⟨e, List.mem_cons_of_mem _ h1, h2⟩
      · obtain ⟨e, h1, h2⟩ := ih h
        exact ⟨e, List.mem_cons_of_mem _ h1, h2⟩
  obtain ⟨e, h1, h2⟩ := key _ h
  exact ⟨e, by simpa using h1, h2⟩
/-- What a state of the abstract machine stands for, since the beginning. -/
structure RepS (d : Dfr) (F : Nat → Prop) (O0 : Nat → Prop) (hs0 : Names) (w0 : World) (st : St) (a : Act) (w : World) : Prop where
  ex : ∃ hs : Names, WRep F hs (look st.blks) w ∧ Regs (Osum F hs (look st.blks)) w hs (fun t => st.regs[t]?) a.tmps ∧ (∀ j, st.next ≤ j → hs j = none) ∧ Since O0 hs0 w0 hs (look st.blks) w
  defers : DOK d a.defers w
section
variable {d : Dfr} {P : Program} {ops : List Oper} {F : Nat → Prop} {O0 : Nat → Prop} {hs0 : Names} {w0 : World}
theorem RepS.lt {st : St} {a : Act} {w : World} (h : RepS d F O0 hs0 w0 st a w) : ∀ j b, look st.blks j = some b → j < st.next := by
  intro j b hj
  obtain ⟨⟨hs, hw, _, hf, _⟩, _⟩ := h
  obtain ⟨u, hu, _⟩ := hw.blk j b hj
  rcases Nat.lt_or_ge j st.next with h | h
  · exact h
  · rw [hf j h] at hu; cases hu
theorem inv_start {ls : List (Nat × Oper)} {st : St} {tr : List Stp} {st2 : St} (hT : Tr P ops ls st tr st2) {L : Nat → Bool} (hL : ∀ q ∈ tr, L q.i = false) {a : Act} {w : World} (h : RepS d F O0 hs0 w0 st a w) :
    Inv d F O0 hs0 w0 tr st st2 L a w := by
  obtain ⟨⟨hs, hw, hR, hf, hS⟩, hd⟩ := h
  have e1 : ovl fm tr L (look st.blks) = look st.blks := funext fun j => ovl_none _ _ _ fun q hq _ => hL q hq
  have e2 : ovl fr tr L (fun t => st.regs[t]?) = fun t => st.regs[t]? := funext fun j => ovl_none _ _ _ fun q hq _ => hL q hq
  refine ⟨⟨hs, ?_⟩, hd⟩
  rw [e1, e2]
  have hn := tr_nx hT
  exact ⟨hw, hR, fun q hq _ j h1 _ => hf j (Nat.le_trans (hn.2.1 q hq).1 h1), fun j hj => hf j (Nat.le_trans hn.1 hj), hS⟩
theorem inv_end {ls : List (Nat × Oper)} {st : St} {tr : List Stp} {st2 : St} (hT : Tr P ops ls st tr st2) {L : Nat → Bool} (hL : ∀ q ∈ tr, L q.i = true) {a : Act} {w : World}
    (h : Inv d F O0 hs0 w0 tr st st2 L a w) : RepS d F O0 hs0 w0 st2 a w := by
  obtain ⟨⟨hs, hw, hR, _, hf, hS⟩, hd⟩ := h
  obtain ⟨a1, a2⟩ := tr_end hT L hL
  have e1 : ovl fm tr L (look st.blks) = look st2.blks := funext a1
  have e2 : ovl fr tr L (fun t => st.regs[t]?) = fun t => st2.regs[t]? := funext a2
  rw [e1] at hw hR hS
  rw [e2] at hR
  exact ⟨⟨hs, hw, hR, hf, hS⟩, hd⟩
/-- In the order of the text. -/
theorem text_wp {Φ : Fence} (hΦ : Free Φ) {n : Nat} {ls : List (Nat × Oper)} {st : St} {tr : List Stp} {st2 : St} (hT : Tr P ops ls st tr st2) (hnd : (tr.map Stp.i).Nodup) {Q : Exit → Act → World → Prop} {D : List Deferred}
    (hQ : ∀ a w, a.defers = D → RepS d F O0 hs0 w0 st2 a w → Q .normal a w) : ∀ (l2 l1 : List Stp), tr = l1 ++ l2 → ∀ (L : Nat → Bool), (∀ q ∈ l1, L q.i = true) → (∀ q ∈ l2, L q.i = false) →
    ∀ a w, a.defers = D → Inv d F O0 hs0 w0 tr st st2 L a w → wpOpsIn Φ n P ops.toArray Q (l2.map Stp.i) a w
  | [], l1, e, L, h1, h2, a, w, hD, inv => by
    simp only [List.map_nil, wpOpsIn]
    exact hQ a w hD (inv_end hT (by rw [e, List.append_nil]; exact h1) inv)
  | s :: l2, l1, e, L, h1, h2, a, w, hD, inv => by
    rw [List.map_cons, wpOpsIn_cons]
    have hnd' := hnd
    rw [e, List.map_append, List.map_cons, List.nodup_append] at hnd'
    obtain ⟨_, hn2, hn3⟩ := hnd'
    rw [List.nodup_cons] at hn2
    have hn1 : ∀ q ∈ l1, q.i ≠ s.i := fun q hq h => hn3 q.i (List.mem_map.2 ⟨q, hq, rfl⟩) s.i (by simp) h
    have hn2' : ∀ q ∈ l2, q.i ≠ s.i := fun q hq h => hn2.1 (List.mem_map.2 ⟨q, hq, h⟩)
    refine step_at hΦ hT e hn1 hn2' (h2 s (List.mem_cons_self ..)) rfl (fun q hq _ _ _ => h1 q hq) (fun q hq _ _ _ => h2 q (List.mem_cons_of_mem _ hq)) (fun q hq _ _ _ => h1 q hq)
      (fun q hq _ _ _ => h2 q (List.mem_cons_of_mem _ hq)) inv fun a' w' hD' inv' => ?_
    refine text_wp hΦ hT hnd hQ l2 (l1 ++ [s]) (by simp [e]) _ (fun q hq => ?_) (fun q hq => ?_) a' w' (hD'.trans hD) inv'
    · rcases List.mem_append.1 hq with h | h
      · simp [h1 q h]
      · simp at h; simp [h]
    · simp [h2 q (List.mem_cons_of_mem _ hq), hn2' q hq]
/-- In any order. -/
theorem any_wp {Φ : Fence} (hΦ : Free Φ) {n : Nat} {ls : List (Nat × Oper)} {st : St} {tr : List Stp} {st2 : St} (hT : Tr P ops ls st tr st2) (hB : anyB ops (tr.map Stp.sig) = true) {Q : Exit → Act → World → Prop}
    (hQ : ∀ a w, RepS d F O0 hs0 w0 st2 a w → Q .normal a w) : ∀ (fuel : Nat) (listed : Array Bool), listed.size = ops.length → (tr.filter fun s => !(listed.getD s.i false)).length ≤ fuel →
    Closed ops (fun i => listed.getD i false) → ∀ a w, Inv d F O0 hs0 w0 tr st st2 (fun i => listed.getD i false) a w → wpAnyIn Φ n P .any ops.toArray Q fuel listed a w := by
  simp only [anyB, Bool.and_eq_true] at hB
  obtain ⟨⟨hchk, hcov⟩, _⟩ := hB
  have hall : ∀ i, i < ops.length → ∃ s ∈ tr, s.i = i := by
    intro i hi
    obtain ⟨sg, h1, h2⟩ := is_mem.1 (covN_spec hcov i hi)
    obtain ⟨s, hs, rfl⟩ := List.mem_map.1 h1
    exact ⟨s, hs, h2⟩
  have hspec : ∀ {l1 l2 : List Stp} {s : Stp}, tr = l1 ++ s :: l2 → ops[s.i]? = some s.o ∧ (∀ d ∈ deps s.o, ∃ q ∈ l1, q.i = d) ∧ (∀ q ∈ l1, q.i ≠ s.i) ∧
      (∀ q ∈ l1, confl ops q.sig s.sig q.o s.o = true → ∀ L, Closed ops L → (∀ d ∈ deps s.o, L d = true) → L q.i = true) := by
    intro l1 l2 s e
    have hok := tr_ok hT s (by rw [e]; simp)
    obtain ⟨o, g1, g2, g3, g4, g5, g6⟩ := chk_spec _ _ hchk (fun t ht => by cases ht) (l1 := l1.map Stp.sig) (l2 := l2.map Stp.sig) (s := s.sig) (by rw [e]; simp)
    have : o = s.o := by
      have h1 : ops[s.i]? = some o := g1
      rw [hok.op] at h1; exact (Option.some.inj h1).symm
    subst this
    refine ⟨hok.op, fun d hd => ?_, fun q hq => g4 _ (List.mem_map.2 ⟨q, hq, rfl⟩), fun q hq hc => g6 _ (List.mem_map.2 ⟨q, hq, rfl⟩) _ (tr_ok hT q (by rw [e]; simp [hq])).op hc⟩
    rcases g2 d hd with h | ⟨sg, h1, h2⟩
    · cases h
    · obtain ⟨q, hq, rfl⟩ := List.mem_map.1 h1
      exact ⟨q, hq, h2⟩
  -- nothing can come up: all have
  have hdone : ∀ listed : Array Bool, listed.size = ops.length → Region.ready .any ops.toArray listed = [] → ∀ q ∈ tr, listed.getD q.i false = true := by
    intro listed hsz hr
    have key : ∀ (l2 l1 : List Stp), tr = l1 ++ l2 → (∀ q ∈ l1, listed.getD q.i false = true) → ∀ q ∈ l2, listed.getD q.i false = true := by
      intro l2
      induction l2 with
      | nil => intro l1 _ _ q hq; cases hq
      | cons s l2 ih =>
        intro l1 e h1
        have hs : listed.getD s.i false = true := by
          obtain ⟨k1, k2, _, _⟩ := hspec e
          cases hl : listed.getD s.i false with
          | true => rfl
          | false =>
            have hlt : s.i < listed.size := by rw [hsz]; exact (List.getElem?_eq_some_iff.1 k1).1
            have : s.i ∈ Region.ready .any ops.toArray listed := by
              rw [mem_ready]
              refine ⟨?_, s.o, by rw [List.getElem?_toArray]; exact k1, fun ed hed hb => ?_⟩
              · rw [Array.getD_eq_getD_getElem?, Array.getElem?_eq_getElem hlt] at hl ⊢
                exact hl
              · obtain ⟨q, hq, hqe⟩ := k2 _ (deps_mem hed hb)
                rw [← hqe]; exact h1 q hq
            rw [hr] at this; cases this
        intro q hq
        rcases List.mem_cons.1 hq with rfl | hq
        · exact hs
        · refine ih (l1 ++ [s]) (by simp [e]) (fun q hq => ?_) q hq
          rcases List.mem_append.1 hq with h | h
          · exact h1 q h
          · simp at h; rw [h]; exact hs
    exact key tr [] rfl fun q hq => by cases hq
  intro fuel
  induction fuel with
  | zero =>
    intro listed hsz hfu hcl a w inv
    have hl : ∀ q ∈ tr, listed.getD q.i false = true := by
      intro q hq
      have := List.eq_nil_of_length_eq_zero (Nat.le_zero.1 hfu)
      rw [List.filter_eq_nil_iff] at this
      simpa using this q hq
    refine ⟨?_, hQ a w (inv_end hT hl inv)⟩
    rw [List.eq_nil_iff_forall_not_mem]
    intro i hi
    rw [mem_ready] at hi
    obtain ⟨h1, o, h2, _⟩ := hi
    rw [List.getElem?_toArray] at h2
    have hlt := (List.getElem?_eq_some_iff.1 h2).1
    obtain ⟨s, hs, rfl⟩ := hall i hlt
    have h3 := hl s hs
    rw [Array.getD_eq_getD_getElem?, Array.getElem?_eq_getElem (by omega)] at h1 h3
    simp only [Option.getD_some] at h1 h3
    rw [h1] at h3; cases h3
  | succ fuel ih =>
    intro listed hsz hfu hcl a w inv
    refine ⟨fun hr => hQ a w (inv_end hT (hdone listed hsz hr) inv), fun i hi => ?_⟩
    rw [mem_ready] at hi
    obtain ⟨h1, o, h2, h3⟩ := hi
    rw [List.getElem?_toArray] at h2
    have hlt := (List.getElem?_eq_some_iff.1 h2).1
    obtain ⟨s, hs, rfl⟩ := hall i hlt
    obtain ⟨l1, l2, e⟩ := List.append_of_mem hs
    obtain ⟨k1, k2, k3, k4⟩ := hspec e
    rw [k1] at h2; cases h2
    have hLs : listed.getD s.i false = false := by
      rw [Array.getD_eq_getD_getElem?, Array.getElem?_eq_getElem (by omega)] at h1 ⊢
      exact h1
    have hready : ∀ d ∈ deps s.o, listed.getD d false = true := by
      intro d hd
      obtain ⟨ed, g1, g2, rfl⟩ := deps_of hd
      exact h3 ed g1 g2
    have kn2 : ∀ q ∈ l2, q.i ≠ s.i := by
      intro q hq
      obtain ⟨m1, m2, rfl⟩ := List.append_of_mem hq
      have := (hspec (l1 := l1 ++ s :: m1) (l2 := m2) (s := q) (by rw [e]; simp)).2.2.1 s (by simp)
      exact fun h => this h.symm
    have k5 : ∀ q ∈ l1, confl ops q.sig s.sig q.o s.o = true → listed.getD q.i false = true := fun q hq hc => k4 q hq hc _ hcl hready
    have k6 : ∀ q ∈ l2, confl ops s.sig q.sig s.o q.o = true → listed.getD q.i false = false := by
      intro q hq hc
      obtain ⟨m1, m2, rfl⟩ := List.append_of_mem hq
      obtain ⟨j1, _, _, j4⟩ := hspec (l1 := l1 ++ s :: m1) (l2 := m2) (s := q) (by rw [e]; simp)
      cases hl : listed.getD q.i false with
      | false => rfl
      | true =>
        have := j4 s (by simp) hc _ hcl (hcl _ _ j1 hl)
        rw [hLs] at this; cases this
    have hL' : (fun i => (listed.setIfInBounds s.i true).getD i false) = fun i => listed.getD i false || i == s.i := by
      funext i
      simp only [Array.getD_eq_getD_getElem?, Array.getElem?_setIfInBounds]
      by_cases hi : s.i = i
      · subst hi
        simp [show s.i < listed.size by omega]
      · have : (i == s.i) = false := by simp; exact fun h => hi h.symm
        simp [hi, this]
    refine step_at hΦ hT e k3 kn2 hLs hL' (fun q hq j hj hj' => k5 q hq ?_) (fun q hq j hj hj' => k6 q hq ?_) (fun q hq t ht ht' => k5 q hq ?_) (fun q hq t ht ht' => k6 q hq ?_) inv fun a' w' _ inv' => ?_
    · have : meetN q.sig.md s.sig.fp = true := meetN_iff.2 ⟨j, hj', hj⟩
      simp [confl, this]
    · rcases hj with hj | hj
      · have : meetN s.sig.fp q.sig.md = true := meetN_iff.2 ⟨j, hj, hj'⟩
        simp [confl, this]
      · have : meetN s.sig.md q.sig.md = true := meetN_iff.2 ⟨j, hj, hj'⟩
        simp [confl, this]
    · have : meetN (dstL q.o) (looks ops s.o) = true := meetN_iff.2 ⟨t, by simp [dstL, ht], ht'⟩
      simp [confl, this]
    · rcases ht' with ht' | ht'
      · have : meetN (dstL q.o) (looks ops s.o) = true := meetN_iff.2 ⟨t, by simp [dstL, ht], ht'⟩
        simp [confl, this]
      · have : meetN (dstL s.o) (dstL q.o) = true := meetN_iff.2 ⟨t, by simp [dstL, ht'], by simp [dstL, ht]⟩
        simp [confl, this]
    · refine ih (listed.setIfInBounds s.i true) (by simpa using hsz) ?_ ?_ a' w' ?_
      · have hlt2 : (tr.filter fun q => !((listed.setIfInBounds s.i true).getD q.i false)).length < (tr.filter fun q => !(listed.getD q.i false)).length := by
          have e0 : ∀ q : Stp, (listed.setIfInBounds s.i true).getD q.i false = (listed.getD q.i false || q.i == s.i) := fun q => congrFun hL' q.i
          rw [e]
          simp only [List.filter_append, List.filter_cons, List.length_append, e0, hLs]
          simp only [Bool.false_or, beq_self_eq_true, Bool.not_true, Bool.not_false, if_true, Bool.false_eq_true, if_false, List.length_cons]
          have mono : ∀ l : List Stp, (l.filter fun q => !(listed.getD q.i false || q.i == s.i)).length ≤ (l.filter fun q => !(listed.getD q.i false)).length := by
            intro l
            rw [← List.countP_eq_length_filter, ← List.countP_eq_length_filter]
            refine List.countP_mono_left fun x _ hx => ?_
            cases hl : listed.getD x.i false with
            | false => rfl
            | true => rw [hl] at hx; cases hx
          have a1 := mono l1
          have a2 := mono l2
          omega
        omega
      · intro i o ho hi d hd
        have hi : (fun i => (listed.setIfInBounds s.i true).getD i false) i = true := hi
        show (fun i => (listed.setIfInBounds s.i true).getD i false) d = true
        rw [hL'] at hi ⊢
        simp only [Bool.or_eq_true, beq_iff_eq] at hi ⊢
        rcases hi with hi | rfl
        · exact .inl (hcl i o ho hi d hd)
        · rw [k1] at ho; cases ho
          exact .inl (hready d hd)
      · exact inv'
/-- In any order, up to the last operation, which all others are ahead of. -/
theorem any_wpP {Φ : Fence} (hΦ : Free Φ) {n : Nat} {ls : List (Nat × Oper)} {st : St} {tr : List Stp} {st2 : St} (hT : Tr P ops ls st tr st2) {N : Nat} {ol : Oper} (hN : ops.length = N + 1) (hlast : ops[N]? = some ol)
    (hchk : chk ops (tr.map Stp.sig) [] = true) (hcov : covN N (Sig.is (tr.map Stp.sig)) = true) (htr : ∀ s ∈ tr, s.i < N) (hdl : ∀ d ∈ deps ol, d < N)
    (hdeps : ∀ L, Closed ops L → (∀ d ∈ deps ol, L d = true) → ∀ i, i < N → L i = true) {Q : Exit → Act → World → Prop}
    (hQ : ∀ a w K, RepS d F O0 hs0 w0 st2 a w → wpOpIn Φ n P ops.toArray Q N K a w) : ∀ (fuel : Nat) (listed : Array Bool), listed.size = ops.length → listed.getD N false = false →
    (tr.filter fun s => !(listed.getD s.i false)).length + 1 ≤ fuel →
    Closed ops (fun i => listed.getD i false) → ∀ a w, Inv d F O0 hs0 w0 tr st st2 (fun i => listed.getD i false) a w → wpAnyIn Φ n P .any ops.toArray Q fuel listed a w := by
  have hall : ∀ i, i < N → ∃ s ∈ tr, s.i = i := by
    intro i hi
    obtain ⟨sg, h1, h2⟩ := is_mem.1 (covN_spec hcov i hi)
    obtain ⟨s, hs, rfl⟩ := List.mem_map.1 h1
    exact ⟨s, hs, h2⟩
  have hspec : ∀ {l1 l2 : List Stp} {s : Stp}, tr = l1 ++ s :: l2 → ops[s.i]? = some s.o ∧ (∀ d ∈ deps s.o, ∃ q ∈ l1, q.i = d) ∧ (∀ q ∈ l1, q.i ≠ s.i) ∧
      (∀ q ∈ l1, confl ops q.sig s.sig q.o s.o = true → ∀ L, Closed ops L → (∀ d ∈ deps s.o, L d = true) → L q.i = true) := by
    intro l1 l2 s e
    have hok := tr_ok hT s (by rw [e]; simp)
    obtain ⟨o, g1, g2, g3, g4, g5, g6⟩ := chk_spec _ _ hchk (fun t ht => by cases ht) (l1 := l1.map Stp.sig) (l2 := l2.map Stp.sig) (s := s.sig) (by rw [e]; simp)
    have : o = s.o := by
      have h1 : ops[s.i]? = some o := g1
      rw [hok.op] at h1; exact (Option.some.inj h1).symm
    subst this
    refine ⟨hok.op, fun d hd => ?_, fun q hq => g4 _ (List.mem_map.2 ⟨q, hq, rfl⟩), fun q hq hc => g6 _ (List.mem_map.2 ⟨q, hq, rfl⟩) _ (tr_ok hT q (by rw [e]; simp [hq])).op hc⟩
    rcases g2 d hd with h | ⟨sg, h1, h2⟩
    · cases h
    · obtain ⟨q, hq, rfl⟩ := List.mem_map.1 h1
      exact ⟨q, hq, h2⟩
  -- nothing can come up: all have
  have hdone : ∀ listed : Array Bool, listed.size = ops.length → Region.ready .any ops.toArray listed = [] → ∀ q ∈ tr, listed.getD q.i false = true := by
    intro listed hsz hr
    have key : ∀ (l2 l1 : List Stp), tr = l1 ++ l2 → (∀ q ∈ l1, listed.getD q.i false = true) → ∀ q ∈ l2, listed.getD q.i false = true := by
      intro l2
      induction l2 with
      | nil => intro l1 _ _ q hq; cases hq
      | cons s l2 ih =>
        intro l1 e h1
        have hs : listed.getD s.i false = true := by
          obtain ⟨k1, k2, _, _⟩ := hspec e
          cases hl : listed.getD s.i false with
          | true => rfl
          | false =>
            have hlt : s.i < listed.size := by rw [hsz]; exact (List.getElem?_eq_some_iff.1 k1).1
            have : s.i ∈ Region.ready .any ops.toArray listed := by
              rw [mem_ready]
              refine ⟨?_, s.o, by rw [List.getElem?_toArray]; exact k1, fun ed hed hb => ?_⟩
              · rw [Array.getD_eq_getD_getElem?, Array.getElem?_eq_getElem hlt] at hl ⊢
                exact hl
              · obtain ⟨q, hq, hqe⟩ := k2 _ (deps_mem hed hb)
                rw [← hqe]; exact h1 q hq
            rw [hr] at this; cases this
        intro q hq
        rcases List.mem_cons.1 hq with rfl | hq
        · exact hs
        · refine ih (l1 ++ [s]) (by simp [e]) (fun q hq => ?_) q hq
          rcases List.mem_append.1 hq with h | h
          · exact h1 q h
          · simp at h; rw [h]; exact hs
    exact key tr [] rfl fun q hq => by cases hq
  intro fuel
  induction fuel with
  | zero => intro listed _ _ hfu; omega
  | succ fuel ih =>
    intro listed hsz hlN hfu hcl a w inv
    refine ⟨fun hr => ?_, fun i hi => ?_⟩
    · exfalso
      have hd := hdone listed hsz hr
      have hall2 : ∀ i, i < N → listed.getD i false = true := fun i hi => by
        obtain ⟨s, hs, rfl⟩ := hall i hi
        exact hd s hs
      have : N ∈ Region.ready .any ops.toArray listed := by
        rw [mem_ready]
        refine ⟨?_, ol, by rw [List.getElem?_toArray]; exact hlast, fun ed hed hb => hall2 _ (hdl _ (deps_mem hed hb))⟩
        rw [Array.getD_eq_getD_getElem?, Array.getElem?_eq_getElem (by omega)] at hlN ⊢
        exact hlN
      rw [hr] at this; cases this
    rw [mem_ready] at hi
    obtain ⟨h1, o, h2, h3⟩ := hi
    rw [List.getElem?_toArray] at h2
    have hlt := (List.getElem?_eq_some_iff.1 h2).1
    by_cases hiN : i = N
    · subst hiN
      rw [hlast] at h2; cases h2
      have hd : ∀ d ∈ deps ol, listed.getD d false = true := by
        intro d hd
        obtain ⟨ed, g1, g2, rfl⟩ := deps_of hd
        exact h3 ed g1 g2
      have hL := hdeps _ hcl hd
      exact hQ _ _ _ (inv_end hT (fun q hq => hL _ (htr q hq)) inv)
    obtain ⟨s, hs, rfl⟩ := hall i (by omega)
    obtain ⟨l1, l2, e⟩ := List.append_of_mem hs
    obtain ⟨k1, k2, k3, k4⟩ := hspec e
    rw [k1] at h2; cases h2
    have hLs : listed.getD s.i false = false := by
      rw [Array.getD_eq_getD_getElem?, Array.getElem?_eq_getElem (by omega)] at h1 ⊢
      exact h1
    have hready : ∀ d ∈ deps s.o, listed.getD d false = true := by
      intro d hd
      obtain ⟨ed, g1, g2, rfl⟩ := deps_of hd
      exact h3 ed g1 g2
    have kn2 : ∀ q ∈ l2, q.i ≠ s.i := by
      intro q hq
      obtain ⟨m1, m2, rfl⟩ := List.append_of_mem hq
      have := (hspec (l1 := l1 ++ s :: m1) (l2 := m2) (s := q) (by rw [e]; simp)).2.2.1 s (by simp)
      exact fun h => this h.symm
    have k5 : ∀ q ∈ l1, confl ops q.sig s.sig q.o s.o = true → listed.getD q.i false = true := fun q hq hc => k4 q hq hc _ hcl hready
    have k6 : ∀ q ∈ l2, confl ops s.sig q.sig s.o q.o = true → listed.getD q.i false = false := by
      intro q hq hc
      obtain ⟨m1, m2, rfl⟩ := List.append_of_mem hq
      obtain ⟨j1, _, _, j4⟩ := hspec (l1 := l1 ++ s :: m1) (l2 := m2) (s := q) (by rw [e]; simp)
      cases hl : listed.getD q.i false with
      | false => rfl
      | true =>
        have := j4 s (by simp) hc _ hcl (hcl _ _ j1 hl)
        rw [hLs] at this; cases this
    have hL' : (fun i => (listed.setIfInBounds s.i true).getD i false) = fun i => listed.getD i false || i == s.i := by
      funext i
      simp only [Array.getD_eq_getD_getElem?, Array.getElem?_setIfInBounds]
      by_cases hi : s.i = i
      · subst hi
        simp [show s.i < listed.size by omega]
      · have : (i == s.i) = false := by simp; exact fun h => hi h.symm
        simp [hi, this]
    refine step_at hΦ hT e k3 kn2 hLs hL' (fun q hq j hj hj' => k5 q hq ?_) (fun q hq j hj hj' => k6 q hq ?_) (fun q hq t ht ht' => k5 q hq ?_) (fun q hq t ht ht' => k6 q hq ?_) inv fun a' w' _ inv' => ?_
    · have : meetN q.sig.md s.sig.fp = true := meetN_iff.2 ⟨j, hj', hj⟩
      simp [confl, this]
    · rcases hj with hj | hj
      · have : meetN s.sig.fp q.sig.md = true := meetN_iff.2 ⟨j, hj, hj'⟩
        simp [confl, this]
      · have : meetN s.sig.md q.sig.md = true := meetN_iff.2 ⟨j, hj, hj'⟩
        simp [confl, this]
    · have : meetN (dstL q.o) (looks ops s.o) = true := meetN_iff.2 ⟨t, by simp [dstL, ht], ht'⟩
      simp [confl, this]
    · rcases ht' with ht' | ht'
      · have : meetN (dstL q.o) (looks ops s.o) = true := meetN_iff.2 ⟨t, by simp [dstL, ht], ht'⟩
        simp [confl, this]
      · have : meetN (dstL s.o) (dstL q.o) = true := meetN_iff.2 ⟨t, by simp [dstL, ht'], by simp [dstL, ht]⟩
        simp [confl, this]
    · refine ih (listed.setIfInBounds s.i true) (by simpa using hsz) ?_ ?_ ?_ a' w' ?_
      · have := congrFun hL' N
        have this : (listed.setIfInBounds s.i true).getD N false = (listed.getD N false || N == s.i) := this
        rw [this, hlN]
        have hne : ¬ N = s.i := fun h => hiN h.symm
        simpa using hne
      · have hlt2 : (tr.filter fun q => !((listed.setIfInBounds s.i true).getD q.i false)).length < (tr.filter fun q => !(listed.getD q.i false)).length := by
          have e0 : ∀ q : Stp, (listed.setIfInBounds s.i true).getD q.i false = (listed.getD q.i false || q.i == s.i) := fun q => congrFun hL' q.i
          rw [e]
          simp only [List.filter_append, List.filter_cons, List.length_append, e0, hLs]
          simp only [Bool.false_or, beq_self_eq_true, Bool.not_true, Bool.not_false, if_true, Bool.false_eq_true, if_false, List.length_cons]
          have mono : ∀ l : List Stp, (l.filter fun q => !(listed.getD q.i false || q.i == s.i)).length ≤ (l.filter fun q => !(listed.getD q.i false)).length := by
            intro l
            rw [← List.countP_eq_length_filter, ← List.countP_eq_length_filter]
            refine List.countP_mono_left fun x _ hx => ?_
            cases hl : listed.getD x.i false with
            | false => rfl
            | true => rw [hl] at hx; cases hx
          have a1 := mono l1
          have a2 := mono l2
          omega
        omega
      · intro i o ho hi d hd
        have hi : (fun i => (listed.setIfInBounds s.i true).getD i false) i = true := hi
        show (fun i => (listed.setIfInBounds s.i true).getD i false) d = true
        rw [hL'] at hi ⊢
        simp only [Bool.or_eq_true, beq_iff_eq] at hi ⊢
        rcases hi with hi | rfl
        · exact .inl (hcl i o ho hi d hd)
        · rw [k1] at ho; cases ho
          exact .inl (hready d hd)
      · exact inv'
end
end Go.Eng
namespace Go.Eng
open Go
/-- A nil slice becomes a slice of one's own, without elements: in register r (or its part c), or in the block r. -/
structure Bind where
  row : Bool
  r : Nat
  c : Nat
  ty : TypeId
  k : Nat
def nilK (x : Sv) (k : Prop) : Prop :=
  match x with
  | .c (.v (.slice none 0 0)) => k
  | _ => False
def nilC (x : Cell) (k : Prop) : Prop :=
  match x with
  | .v (.slice none 0 0) => k
  | _ => False
def bindRV (x : RV) (c nx : Nat) (k : RV → Prop) : Prop :=
  match x with
  | .s (.c x) => nilC x (k (.s (.c (.osl nx))))
  | .s (.agg l) => nthK l c fun x => nilC x (setK l c (.osl nx) fun l' => k (.s (.agg l')))
  | .tup l => nthK l c fun x => nilK x (setK l c (.c (.osl nx)) fun l' => k (.tup l'))
  | _ => False
/-- A slice of one's own that is to be read alone. -/
def frzC (bs : List (Nat × Blk)) (x : Cell) (k : Nat → Nat → Nat → (Nat → Nat → Cell) → Prop) : Prop :=
  match x with
  | .osl j => lookK bs j fun b => match b with
    | .slc _ q n g => k j q n g
    | .fsl q n g => k j q n g
    | _ => False
  | _ => False
theorem frzC_spec {bs : List (Nat × Blk)} {x : Cell} {k : Nat → Nat → Nat → (Nat → Nat → Cell) → Prop} (h : frzC bs x k) :
    ∃ j b q n g, x = .osl j ∧ look bs j = some b ∧ ((∃ ty, b = .slc ty q n g) ∨ b = .fsl q n g) ∧ k j q n g := by
  unfold frzC at h
  split at h
  · obtain ⟨b, hb, h⟩ := lookK_spec _ _ _ h
    split at h
    · exact ⟨_, _, _, _, _, rfl, hb, .inl ⟨_, rfl⟩, h⟩
    · exact ⟨_, _, _, _, _, rfl, hb, .inr rfl, h⟩
    · exact h.elim
  · exact h.elim
/-- The same, in a register. -/
def frzR (bs : List (Nat × Blk)) (x : RV) (k : Nat → Nat → Nat → (Nat → Nat → Cell) → Prop) : Prop :=
  match x with
  | .s (.c c) => frzC bs c k
  | _ => False
theorem frzR_spec {bs : List (Nat × Blk)} {x : RV} {k : Nat → Nat → Nat → (Nat → Nat → Cell) → Prop} (h : frzR bs x k) :
    ∃ j b q n g, x = .s (.c (.osl j)) ∧ look bs j = some b ∧ ((∃ ty, b = .slc ty q n g) ∨ b = .fsl q n g) ∧ k j q n g := by
  unfold frzR at h
  split at h
  · obtain ⟨j, b, q, n, g, rfl, h1, h2, h3⟩ := frzC_spec h
    exact ⟨j, b, q, n, g, rfl, h1, h2, h3⟩
  · exact h.elim
/-- A slice of one's own that gets another name. -/
def movC (bs : List (Nat × Blk)) (j : Nat) (k : TypeId → Nat → Nat → (Nat → Nat → Cell) → Prop) : Prop :=
  lookK bs j fun b => match b with
    | .slc ty q n g => k ty q n g
    | _ => False
theorem movC_spec {bs : List (Nat × Blk)} {j : Nat} {k : TypeId → Nat → Nat → (Nat → Nat → Cell) → Prop} (h : movC bs j k) : ∃ ty q n g, look bs j = some (.slc ty q n g) ∧ k ty q n g := by
  unfold movC at h
  obtain ⟨b, hb, h⟩ := lookK_spec _ _ _ h
  split at h
  · exact ⟨_, _, _, _, hb, h⟩
  · exact h.elim
def bindsK : List Bind → St → (St → Prop) → Prop
  | [], st, K => K st
  | z :: l, ⟨regs, bs, nx⟩, K => match z.row with
    | false => match z.k with
      | 0 => nthK regs z.r fun x => frzR bs x fun j q n g => setK regs z.r (.s (.c (.ro n q false g))) fun regs' => putK bs j (.fsl q n g) fun bs' => bindsK l ⟨regs', bs', nx⟩ K
      | _ + 1 => nthK regs z.r fun x => bindRV x z.c nx fun x' => setK regs z.r x' fun regs' => litK 400 0 (nx + 1) fun nx' =>
        putK bs nx (.slc z.ty z.k 0 fun _ _ => .any) fun bs' => bindsK l ⟨regs', bs', nx'⟩ K
    | true => lookK bs z.r fun b => match b with
      | .row ty cs => nthK cs z.c fun x => match z.k with
        | 0 => frzC bs x fun j q n g => setK cs z.c (.ro n q false g) fun cs' => putK bs z.r (.row ty cs') fun bs1 => putK bs1 j (.fsl q n g) fun bs' => bindsK l ⟨regs, bs', nx⟩ K
        | _ + 1 => match x with
          | .osl j => movC bs j fun ty' q n g => setK cs z.c (.osl nx) fun cs' => litK 400 0 (nx + 1) fun nx' =>
            putK bs z.r (.row ty cs') fun bs1 => putK bs1 j .gone fun bs2 => putK bs2 nx (.slc ty' q n g) fun bs' => bindsK l ⟨regs, bs', nx'⟩ K
          | x => nilC x (setK cs z.c (.osl nx) fun cs' => litK 400 0 (nx + 1) fun nx' =>
            putK bs z.r (.row ty cs') fun bs1 => putK bs1 nx (.slc z.ty z.k 0 fun _ _ => .any) fun bs' => bindsK l ⟨regs, bs', nx'⟩ K)
      | _ => False
def idB : Nat → Nat → List Nat → Bool
  | _, 0, _ => true
  | i, m + 1, x :: l => match Nat.beq i x with
    | true => idB (i + 1) m l
    | false => false
  | _, _ + 1, [] => false
def lenB : Nat → List Nat → Bool
  | 0, [] => true
  | n + 1, _ :: l => lenB n l
  | _, _ => false
structure EntP (m n : Nat) (p : List Bind → List Nat → Prop) : Prop where
  ex : ∃ zs σ, p zs σ
/-- st holds what st' tells. -/
def EntK (m : Nat) (st st' : St) : Prop := EntP m st'.next fun zs σ => bindsK zs st fun st =>
  rvsEq st.blks σ st'.regs st.regs ∧ blksEq st.blks σ st'.blks ∧ lenB st'.next σ = true ∧ idB 0 m σ = true ∧ nodupB σ = true ∧ disjB σ (lentRs st'.regs st.regs) = true
theorem idB_spec : ∀ (l : List Nat) (i m : Nat), idB i m l = true → ∀ t, t < m → l[t]? = some (i + t)
  | _, _, 0, _, t, ht => by omega
  | [], _, _ + 1, h, _, _ => by cases h
  | x :: l, i, m + 1, h, t, ht => by
    unfold idB at h
    split at h
    · rename_i he
      have he := Nat.eq_of_beq_eq_true he
      subst he
      cases t with
      | zero => rfl
      | succ t =>
        have := idB_spec l (i + 1) m h t (by omega)
        simp only [List.getElem?_cons_succ, this]
        congr 1; omega
    · cases h
theorem lenB_spec : ∀ (n : Nat) (l : List Nat), lenB n l = true → l.length = n
  | 0, [], _ => rfl
  | 0, _ :: _, h => by cases h
  | n + 1, [], h => by cases h
  | n + 1, _ :: l, h => by simp [lenB_spec n l h]
section
variable {d : Dfr} {F : Nat → Prop} {O0 : Nat → Prop} {hs0 : Names} {w0 : World}
/-- One more name, for what owns nothing. -/
theorem rep_bind {st : St} {a : Act} {w : World} (h : RepS d F O0 hs0 w0 st a w) {regs' : List RV} {bs' : List (Nat × Blk)} {ty : TypeId} {k : Nat}
    (hr : ∀ O w hs tmps, hs st.next = some (.slice none 0 0) → Regs O w hs (fun t => st.regs[t]?) tmps → Regs O w hs (fun t => regs'[t]?) tmps)
    (hb : ∀ j b, look bs' j = some b → (j = st.next ∧ b = .slc ty k 0 fun _ _ => .any) ∨ ∃ b0, look st.blks j = some b0 ∧
      (∀ u, owner b u = owner b0 u) ∧ ∀ O w hs u, hs st.next = some (.slice none 0 0) → BlkRel O w hs b0 u → BlkRel O w hs b u) :
    RepS d F O0 hs0 w0 ⟨regs', bs', st.next + 1⟩ a w := by
  obtain ⟨⟨hs, hw, hR, hf, hS⟩, hd⟩ := h
  have hext : ∀ j u, hs j = some u → (fun j => if j = st.next then some (Value.slice none 0 0) else hs j) j = some u := by
    intro j u hj
    have : j ≠ st.next := by rintro rfl; rw [hf _ (Nat.le_refl _)] at hj; cases hj
    simp [this, hj]
  have hnew : (fun j => if j = st.next then some (Value.slice none 0 0) else hs j) st.next = some (.slice none 0 0) := by simp
  have hblk : ∀ j b u x, look bs' j = some b → (fun j => if j = st.next then some (Value.slice none 0 0) else hs j) j = some u → owner b u = some x →
      ∃ b0, look st.blks j = some b0 ∧ hs j = some u ∧ owner b0 u = some x := by
    intro j b u x hj hu ho
    rcases hb j b hj with ⟨rfl, rfl⟩ | ⟨b0, h1, h2, h3⟩
    · rw [hnew] at hu; cases hu; cases ho
    · obtain ⟨v, hv, _⟩ := hw.blk j b0 h1
      have := hext j v hv
      rw [hu] at this; cases this
      exact ⟨b0, h1, hv, by rw [← h2]; exact ho⟩
  have hown : ∀ x, own (fun j => if j = st.next then some (Value.slice none 0 0) else hs j) (look bs') x → own hs (look st.blks) x := by
    rintro x ⟨j, b, u, hj, hu, ho⟩
    obtain ⟨b0, h1, h2, h3⟩ := hblk j b u x hj hu ho
    exact ⟨j, b0, u, h1, h2, h3⟩
  have hO : ∀ x, Osum F (fun j => if j = st.next then some (Value.slice none 0 0) else hs j) (look bs') x → Osum F hs (look st.blks) x := fun x hx => hx.imp id (hown x)
  refine ⟨⟨fun j => if j = st.next then some (.slice none 0 0) else hs j, ⟨?_, ?_, hw.lt, fun x hx h => hw.apart x hx (hown x h)⟩, ?_, ?_, ?_, hS.fr, fun x hx => hS.own x (hown x hx)⟩, hd⟩
  · intro j b hj
    rcases hb j b hj with ⟨rfl, rfl⟩ | ⟨b0, h1, h2, h3⟩
    · exact ⟨_, hnew, .inl ⟨rfl, rfl⟩⟩
    · obtain ⟨v, hv, hr0⟩ := hw.blk j b0 h1
      exact ⟨v, hext j v hv, h3 _ _ _ _ hnew (BlkRel.mono (Nat.le_refl _) (fun _ _ _ => rfl) (fun x h => .inl (hO x h)) hext (fun _ _ => rfl) hr0)⟩
  · intro i j bi bj ui uj x hbi hbj hui huj hoi hoj
    obtain ⟨b1, h1, h2, h3⟩ := hblk i bi ui x hbi hui hoi
    obtain ⟨b2, h4, h5, h6⟩ := hblk j bj uj x hbj huj hoj
    exact hw.sep i j b1 b2 ui uj x h1 h4 h2 h5 h3 h6
  · refine hr _ _ _ _ hnew fun t rv ht => ?_
    obtain ⟨u, hu, hru⟩ := hR t rv ht
    exact ⟨u, hu, RVRel.mono (Nat.le_refl _) (fun _ _ _ => rfl) (fun x h => .inl (hO x h)) hext hru⟩
  · intro j hj
    have hj : st.next + 1 ≤ j := hj
    have : j ≠ st.next := by omega
    simp only [this, if_false]
    exact hf j (by omega)
  · exact fun j u hj => hext j u (hS.names j u hj)
theorem osl_nil {O : Nat → Prop} {w : World} {hs : Names} {j : Nat} {u : Value} (h : hs j = some (.slice none 0 0)) (hu : u = .slice none 0 0) : Rel O w (.osl j) hs u := by
  subst hu
  exact ⟨h, _, _, _, rfl⟩
theorem nilC_spec {x : Cell} {k : Prop} (h : nilC x k) : x = .v (.slice none 0 0) ∧ k := by
  unfold nilC at h
  split at h
  · exact ⟨rfl, h⟩
  · exact h.elim
theorem nilK_spec {x : Sv} {k : Prop} (h : nilK x k) : x = .c (.v (.slice none 0 0)) ∧ k := by
  unfold nilK at h
  split at h
  · exact ⟨rfl, h⟩
  · exact h.elim
theorem bindRV_spec {x : RV} {c nx : Nat} {k : RV → Prop} (h : bindRV x c nx k) : ∃ x', k x' ∧ ∀ O w hs u, hs nx = some (.slice none 0 0) → RVRel O w x hs u → RVRel O w x' hs u := by
  unfold bindRV at h
  split at h
  · obtain ⟨rfl, h⟩ := nilC_spec h
    exact ⟨_, h, fun O w hs u hn hu => osl_nil (O := O) (w := w) hn hu.1⟩
  · obtain ⟨y, h1, h⟩ := nthK_spec _ _ _ h
    obtain ⟨rfl, h⟩ := nilC_spec h
    obtain ⟨hlt, h⟩ := setK_spec _ _ _ _ h
    refine ⟨_, h, fun O w hs u hn ⟨cs, e1, e2, e3⟩ => ⟨cs, e1, by simp [e2], fun i d v hd hv => ?_⟩⟩
    rw [List.getElem?_set] at hd
    split at hd
    · rename_i e
      subst e
      simp [hlt] at hd
      subst hd
      exact osl_nil (O := O) (w := w) hn (e3 _ _ v h1 hv).1
    · exact e3 i d v hd hv
  · obtain ⟨y, h1, h⟩ := nthK_spec _ _ _ h
    obtain ⟨rfl, h⟩ := nilK_spec h
    obtain ⟨hlt, h⟩ := setK_spec _ _ _ _ h
    refine ⟨_, h, fun O w hs u hn ⟨cs, e1, e2, e3⟩ => ⟨cs, e1, by simp [e2], fun i d v hd hv => ?_⟩⟩
    rw [List.getElem?_set] at hd
    split at hd
    · rename_i e
      subst e
      simp [hlt] at hd
      subst hd
      exact osl_nil (O := O) (w := w) hn (e3 _ _ v h1 hv).1
    · exact e3 i d v hd hv
  · exact h.elim
/-- A slice of one's own, in a row, is read alone from now on. -/
theorem rep_freeze {st : St} {a : Act} {w : World} (h : RepS d F O0 hs0 w0 st a w) {r j c : Nat} {ty : TypeId} {cs : List Cell} {b : Blk} {q n : Nat} {g : Nat → Nat → Cell} (hr : look st.blks r = some (.row ty cs)) (hc : cs[c]? = some (.osl j))
    (hb : look st.blks j = some b) (hk : (∃ ty, b = .slc ty q n g) ∨ b = .fsl q n g) {bs' : List (Nat × Blk)}
    (hbs : ∀ i, look bs' i = if j = i then some (.fsl q n g) else if r = i then some (.row ty (cs.set c (.ro n q false g))) else look st.blks i) :
    RepS d F O0 hs0 w0 ⟨st.regs, bs', st.next⟩ a w := by
  obtain ⟨⟨hs, hw, hR, hf, hS⟩, hd⟩ := h
  have htr : ∀ i b' u x, look bs' i = some b' → hs i = some u → owner b' u = some x → i ≠ j ∧ ∃ b0, look st.blks i = some b0 ∧ owner b0 u = some x := by
    intro i b' u x hi hu ho
    rw [hbs] at hi
    by_cases e : j = i
    · rw [if_pos e] at hi; cases hi; cases ho
    · rw [if_neg e] at hi
      refine ⟨fun h => e h.symm, ?_⟩
      by_cases e2 : r = i
      · rw [if_pos e2] at hi; cases hi
        subst e2
        exact ⟨_, hr, by rw [← ho]; exact (owner_row _ _ _ _ u).symm⟩
      · rw [if_neg e2] at hi
        exact ⟨b', hi, ho⟩
  have hown : ∀ x, own hs (look bs') x → own hs (look st.blks) x := by
    rintro x ⟨i, b', u, hi, hu, ho⟩
    obtain ⟨_, b0, h1, h2⟩ := htr i b' u x hi hu ho
    exact ⟨i, b0, u, h1, hu, h2⟩
  have hO : ∀ x, Osum F hs (look bs') x → Osum F hs (look st.blks) x := fun x hx => hx.imp id (hown x)
  have hlent : ∀ x h, hs j = some h → owner b h = some x → ¬ Osum F hs (look bs') x := by
    intro x h hj ho hx
    rcases hx with hx | ⟨i, b', u, hi, hu, ho'⟩
    · exact hw.apart x hx ⟨j, b, h, hb, hj, ho⟩
    · obtain ⟨h1, b0, h2, h3⟩ := htr i b' u x hi hu ho'
      exact h1 (hw.sep i j b0 b u h x h2 hb hu hj h3 ho)
  have hsub : b = .fsl q n g ∨ ∃ ty, b = .slc ty q n g := hk.symm
  obtain ⟨pv, hpv, x0, cs0, hp1, hp2, hp3, hp4⟩ := hw.blk r _ hr
  have hclt : c < cs0.size := by rw [hp3]; exact (List.getElem?_eq_some_iff.1 hc).1
  have hosl := hp4 c _ _ hc (Array.getElem?_eq_getElem hclt)
  have hro : Rel (Osum F hs (look bs')) w (.ro n q false g) hs cs0[c] :=
    cellEq_rel (bs := st.blks) (σ := []) hw hO (fun i j h hi => by simp at hi) (.ro n q false g) (.osl j)
      (fun j' hj' => by
        have : j' = j := by simpa [lentC] using hj'
        subst this
        exact ⟨b, hb, hb, hlent⟩)
      (by
        refine ⟨rfl, ?_⟩
        have hl : ∀ (l : List (Nat × Blk)) (k : Blk → Prop) (j : Nat) (b : Blk), look l j = some b → k b → lookK l j k := by
          intro l
          induction l with
          | nil => intro k j b h; cases h
          | cons p l ih =>
            intro k j b h hk
            obtain ⟨i, b1⟩ := p
            unfold lookK
            by_cases e : i = j
            · subst e
              rw [Nat.beq_refl]
              simp [look] at h
              subst h
              exact hk
            · rw [beq_false_of_ne e]
              simp [look, e] at h
              exact ih k j b h hk
        refine hl _ _ _ _ hb ?_
        rcases hk with ⟨ty', rfl⟩ | rfl
        · exact ⟨rfl, rfl, fun _ _ _ _ => rfl⟩
        · exact ⟨rfl, rfl, fun _ _ _ _ => rfl⟩) hosl
  have hmono : ∀ (i : Nat) (b' : Blk) u, BlkRel (Osum F hs (look st.blks)) w hs b' u → BlkRel (Osum F hs (look bs')) w hs b' u := fun i b' u h =>
    BlkRel.mono (Nat.le_refl _) (fun _ _ _ => rfl) (fun x h => .inl (hO x h)) (fun _ _ h => h) (fun _ _ => rfl) h
  have hjv : hs j = some cs0[c] := hosl.1
  refine ⟨⟨hs, ⟨fun i b' hi => ?_, fun i i' bi bi' hi hi' x h1 h2 h3 h4 h5 h6 => ?_, hw.lt, fun x hx h => hw.apart x hx (hown x h)⟩, fun t rv ht => ?_, hf, ⟨hS.names, hS.fr, fun x hx => hS.own x (hown x hx)⟩⟩, hd⟩
  · rw [hbs] at hi
    by_cases e : j = i
    · rw [if_pos e] at hi; cases hi
      subst e
      exact ⟨_, hjv, hro⟩
    · rw [if_neg e] at hi
      by_cases e2 : r = i
      · rw [if_pos e2] at hi; cases hi
        subst e2
        refine ⟨pv, hpv, x0, cs0, hp1, hp2, by simp [hp3], fun i d v hd hv => ?_⟩
        rw [List.getElem?_set] at hd
        split at hd
        · rename_i e3
          subst e3
          rw [if_pos (by rw [← hp3]; exact hclt)] at hd
          cases hd
          rw [Array.getElem?_eq_getElem hclt] at hv
          cases hv
          exact hro
        · exact Rel.mono (Nat.le_refl _) (fun _ _ _ => rfl) (fun x h => .inl (hO x h)) _ _ _ _ (fun _ _ h => h) (hp4 i d v hd hv)
      · rw [if_neg e2] at hi
        obtain ⟨u, hu, hru⟩ := hw.blk i b' hi
        exact ⟨u, hu, hmono i b' u hru⟩
  · obtain ⟨_, b1, g1, g2⟩ := htr i bi hi x h1 h3 h5
    obtain ⟨_, b2, g3, g4⟩ := htr i' bi' hi' x h2 h4 h6
    exact hw.sep i i' b1 b2 hi hi' x g1 g3 h3 h4 g2 g4
  · obtain ⟨u, hu, hru⟩ := hR t rv ht
    exact ⟨u, hu, RVRel.mono (Nat.le_refl _) (fun _ _ _ => rfl) (fun x h => .inl (hO x h)) (fun _ _ h => h) hru⟩
/-- A slice of one's own, in a row, gets another name. -/
theorem rep_freezeR {st : St} {a : Act} {w : World} (h : RepS d F O0 hs0 w0 st a w) {r j : Nat} {b : Blk} {q n : Nat} {g : Nat → Nat → Cell} (hr : st.regs[r]? = some (.s (.c (.osl j))))
    (hb : look st.blks j = some b) (hk : (∃ ty, b = .slc ty q n g) ∨ b = .fsl q n g) {regs' : List RV} {bs' : List (Nat × Blk)}
    (hrs : ∀ t, regs'[t]? = if r = t then some (.s (.c (.ro n q false g))) else st.regs[t]?)
    (hbs : ∀ i, look bs' i = if j = i then some (.fsl q n g) else look st.blks i) :
    RepS d F O0 hs0 w0 ⟨regs', bs', st.next⟩ a w := by
  obtain ⟨⟨hs, hw, hR, hf, hS⟩, hd⟩ := h
  have htr : ∀ i b' u x, look bs' i = some b' → hs i = some u → owner b' u = some x → i ≠ j ∧ ∃ b0, look st.blks i = some b0 ∧ owner b0 u = some x := by
    intro i b' u x hi hu ho
    rw [hbs] at hi
    by_cases e : j = i
    · rw [if_pos e] at hi; cases hi; cases ho
    · rw [if_neg e] at hi
      exact ⟨fun h => e h.symm, b', hi, ho⟩
  have hown : ∀ x, own hs (look bs') x → own hs (look st.blks) x := by
    rintro x ⟨i, b', u, hi, hu, ho⟩
    obtain ⟨_, b0, h1, h2⟩ := htr i b' u x hi hu ho
    exact ⟨i, b0, u, h1, hu, h2⟩
  have hO : ∀ x, Osum F hs (look bs') x → Osum F hs (look st.blks) x := fun x hx => hx.imp id (hown x)
  have hlent : ∀ x h, hs j = some h → owner b h = some x → ¬ Osum F hs (look bs') x := by
    intro x h hj ho hx
    rcases hx with hx | ⟨i, b', u, hi, hu, ho'⟩
    · exact hw.apart x hx ⟨j, b, h, hb, hj, ho⟩
    · obtain ⟨h1, b0, h2, h3⟩ := htr i b' u x hi hu ho'
      exact h1 (hw.sep i j b0 b u h x h2 hb hu hj h3 ho)
  have hsub : b = .fsl q n g ∨ ∃ ty, b = .slc ty q n g := hk.symm
  obtain ⟨ur, hur, hosl⟩ := hR r _ hr
  have hro : Rel (Osum F hs (look bs')) w (.ro n q false g) hs ur :=
    cellEq_rel (bs := st.blks) (σ := []) hw hO (fun i j h hi => by simp at hi) (.ro n q false g) (.osl j)
      (fun j' hj' => by
        have : j' = j := by simpa [lentC] using hj'
        subst this
        exact ⟨b, hb, hb, hlent⟩)
      (by
        refine ⟨rfl, ?_⟩
        have hl : ∀ (l : List (Nat × Blk)) (k : Blk → Prop) (j : Nat) (b : Blk), look l j = some b → k b → lookK l j k := by
          intro l
          induction l with
          | nil => intro k j b h; cases h
          | cons p l ih =>
            intro k j b h hk
            obtain ⟨i, b1⟩ := p
            unfold lookK
            by_cases e : i = j
            · subst e
              rw [Nat.beq_refl]
              simp [look] at h
              subst h
              exact hk
            · rw [beq_false_of_ne e]
              simp [look, e] at h
              exact ih k j b h hk
        refine hl _ _ _ _ hb ?_
        rcases hk with ⟨ty', rfl⟩ | rfl
        · exact ⟨rfl, rfl, fun _ _ _ _ => rfl⟩
        · exact ⟨rfl, rfl, fun _ _ _ _ => rfl⟩) hosl
  have hmono : ∀ (i : Nat) (b' : Blk) u, BlkRel (Osum F hs (look st.blks)) w hs b' u → BlkRel (Osum F hs (look bs')) w hs b' u := fun i b' u h =>
    BlkRel.mono (Nat.le_refl _) (fun _ _ _ => rfl) (fun x h => .inl (hO x h)) (fun _ _ h => h) (fun _ _ => rfl) h
  have hjv : hs j = some ur := hosl.1
  refine ⟨⟨hs, ⟨fun i b' hi => ?_, fun i i' bi bi' hi hi' x h1 h2 h3 h4 h5 h6 => ?_, hw.lt, fun x hx h => hw.apart x hx (hown x h)⟩, fun t rv ht => ?_, hf, ⟨hS.names, hS.fr, fun x hx => hS.own x (hown x hx)⟩⟩, hd⟩
  · rw [hbs] at hi
    by_cases e : j = i
    · rw [if_pos e] at hi; cases hi
      subst e
      exact ⟨_, hjv, hro⟩
    · rw [if_neg e] at hi
      obtain ⟨u, hu, hrel⟩ := hw.blk i b' hi
      exact ⟨u, hu, hmono i b' u hrel⟩
  · obtain ⟨_, b0, g1, g2⟩ := htr i bi hi x h1 h3 h5
    obtain ⟨_, b1, g3, g4⟩ := htr i' bi' hi' x h2 h4 h6
    exact hw.sep i i' b0 b1 hi hi' x g1 g3 h3 h4 g2 g4
  · have ht : regs'[t]? = some rv := ht
    rw [hrs] at ht
    by_cases e : r = t
    · subst e
      rw [if_pos rfl] at ht; cases ht
      exact ⟨ur, hur, hro⟩
    · rw [if_neg e] at ht
      obtain ⟨u, hu, hru⟩ := hR t rv ht
      exact ⟨u, hu, RVRel.mono (Nat.le_refl _) (fun _ _ _ => rfl) (fun x h => .inl (hO x h)) (fun _ _ h => h) hru⟩
theorem rep_rename {st : St} {a : Act} {w : World} (h : RepS d F O0 hs0 w0 st a w) {r j c : Nat} {ty ty' : TypeId} {cs : List Cell} {q n : Nat} {g : Nat → Nat → Cell} (hr : look st.blks r = some (.row ty cs)) (hc : cs[c]? = some (.osl j))
    (hb : look st.blks j = some (.slc ty' q n g)) {bs' : List (Nat × Blk)}
    (hbs : ∀ i, look bs' i = if st.next = i then some (.slc ty' q n g) else if j = i then some .gone else if r = i then some (.row ty (cs.set c (.osl st.next))) else look st.blks i) :
    RepS d F O0 hs0 w0 ⟨st.regs, bs', st.next + 1⟩ a w := by
  obtain ⟨⟨hs, hw, hR, hf, hS⟩, hd⟩ := h
  have hnx : hs st.next = none := hf _ (Nat.le_refl _)
  obtain ⟨vj, hvj, hbj⟩ := hw.blk j _ hb
  have hjn : j ≠ st.next := by rintro rfl; rw [hnx] at hvj; cases hvj
  have hext : ∀ i u, hs i = some u → (fun i => if i = st.next then hs j else hs i) i = some u := by
    intro i u hi
    have : i ≠ st.next := by rintro rfl; rw [hnx] at hi; cases hi
    simp [this, hi]
  have hnew : (fun i => if i = st.next then hs j else hs i) st.next = some vj := by simp [hvj]
  have htr : ∀ i b u x, look bs' i = some b → (fun i => if i = st.next then hs j else hs i) i = some u → owner b u = some x →
      i ≠ j ∧ ∃ b0, look st.blks (if i = st.next then j else i) = some b0 ∧ hs (if i = st.next then j else i) = some u ∧ owner b0 u = some x := by
    intro i b u x hi hu ho
    rw [hbs] at hi
    by_cases e : st.next = i
    · subst e
      rw [if_pos rfl] at hi; cases hi
      rw [hnew] at hu; cases hu
      exact ⟨fun e => hjn e.symm, _, by rw [if_pos rfl]; exact hb, by rw [if_pos rfl]; exact hvj, ho⟩
    · have e' : ¬ i = st.next := fun h => e h.symm
      rw [if_neg e] at hi
      have hu : hs i = some u := by simpa [e'] using hu
      rw [if_neg e']
      by_cases e2 : j = i
      · rw [if_pos e2] at hi; cases hi; cases ho
      · rw [if_neg e2] at hi
        refine ⟨fun h => e2 h.symm, ?_⟩
        by_cases e3 : r = i
        · rw [if_pos e3] at hi; cases hi
          subst e3
          exact ⟨_, hr, hu, by rw [← ho]; exact (owner_row _ _ _ _ u).symm⟩
        · rw [if_neg e3] at hi
          exact ⟨b, hi, hu, ho⟩
  have hown : ∀ x, own (fun i => if i = st.next then hs j else hs i) (look bs') x → own hs (look st.blks) x := by
    rintro x ⟨i, b, u, hi, hu, ho⟩
    obtain ⟨_, b0, h1, h2, h3⟩ := htr i b u x hi hu ho
    exact ⟨_, b0, u, h1, h2, h3⟩
  have hO : ∀ x, Osum F (fun i => if i = st.next then hs j else hs i) (look bs') x → Osum F hs (look st.blks) x := fun x hx => hx.imp id (hown x)
  have hmono : ∀ (b : Blk) u, BlkRel (Osum F hs (look st.blks)) w hs b u → BlkRel (Osum F (fun i => if i = st.next then hs j else hs i) (look bs')) w (fun i => if i = st.next then hs j else hs i) b u := fun b u h =>
    BlkRel.mono (Nat.le_refl _) (fun _ _ _ => rfl) (fun x h => .inl (hO x h)) hext (fun _ _ => rfl) h
  refine ⟨⟨fun i => if i = st.next then hs j else hs i, ⟨fun i b hi => ?_, fun i i' bi bi' hi hi' x h1 h2 h3 h4 h5 h6 => ?_, hw.lt, fun x hx h => hw.apart x hx (hown x h)⟩, fun t rv ht => ?_, fun i hi => ?_, fun i u hi => hext i u (hS.names i u hi), hS.fr, fun x hx => hS.own x (hown x hx)⟩, hd⟩
  · rw [hbs] at hi
    by_cases e : st.next = i
    · subst e
      rw [if_pos rfl] at hi; cases hi
      exact ⟨vj, hnew, hmono _ _ hbj⟩
    · rw [if_neg e] at hi
      by_cases e2 : j = i
      · rw [if_pos e2] at hi; cases hi
        subst e2
        exact ⟨vj, hext _ _ hvj, trivial⟩
      · rw [if_neg e2] at hi
        by_cases e3 : r = i
        · rw [if_pos e3] at hi; cases hi
          subst e3
          obtain ⟨pv, hpv, x0, cs0, hp1, hp2, hp3, hp4⟩ := hw.blk r _ hr
          refine ⟨pv, hext _ _ hpv, x0, cs0, hp1, hp2, by simp [hp3], fun i d v hd hv => ?_⟩
          rw [List.getElem?_set] at hd
          split at hd
          · rename_i e4
            subst e4
            split at hd
            · cases hd
              have h7 := hp4 c _ v hc hv
              obtain ⟨h8, h9⟩ := h7
              rw [hvj] at h8; cases h8
              exact ⟨hnew, h9⟩
            · cases hd
          · exact Rel.mono (Nat.le_refl _) (fun _ _ _ => rfl) (fun x h => .inl (hO x h)) _ _ _ _ hext (hp4 i d v hd hv)
        · rw [if_neg e3] at hi
          obtain ⟨u, hu, hru⟩ := hw.blk i b hi
          exact ⟨u, hext _ _ hu, hmono _ _ hru⟩
  · obtain ⟨n1, b1, g1, g2, g3⟩ := htr i bi hi x h1 h3 h5
    obtain ⟨n2, b2, g4, g5, g6⟩ := htr i' bi' hi' x h2 h4 h6
    have h7 := hw.sep _ _ b1 b2 hi hi' x g1 g4 g2 g5 g3 g6
    by_cases e1 : i = st.next <;> by_cases e2 : i' = st.next
    · rw [e1, e2]
    · rw [if_pos e1, if_neg e2] at h7; exact absurd h7.symm n2
    · rw [if_neg e1, if_pos e2] at h7; exact absurd h7 n1
    · rwa [if_neg e1, if_neg e2] at h7
  · obtain ⟨u, hu, hru⟩ := hR t rv ht
    exact ⟨u, hu, RVRel.mono (Nat.le_refl _) (fun _ _ _ => rfl) (fun x h => .inl (hO x h)) hext hru⟩
  · have hi : st.next + 1 ≤ i := hi
    have : i ≠ st.next := by omega
    simp only [this, if_false]
    exact hf i (by omega)
theorem binds_rep : ∀ (zs : List Bind) (st : St) (K : St → Prop) (a : Act) (w : World), RepS d F O0 hs0 w0 st a w → bindsK zs st K → ∃ st2, K st2 ∧ RepS d F O0 hs0 w0 st2 a w
  | [], st, K, a, w, h, hk => ⟨st, hk, h⟩
  | z :: l, ⟨regs, bs, nx⟩, K, a, w, h, hk => by
    unfold bindsK at hk
    split at hk
    · split at hk
      · obtain ⟨x, h1, hk⟩ := nthK_spec _ _ _ hk
        obtain ⟨j, b, q, n, g, rfl, hb, hbk, hk⟩ := frzR_spec hk
        obtain ⟨hlt, hk⟩ := setK_spec _ _ _ _ hk
        obtain ⟨bs', hk, h3⟩ := putK_spec _ _ _ _ hk
        exact binds_rep l _ K a w (rep_freezeR h h1 hb hbk (fun t => by
          show (regs.set z.r (.s (.c (.ro n q false g))))[t]? = _
          rw [List.getElem?_set]
          by_cases e : z.r = t
          · rw [if_pos e, if_pos e, if_pos hlt]
          · rw [if_neg e, if_neg e]) h3) hk
      obtain ⟨x, h1, hk⟩ := nthK_spec _ _ _ hk
      obtain ⟨x', hk, h2⟩ := bindRV_spec hk
      obtain ⟨hlt, hk⟩ := setK_spec _ _ _ _ hk
      have hk := litK_spec _ _ _ _ hk
      obtain ⟨bs', hk, h3⟩ := putK_spec _ _ _ _ hk
      refine binds_rep l _ K a w (rep_bind (ty := z.ty) (k := z.k) h (fun O w hs tmps hn hR t rv ht => ?_) fun j b hj => ?_) hk
      · have ht : (regs.set z.r x')[t]? = some rv := ht
        rw [List.getElem?_set] at ht
        split at ht
        · rename_i e
          subst e
          simp [hlt] at ht
          subst ht
          obtain ⟨u, hu, hr⟩ := hR z.r x h1
          exact ⟨u, hu, h2 _ _ _ _ hn hr⟩
        · exact hR t rv ht
      · rw [h3] at hj
        split at hj
        · rename_i e; cases hj; exact .inl ⟨e.symm, rfl⟩
        · exact .inr ⟨b, hj, fun _ => rfl, fun _ _ _ _ _ h => h⟩
    · obtain ⟨b0, h1, hk⟩ := lookK_spec _ _ _ hk
      split at hk
      case h_2 => exact hk.elim
      rename_i ty cs
      obtain ⟨x, h2, hk⟩ := nthK_spec _ _ _ hk
      split at hk
      · obtain ⟨j, b, q, n, g, rfl, hb, hbk, hk⟩ := frzC_spec hk
        obtain ⟨_, hk⟩ := setK_spec _ _ _ _ hk
        obtain ⟨bs1, hk, h3⟩ := putK_spec _ _ _ _ hk
        obtain ⟨bs', hk, h4⟩ := putK_spec _ _ _ _ hk
        exact binds_rep l _ K a w (rep_freeze h h1 h2 hb hbk fun i => by rw [h4, h3]) hk
      split at hk
      · obtain ⟨ty', q, n, g, hb, hk⟩ := movC_spec hk
        obtain ⟨_, hk⟩ := setK_spec _ _ _ _ hk
        have hk := litK_spec _ _ _ _ hk
        obtain ⟨bs1, hk, h3⟩ := putK_spec _ _ _ _ hk
        obtain ⟨bs2, hk, h4⟩ := putK_spec _ _ _ _ hk
        obtain ⟨bs', hk, h5⟩ := putK_spec _ _ _ _ hk
        exact binds_rep l _ K a w (rep_rename h h1 h2 hb fun i => by rw [h5, h4, h3]) hk
      obtain ⟨rfl, hk⟩ := nilC_spec hk
      obtain ⟨hlt, hk⟩ := setK_spec _ _ _ _ hk
      have hk := litK_spec _ _ _ _ hk
      obtain ⟨bs1, hk, h3⟩ := putK_spec _ _ _ _ hk
      obtain ⟨bs', hk, h4⟩ := putK_spec _ _ _ _ hk
      refine binds_rep l _ K a w (rep_bind (ty := z.ty) (k := z.k) h (fun O w hs tmps hn hR t rv ht => hR t rv ht) fun j b hj => ?_) hk
      rw [h4, h3] at hj
      split at hj
      · rename_i e; cases hj; exact .inl ⟨e.symm, rfl⟩
      · split at hj
        · rename_i e
          subst e
          cases hj
          refine .inr ⟨_, h1, fun u => owner_row _ _ _ _ u, fun O w hs u hn hu => ?_⟩
          obtain ⟨y, cs', e1, e2, e3, e4⟩ := hu
          refine ⟨y, cs', e1, e2, by simp [e3], fun i d v hd hv => ?_⟩
          rw [List.getElem?_set] at hd
          split at hd
          · rename_i e
            subst e
            simp [hlt] at hd
            subst hd
            exact osl_nil hn (e4 _ _ v h2 hv).1
          · exact e4 i d v hd hv
        · exact .inr ⟨b, hj, fun _ => rfl, fun _ _ _ _ _ h => h⟩
theorem look_blksEq_lt {bs : List (Nat × Blk)} {σ : List Nat} {l : List (Nat × Blk)} (h : blksEq bs σ l) {i : Nat} {b : Blk} (hb : look l i = some b) : i < σ.length := by
  obtain ⟨j, _, h1, _⟩ := blksEq_spec _ h (i, b) (look_mem _ i b hb)
  exact (List.getElem?_eq_some_iff.1 h1).1
theorem lentC_look {bs : List (Nat × Blk)} {σ : List Nat} {c c' : Cell} (h : cellEq bs σ c c') : ∀ j ∈ lentC c c', ∃ b, look bs j = some b := by
  intro j hj
  unfold lentC at hj
  split at hj
  · simp at hj; subst hj
    unfold cellEq at h
    obtain ⟨b, hb, _⟩ := lookK_spec _ _ _ h.2
    exact ⟨b, hb⟩
  · simp at hj; subst hj
    unfold cellEq at h
    obtain ⟨b, hb, _⟩ := lookK_spec _ _ _ h
    exact ⟨b, hb⟩
  · cases hj
theorem lentCs_look {bs : List (Nat × Blk)} {σ : List Nat} : ∀ (l l' : List Cell), cellsEq bs σ l l' → ∀ j ∈ lentCs l l', ∃ b, look bs j = some b
  | [], [], _, j, hj => by cases hj
  | c :: l, c' :: l', h, j, hj => by
    rcases List.mem_append.1 hj with hj | hj
    · exact lentC_look h.1 j hj
    · exact lentCs_look l l' h.2 j hj
  | [], _ :: _, h, _, _ => h.elim
  | _ :: _, [], h, _, _ => h.elim
theorem lentS_look {bs : List (Nat × Blk)} {σ : List Nat} {c c' : Sv} (h : svEq bs σ c c') : ∀ j ∈ lentS c c', ∃ b, look bs j = some b := by
  cases c <;> cases c' <;> first | exact lentC_look h | exact lentCs_look _ _ h | exact h.elim
theorem lentT_look {bs : List (Nat × Blk)} {σ : List Nat} : ∀ (l l' : List Sv), svsEq bs σ l l' → ∀ j ∈ lentT l l', ∃ b, look bs j = some b
  | [], [], _, j, hj => by cases hj
  | c :: l, c' :: l', h, j, hj => by
    rcases List.mem_append.1 hj with hj | hj
    · exact lentS_look h.1 j hj
    · exact lentT_look l l' h.2 j hj
  | [], _ :: _, h, _, _ => h.elim
  | _ :: _, [], h, _, _ => h.elim
theorem lentR_look {bs : List (Nat × Blk)} {σ : List Nat} {c c' : RV} (h : rvEq bs σ c c') : ∀ j ∈ lentR c c', ∃ b, look bs j = some b := by
  cases c <;> cases c' <;> first | exact lentS_look h | exact lentT_look _ _ h | (intro j hj; cases hj; done) | exact h.elim
theorem lentRs_look {bs : List (Nat × Blk)} {σ : List Nat} : ∀ (l l' : List RV), rvsEq bs σ l l' → ∀ j ∈ lentRs l l', ∃ b, look bs j = some b
  | [], [], _, j, hj => by cases hj
  | c :: l, c' :: l', h, j, hj => by
    rcases List.mem_append.1 hj with hj | hj
    · exact lentR_look h.1 j hj
    · exact lentRs_look l l' h.2 j hj
  | [], _ :: _, h, _, _ => h.elim
  | _ :: _, [], h, _, _ => h.elim
/-- What is told, at the names that it gives. -/
theorem ent_core {st : St} {a : Act} {w : World} (h : RepS d F O0 hs0 w0 st a w) {m : Nat} (hm : ∀ j, m ≤ j → hs0 j = none) {regs : List RV} {blks : List (Nat × Blk)} {σ : List Nat}
    (hid : idB 0 m σ = true) (hnd : nodupB σ = true) (hdis : disjB σ (lentRs regs st.regs) = true) (hr : rvsEq st.blks σ regs st.regs) (hb : blksEq st.blks σ blks) :
    ∃ hs : Names, WRep F hs (look blks) w ∧ Regs (Osum F hs (look blks)) w hs (fun t => regs[t]?) a.tmps ∧ (∀ j, σ.length ≤ j → hs j = none) ∧ Since O0 hs0 w0 hs (look blks) w := by
  obtain ⟨⟨hs, hw, hR, hf, hS⟩, hd⟩ := h
  have hσget : ∀ (i j : Nat), σ[i]? = some j → i < σ.length ∧ σ.getD i 0 = j := fun i j h => ⟨(List.getElem?_eq_some_iff.1 h).1, by rw [List.getD_eq_getElem?_getD, h]; rfl⟩
  have hσ : ∀ (i j : Nat) (h : Value), σ[i]? = some j → hs j = some h → (fun i => if i < σ.length then hs (σ.getD i 0) else none) i = some h := by
    intro i j h h1 h2
    obtain ⟨h3, h4⟩ := hσget i j h1
    simp only [h3, if_true, h4, h2]
  have hblk : ∀ i b, look blks i = some b → ∃ j b' h, σ[i]? = some j ∧ look st.blks j = some b' ∧ hs j = some h ∧ blkEq σ b b' ∧ BlkRel (Osum F hs (look st.blks)) w hs b' h := by
    intro i b hbi
    obtain ⟨j, b', h1, h2, h3⟩ := blksEq_spec _ hb (i, b) (look_mem _ i b hbi)
    obtain ⟨h, hh, hr⟩ := hw.blk j b' h2
    exact ⟨j, b', h, h1, h2, hh, h3, hr⟩
  have hown : ∀ x, own (fun i => if i < σ.length then hs (σ.getD i 0) else none) (look blks) x → ∃ i j b' h, σ[i]? = some j ∧ look st.blks j = some b' ∧ hs j = some h ∧ owner b' h = some x ∧ ∃ b, look blks i = some b := by
    rintro x ⟨i, b, u, hb, hu, hx⟩
    obtain ⟨j, b', h, h1, h2, h3, h4, h5⟩ := hblk i b hb
    have hu2 : some h = some u := (hσ i j h h1 h3).symm.trans hu
    rw [← Option.some.inj hu2] at hx
    exact ⟨i, j, b', h, h1, h2, h3, (blkEq_rel (O' := Osum F hs (look st.blks)) hw (fun _ h => h) hσ b b' h4 h5).2 x hx, b, hb⟩
  have hO1 : ∀ x, own (fun i => if i < σ.length then hs (σ.getD i 0) else none) (look blks) x → own hs (look st.blks) x := by
    intro x hx
    obtain ⟨i, j, b', h, _, h2, h3, h4, _⟩ := hown x hx
    exact ⟨j, b', h, h2, h3, h4⟩
  have hO : ∀ x, Osum F (fun i => if i < σ.length then hs (σ.getD i 0) else none) (look blks) x → Osum F hs (look st.blks) x := fun x hx => hx.imp id (hO1 x)
  have hLent : ∀ j ∈ lentRs regs st.regs, Lent st.blks hs (look st.blks) (Osum F (fun i => if i < σ.length then hs (σ.getD i 0) else none) (look blks)) j := by
    intro j hj
    obtain ⟨b, hbj⟩ := lentRs_look _ _ hr j hj
    refine ⟨b, hbj, hbj, fun x h hh hx hO' => ?_⟩
    rcases hO' with hF | hO'
    · exact hw.apart x hF ⟨j, b, h, hbj, hh, hx⟩
    · obtain ⟨i, j', b', h', h1, h2, h3, h4, _⟩ := hown x hO'
      have e := hw.sep _ _ _ _ _ _ x hbj h2 hh h3 hx h4
      have hj' : j' ∈ σ := List.mem_of_getElem? h1
      have hd := List.all_eq_true.1 hdis j' hj'
      simp only [Bool.not_eq_true', List.contains_eq_mem, decide_eq_false_iff_not] at hd
      exact hd (by rw [← e]; exact hj)
  obtain ⟨hlen, hreg⟩ := rvsEq_rel hw hO hσ regs st.regs hLent hr
  refine ⟨fun i => if i < σ.length then hs (σ.getD i 0) else none, ⟨?_, ?_, hw.lt, fun x hx h => hw.apart x hx (hO1 x h)⟩, fun t rv ht => ?_, fun j hj => ?_, ⟨fun j h hj => ?_, hS.fr, fun x hx => hS.own x (hO1 x hx)⟩⟩
  · intro i b hbi
    obtain ⟨j, b', h, h1, h2, h3, h4, h5⟩ := hblk i b hbi
    exact ⟨h, hσ i j h h1 h3, (blkEq_rel hw hO hσ b b' h4 h5).1⟩
  · intro i i' bi bj hi hi' x hbi hbj hhi hhj hoi hoj
    obtain ⟨j, b', h, h1, h2, h3, h4, h5⟩ := hblk i bi hbi
    obtain ⟨j', b'', h', h1', h2', h3', h4', h5'⟩ := hblk i' bj hbj
    have hu2 : some h = some hi := (hσ i j h h1 h3).symm.trans hhi
    have hu2' : some h' = some hi' := (hσ i' j' h' h1' h3').symm.trans hhj
    rw [← Option.some.inj hu2] at hoi
    rw [← Option.some.inj hu2'] at hoj
    have e1 := (blkEq_rel (O' := Osum F hs (look st.blks)) hw (fun _ h => h) hσ bi b' h4 h5).2 x hoi
    have e2 := (blkEq_rel (O' := Osum F hs (look st.blks)) hw (fun _ h => h) hσ bj b'' h4' h5').2 x hoj
    have := hw.sep j j' b' b'' h h' x h2 h2' h3 h3' e1 e2
    subst this
    exact nodupB_spec σ hnd i i' j h1 h1'
  · have hlt : t < st.regs.length := by rw [hlen]; exact (List.getElem?_eq_some_iff.1 ht).1
    obtain ⟨u, hu, _⟩ := hR t _ (List.getElem?_eq_getElem hlt)
    refine ⟨u, hu, hreg t rv u ht fun c' hc' => ?_⟩
    obtain ⟨u', hu', hru⟩ := hR t c' hc'
    rw [hu] at hu'; cases hu'
    exact hru
  · have : ¬ j < σ.length := by omega
    simp only [this, if_false]
  · have hjm : j < m := by
      rcases Nat.lt_or_ge j m with h' | h'
      · exact h'
      · rw [hm j h'] at hj; cases hj
    have := idB_spec σ 0 m hid j hjm
    rw [Nat.zero_add] at this
    exact hσ j j h this (hS.names j h hj)
end
end Go.Eng
namespace Go.Eng
open Go
/-- From w to w' only objects that hold neither cells nor entries have turned, none of them below b. -/
structure Oth (b : Nat) (w w' : World) : Prop where
  os : w'.os = w.os
  tape : w'.tape = w.tape
  output : w'.output = w.output
  size : w.heap.size ≤ w'.heap.size
  low : ∀ x, x < b → w'.heap[x]? = w.heap[x]?
  same : ∀ (x : Nat) (o : Obj), w.heap[x]? = some o → cm o = true → w'.heap[x]? = some o
theorem Oth.alloc (b : Nat) (w : World) (o : Obj) (hb : b ≤ w.heap.size) : Oth b w (w.alloc o) where
  os := rfl
  tape := rfl
  output := rfl
  size := by simp
  low := fun x hx => by
    show (w.heap.push o)[x]? = _
    rw [Array.getElem?_push, if_neg (by omega)]
  same := fun x p hx _ => by
    show (w.heap.push o)[x]? = _
    have := (Array.getElem?_eq_some_iff.1 hx).1
    rw [Array.getElem?_push, if_neg (by omega)]
    exact hx
theorem Oth.put {b : Nat} {w : World} {l : Nat} {o : Obj} (o' : Obj) (hl : w.heap[l]? = some o) (ho : cm o = false) (hb : b ≤ l) : Oth b w (w.putObj l o') where
  os := rfl
  tape := rfl
  output := rfl
  size := by simp
  low := fun x hx => World.putObj_heap_other (by omega)
  same := fun x p hx hp => by
    have : x ≠ l := by
      rintro rfl
      rw [hl] at hx; cases hx
      rw [ho] at hp; cases hp
    exact (World.putObj_heap_other this).trans hx
theorem Oth.trans {b : Nat} {u v w : World} (h : Oth b u v) (k : Oth b v w) : Oth b u w where
  os := k.os.trans h.os
  tape := k.tape.trans h.tape
  output := k.output.trans h.output
  size := Nat.le_trans h.size k.size
  low := fun x hx => (k.low x hx).trans (h.low x hx)
  same := fun x o hx ho => k.same x o (h.same x o hx ho) ho
theorem Oth.cell {b : Nat} {w w' : World} (h : Oth b w w') {a : Addr} {v : Value} (hc : w.cell? a = some v) : w'.cell? a = some v := by
  have h0 := hc
  simp only [World.cell?] at h0
  split at h0
  · rename_i c ty pr hb
    have := h.same a.block _ hb rfl
    simp only [World.cell?, this]
    exact h0
  · cases h0
theorem Rel.oth {O : Nat → Prop} {b : Nat} {w w' : World} (h0 : Oth b w w') : ∀ (c : Cell) (hs : Names) (u : Value), Rel O w c hs u → Rel O w' c hs u
  | .v x, _, _, h => h
  | .ptr j off, _, _, h => h
  | .pro k g, hs, u, h => by
    obtain ⟨b, off, h1, h2, h3, h4⟩ := h
    refine ⟨b, off, h1, h2, Nat.lt_of_lt_of_le h3 h0.size, fun t ht => ?_⟩
    obtain ⟨x, h5, h6⟩ := h4 t ht
    exact ⟨x, h0.cell h5, Rel.oth h0 (g t) _ _ h6⟩
  | .pix j base len i, _, _, h => h
  | .pxs j base len m i, _, _, h => h
  | .pos j k i t, _, _, h => h
  | .ro n k tight g, hs, u, h => by
    obtain ⟨a, cap, h1, h2, h3, h3', h4⟩ := h
    refine ⟨a, cap, h1, h2, h3, h3', fun hn => ?_⟩
    obtain ⟨b, off, h5, h6, h7, h8⟩ := h4 hn
    refine ⟨b, off, h5, h6, Nat.lt_of_lt_of_le h7 h0.size, fun i hi t ht => ?_⟩
    obtain ⟨x, h9, h10⟩ := h8 i hi t ht
    exact ⟨x, h0.cell h9, Rel.oth h0 (g i t) _ _ h10⟩
  | .osl j, _, _, h => h
  | .psl j off n k, _, _, h => h
  | .osv j k a n, _, _, h => h
  | .mp j, _, _, h => h
  | .fn f caps, _, _, h => h
  | .bfn f caps, _, _, h => h
  | .bq, _, _, h => h
  | .any, _, _, h => h
theorem SvRel.oth {O : Nat → Prop} {b : Nat} {w w' : World} (h0 : Oth b w w') {x : Sv} {hs : Names} {u : Value} (h : SvRel O w x hs u) : SvRel O w' x hs u := by
  cases x with
  | c x => exact Rel.oth h0 x _ _ h
  | agg l =>
    obtain ⟨cs, h1, h2, h3⟩ := h
    exact ⟨cs, h1, h2, fun i c v hc hv => Rel.oth h0 c _ _ (h3 i c v hc hv)⟩
theorem RVRel.oth {O : Nat → Prop} {b : Nat} {w w' : World} (h0 : Oth b w w') {x : RV} {hs : Names} {u : Value} (h : RVRel O w x hs u) : RVRel O w' x hs u := by
  cases x with
  | s x => exact SvRel.oth h0 h
  | un => exact h
  | any => trivial
  | tup l =>
    obtain ⟨cs, h1, h2, h3⟩ := h
    exact ⟨cs, h1, h2, fun i c v hc hv => SvRel.oth h0 (h3 i c v hc hv)⟩
theorem BlkRel.oth {O : Nat → Prop} {b : Nat} {w w' : World} (h0 : Oth b w w') {hs : Names} {x : Blk} {v : Value} (h : BlkRel O w hs x v) : BlkRel O w' hs x v := by
  cases x with
  | row ty cells =>
    obtain ⟨x, cs, h1, h2, h3, h4⟩ := h
    exact ⟨x, cs, h1, h0.same x _ h2 rfl, h3, fun i c u hc hu => Rel.oth h0 c _ _ (h4 i c u hc hu)⟩
  | slc ty k n g =>
    rcases h with h | ⟨x, cap, cs, h1, h2, h2', h3, h4, h5⟩
    · exact .inl h
    · exact .inr ⟨x, cap, cs, h1, h2, h2', h0.same x _ h3 rfl, h4, fun i hi t ht u hu => Rel.oth h0 _ _ _ (h5 i hi t ht u hu)⟩
  | fsl k n g => exact Rel.oth h0 _ _ _ h
  | imap f =>
    obtain ⟨r, es, clk, h1, h2, h3⟩ := h
    exact ⟨r, es, clk, h1, h0.same r _ h2 rfl, h3⟩
  | pmap f =>
    obtain ⟨r, es, clk, h1, h2, h3⟩ := h
    exact ⟨r, es, clk, h1, h0.same r _ h2 rfl, h3⟩
  | smap f =>
    obtain ⟨r, es, clk, h1, h2, h3⟩ := h
    exact ⟨r, es, clk, h1, h0.same r _ h2 rfl, h3⟩
  | gone => trivial
theorem WRep.oth {F : Nat → Prop} {hs : Names} {B : Mem} {b : Nat} {w w' : World} (h0 : Oth b w w') (h : WRep F hs B w) : WRep F hs B w' :=
  ⟨fun j x hj => by obtain ⟨u, hu, hr⟩ := h.blk j x hj; exact ⟨u, hu, BlkRel.oth h0 hr⟩, h.sep, fun x hx => Nat.lt_of_lt_of_le (h.lt x hx) h0.size, h.apart⟩
theorem rep_oth {d : Dfr} {F : Nat → Prop} {O0 : Nat → Prop} {hs0 : Names} {w0 : World} {st : St} {a : Act} {w w' : World} (h : RepS d F O0 hs0 w0 st a w) (h0 : Oth w0.heap.size w w') (hd : DOK d a.defers w') : RepS d F O0 hs0 w0 st a w' := by
  obtain ⟨⟨hs, hw, hR, hf, hS⟩, _⟩ := h
  refine ⟨⟨hs, hw.oth h0, fun t rv ht => ?_, hf, ⟨hS.names, ⟨h0.os.trans hS.fr.os, h0.tape.trans hS.fr.tape, h0.output.trans hS.fr.output, Nat.le_trans hS.fr.size h0.size, fun x hx hn => ?_⟩, hS.own⟩⟩, hd⟩
  · obtain ⟨u, hu, hr⟩ := hR t rv ht
    exact ⟨u, hu, RVRel.oth h0 hr⟩
  · exact (h0.low x hx).trans (hS.fr.block x hx hn)
theorem since_trans {O1 : Nat → Prop} {hs hsW : Names} {w W w' : World} {C : Mem} {hs' : Names} {C' : Mem} (h : Since O1 hs w hsW C W) (k : Since (own hsW C) hsW W hs' C' w') : Since O1 hs w hs' C' w' :=
  ⟨fun j x hx => k.names j x (h.names j x hx), h.fr.trans k.fr h.own, fun x hx => (k.own x hx).elim (h.own x) fun hx => .inr (Nat.le_trans h.fr.size hx)⟩
/-- Told anew since w. -/
theorem rep_base {d : Dfr} {F : Nat → Prop} {O1 : Nat → Prop} {hs hsW : Names} {w W w' : World} {bs : List (Nat × Blk)} {st : St} {a : Act} (h : Since O1 hs w hsW (look bs) W) (k : RepS d F (own hsW (look bs)) hsW W st a w') : RepS d F O1 hs w st a w' := by
  obtain ⟨⟨hs', hw, hR, hf, hS⟩, hd⟩ := k
  exact ⟨⟨hs', hw, hR, hf, since_trans h hS⟩, hd⟩
/-- The blocks σ let go. -/
def delB (σ : List Nat) : List (Nat × Blk) → List (Nat × Blk)
  | [] => []
  | (j, b) :: l => match memN j σ with
    | true => (j, .gone) :: delB σ l
    | false => (j, b) :: delB σ l
def delB0 (σ : List Nat) : List (Nat × Blk) → List (Nat × Blk)
  | [] => []
  | (j, b) :: l => match memN j σ with
    | true => delB0 σ l
    | false => (j, b) :: delB0 σ l
theorem look_delB0 (σ : List Nat) : ∀ (l : List (Nat × Blk)) (j : Nat), look (delB0 σ l) j = if memN j σ then none else look l j
  | [], j => by simp [delB0, look]
  | (i, b) :: l, j => by
    unfold delB0
    cases hm : memN i σ with
    | true =>
      simp only [look_delB0 σ l j, look]
      by_cases e : i = j
      · subst e; simp [hm]
      · simp [e]
    | false =>
      simp only [look, look_delB0 σ l j]
      by_cases e : i = j
      · subst e; simp [hm]
      · simp [e]
theorem look_delB (σ : List Nat) : ∀ (l : List (Nat × Blk)) (j : Nat), look (delB σ l) j = if memN j σ then (look l j).map (fun _ => .gone) else look l j
  | [], j => by simp [delB, look]
  | (i, b) :: l, j => by
    unfold delB
    cases hm : memN i σ with
    | true =>
      simp only [look, look_delB σ l j]
      by_cases e : i = j
      · subst e; simp [hm]
      · simp [e]
    | false =>
      simp only [look, look_delB σ l j]
      by_cases e : i = j
      · subst e; simp [hm]
      · simp [e]
theorem own_delB {σ : List Nat} {hs : Names} {l : List (Nat × Blk)} {x : Nat} (h : own hs (look (delB σ l)) x) : ∃ j b u, memN j σ = false ∧ look l j = some b ∧ hs j = some u ∧ owner b u = some x := by
  obtain ⟨j, b, u, hb, hu, ho⟩ := h
  rw [look_delB] at hb
  cases hm : memN j σ with
  | true =>
    rw [hm, if_pos rfl] at hb
    cases hl : look l j with
    | none => rw [hl] at hb; cases hb
    | some c =>
      rw [hl] at hb
      have hb : Blk.gone = b := by simpa using hb
      subst hb
      simp [owner] at ho
  | false =>
    rw [hm] at hb
    exact ⟨j, b, u, hm, by simpa using hb, hu, ho⟩
theorem own_delB_eq {σ : List Nat} {hs : Names} {l : List (Nat × Blk)} : own hs (look (delB σ l)) = own hs (look (delB0 σ l)) := by
  funext x
  refine propext ⟨fun h => ?_, fun h => ?_⟩
  · obtain ⟨j, b, u, hm, hb, hu, ho⟩ := own_delB h
    exact ⟨j, b, u, by rw [look_delB0, hm]; simpa using hb, hu, ho⟩
  · obtain ⟨j, b, u, hb, hu, ho⟩ := h
    rw [look_delB0] at hb
    split at hb
    · cases hb
    · rename_i hm
      exact ⟨j, b, u, by rw [look_delB, if_neg hm]; exact hb, hu, ho⟩
/-- Behind the rounds: the registers as they were; the blocks that were handed to the iterator are let go. -/
theorem range_back {d d' : Dfr} {F F2 : Nat → Prop} (hF : ∀ x, F x → F2 x) {O0 : Nat → Prop} {hs0 : Names} {w0 : World} {hs : Names} {w W : World} {regs : List RV} {bs : List (Nat × Blk)} {σ : List Nat} {bl : List (Nat × Blk)} {nx : Nat} {a a' : Act} {a2 : Act}
    (hR : Regs (Osum F hs (look bs)) w hs (fun t => regs[t]?) a.tmps) (hS : Since O0 hs0 w0 hs (look bs) w)
    (k : RepS d' F2 (own hs (look (delB σ bs))) hs w ⟨[], bl, nx⟩ a2 W) (ht : a'.tmps = a.tmps) (hd : DOK d a'.defers W) : RepS d F O0 hs0 w0 ⟨regs, bl, nx⟩ a' W := by
  obtain ⟨⟨hs', hw', _, hf', hS'⟩, _⟩ := k
  have hO1 : ∀ x, own hs (look (delB σ bs)) x → own hs (look bs) x := by
    rintro x hx
    obtain ⟨j, b, u, _, hb, hu, ho⟩ := own_delB hx
    exact ⟨j, b, u, hb, hu, ho⟩
  refine ⟨⟨hs', ⟨fun j b hj => ?_, hw'.sep, fun x hx => hw'.lt x (hF x hx), fun x hx => hw'.apart x (hF x hx)⟩, fun t rv h => ?_, hf', ⟨fun j x hx => hS'.names j x (hS.names j x hx), hS.fr.trans hS'.fr fun x hx => hS.own x (hO1 x hx), fun x hx => ?_⟩⟩, hd⟩
  · obtain ⟨u, hu, hr⟩ := hw'.blk j b hj
    exact ⟨u, hu, BlkRel.mono (Nat.le_refl _) (fun _ _ _ => rfl) (fun x hx => .inl (hx.imp (hF x) id)) (fun _ _ h => h) (fun _ _ => rfl) hr⟩
  · obtain ⟨u, hu, hr⟩ := hR t rv h
    rw [← ht] at hu
    refine ⟨u, hu, RVRel.mono hS'.fr.size (fun x hx hn => hS'.fr.block x hx fun h => hn (.inr (hO1 x h))) (fun x hx => ?_) hS'.names hr⟩
    rcases hx with hx | hx
    · exact .inl (.inl hx)
    · exact (hS'.own x hx).imp (fun h => .inr (hO1 x h)) id
  · rcases hS'.own x hx with h | h
    · exact hS.own x (hO1 x h)
    · exact .inr (Nat.le_trans hS.fr.size h)
/-- Ahead of the rounds. -/
theorem range_start {d : Dfr} {F : Nat → Prop} {hs : Names} {w : World} {bs : List (Nat × Blk)} {σ : List Nat} {nx : Nat} {a2 : Act} (hw : WRep F hs (look bs) w) (hf : ∀ j, nx ≤ j → hs j = none) (hd : DOK d a2.defers w) :
    ∃ F2 : Nat → Prop, (∀ x, F x → F2 x) ∧ (∀ x, F2 x → Osum F hs (look bs) x) ∧ RepS d F2 (own hs (look (delB σ bs))) hs w ⟨[], delB σ bs, nx⟩ a2 w := by
  have hsub : Sub (look (delB0 σ bs)) (look bs) := by
    intro j b hj
    rw [look_delB0] at hj
    split at hj
    · cases hj
    · exact hj
  obtain ⟨_, h2⟩ := part_rep hsub hw
  have hO : ∀ F' : Nat → Prop, Osum F' hs (look (delB σ bs)) = Osum F' hs (look (delB0 σ bs)) := fun F' => by
    unfold Osum; rw [own_delB_eq]
  have h3 : WRep (fun x => F x ∨ own hs (fun j => match look (delB0 σ bs) j with | some _ => none | none => look bs j) x) hs (look (delB σ bs)) w := by
    refine ⟨fun j b hj => ?_, fun i j bi bj hi hj x h1 h2' h3 h4 h5 h6 => ?_, h2.lt, fun x hx => by rw [own_delB_eq]; exact h2.apart x hx⟩
    · rw [hO]
      rw [look_delB] at hj
      split at hj
      · cases hl : look bs j with
        | none => rw [hl] at hj; cases hj
        | some c =>
          rw [hl] at hj
          have hj : Blk.gone = b := by simpa using hj
          subst hj
          obtain ⟨u, hu, _⟩ := hw.blk j c hl
          exact ⟨u, hu, trivial⟩
      · rename_i hm
        exact h2.blk j b (by rw [look_delB0, if_neg hm]; exact hj)
    · have key : ∀ i bi hi, look (delB σ bs) i = some bi → owner bi hi = some x → look (delB0 σ bs) i = some bi := by
        intro i bi hi hb ho
        rw [look_delB] at hb
        split at hb
        · cases hl : look bs i with
          | none => rw [hl] at hb; cases hb
          | some c =>
            rw [hl] at hb
            have hb : Blk.gone = bi := by simpa using hb
            subst hb
            simp [owner] at ho
        · rename_i hm
          rw [look_delB0, if_neg hm]; exact hb
      exact h2.sep i j bi bj hi hj x (key i bi hi h1 h5) (key j bj hj h2' h6) h3 h4 h5 h6
  refine ⟨_, fun x hx => .inl hx, fun x hx => ?_, ⟨⟨hs, h3, fun t rv ht => ?_, hf, ⟨fun _ _ h => h, Fr.refl _ _, fun x hx => .inl hx⟩⟩, hd⟩⟩
  · rcases hx with hx | ⟨j, b, u, hb, hu, ho⟩
    · exact .inl hx
    · refine .inr ⟨j, b, u, ?_, hu, ho⟩
      have hb : (match look (delB0 σ bs) j with | some _ => (none : Option Blk) | none => look bs j) = some b := hb
      split at hb
      · cases hb
      · exact hb
  · have ht : ([] : List RV)[t]? = some rv := ht
    simp at ht
theorem own_cm {F : Nat → Prop} {hs : Names} {C : Mem} {w : World} (hC : WRep F hs C w) {x : Nat} (hx : own hs C x) : ∃ o, w.heap[x]? = some o ∧ cm o = true := by
  obtain ⟨j, b, v, hb, hv, hown⟩ := hx
  obtain ⟨v', hv', hr⟩ := hC.blk j b hb
  rw [hv] at hv'; cases hv'
  cases b with
  | row ty cells =>
    obtain ⟨y, cs, h1, h2, _⟩ := hr
    subst h1
    simp [owner] at hown; subst hown
    exact ⟨_, h2, rfl⟩
  | slc ty k n g =>
    rcases hr with ⟨h1, _⟩ | ⟨y, cap, cs, h1, _, _, h3, _⟩
    · subst h1; simp [owner] at hown
    · subst h1; simp [owner] at hown; subst hown
      exact ⟨_, h3, rfl⟩
  | fsl k n g => simp [owner] at hown
  | imap f =>
    obtain ⟨r, es, clk, h1, h2, _⟩ := hr
    subst h1; simp [owner] at hown; subst hown
    exact ⟨_, h2, rfl⟩
  | pmap f =>
    obtain ⟨r, es, clk, h1, h2, _⟩ := hr
    subst h1; simp [owner] at hown; subst hown
    exact ⟨_, h2, rfl⟩
  | smap f =>
    obtain ⟨r, es, clk, h1, h2, _⟩ := hr
    subst h1; simp [owner] at hown; subst hown
    exact ⟨_, h2, rfl⟩
  | gone => simp [owner] at hown
/-- What is neither cells nor entries lies as it lay. -/
theorem rep_keeps {d : Dfr} {F : Nat → Prop} {hs : Names} {C : Mem} {W w : World} (hC : WRep F hs C W) {F' : Nat → Prop} {st : St} {a : Act} (h : RepS d F' (own hs C) hs W st a w) {x : Nat} {o : Obj} (hx : W.heap[x]? = some o) (ho : cm o = false) : w.heap[x]? = some o := by
  obtain ⟨⟨hs', _, _, _, hS⟩, _⟩ := h
  rw [hS.fr.block x (Array.getElem?_eq_some_iff.1 hx).1]
  · exact hx
  · intro hown
    obtain ⟨o', h1, h2⟩ := own_cm hC hown
    rw [hx] at h1; cases h1
    rw [ho] at h2; cases h2
theorem rep_drop {d : Dfr} {d' : Nat} {F : Nat → Prop} {O0 : Nat → Prop} {hs0 : Names} {w0 : World} {st : St} {a : Act} {w : World} (h : RepS d F O0 hs0 w0 st a w) : RepS d' F O0 hs0 w0 ⟨[], st.blks, st.next⟩ { tmps := #[], defers := [] } w := by
  obtain ⟨⟨hs, hw, hR, hf, hS⟩, hd⟩ := h
  refine ⟨⟨hs, hw, fun t rv ht => ?_, hf, hS⟩, DOK.nil _ _⟩
  have ht : ([] : List RV)[t]? = some rv := ht
  simp at ht
end Go.Eng
